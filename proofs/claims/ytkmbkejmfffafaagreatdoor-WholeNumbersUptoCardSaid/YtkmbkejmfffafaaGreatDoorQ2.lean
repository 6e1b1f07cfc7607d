/- Texts joined by this session's own program, part 2. -/
import Derived.Test.YtkmbkejmfffafaaGreatDoorQ1
import Derived.Laws.Slices
import Derived.Laws.StructEq
import Derived.Laws.IdiomStrings
import Derived.Lib.UnsafeStr
import Derived.Lib.Builder
import Derived.MapKept
set_option linter.unusedSectionVars false
set_option linter.unusedVariables false
set_option linter.unusedSimpArgs false
namespace Go.Proofs.YtkmbkejmfffafaaGreatDoor.Refl
open Go
set_option linter.unusedVariables false
section
variable {P : Program} {ρ : Ren} {h h1 : AH} {w : World}
theorem fz_new (n k kd : Nat) : FzOK n 0 0 k kd := ⟨fun j _ _ h => by omega, fun _ => .inl rfl⟩
theorem alloc_cells {cs : List Value} {cs' : Array Value} {e : TypeId} (hr : Rel P.cellsOf ρ h w) (h0 : ρ h.n = none) (hv : LR ρ cs cs'.toList) (hs : ∀ v ∈ cs, scalar v = true) :
    Step P.cellsOf ρ h w (upd ρ h.n ⟨w.heap.size, 0, cs'.size, P.cellsOf e⟩) (h.alloc (.cells cs e 0 0)) (w.alloc (.cells cs' e)) := by
  refine .alloc (x := .cells cs' e) hr h0 rfl ⟨rfl, rfl, rfl⟩ rfl ?_
  have hw : (w.alloc (.cells cs' e)).heap[w.heap.size]? = some (.cells cs' e (0, 0)) := heap_alloc_new w _
  refine ⟨cs', 0, 0, hw, fun i v hi => ?_, fz_new _ _ _, Nat.le_refl _, rfl, fun _ => ⟨rfl, by rw [hv.length, Array.length_toList], fun _ => rfl⟩⟩
  simp only [AObj.cell, nth_eq] at hi
  obtain ⟨v', h1, h2⟩ := hv.get hi
  exact ⟨hs v (List.mem_of_getElem? hi), v', by simpa using h1, h2.mono (Ext.upd h0)⟩
theorem alloc_rowObj {ei : TI} {cs : List Value} {cs' : Array Value} {e : TypeId} {o : AObj} (ho : rowObj ei e cs = some o) (hr : Rel P.cellsOf ρ h w) (h0 : ρ h.n = none) (hv : LR ρ cs cs'.toList) :
    Step P.cellsOf ρ h w (upd ρ h.n ⟨w.heap.size, 0, cs'.size, P.cellsOf e⟩) (h.alloc o) (w.alloc (.cells cs' e)) := by
  unfold rowObj at ho
  cases hu : ei.u8 with
  | false =>
    rw [hu] at ho
    simp only at ho
    cases hs : allB scalar cs with
    | false => rw [hs] at ho; simp at ho
    | true => rw [hs] at ho; simp at ho; subst ho; exact alloc_cells hr h0 hv ((allB_eq _ _).1 hs)
  | true =>
    rw [hu] at ho
    simp only at ho
    cases hb : u8sOf cs with
    | none => rw [hb] at ho; simp at ho
    | some l =>
      rw [hb] at ho; simp at ho; subst ho
      have hcs := u8sOf_some _ _ hb
      refine .alloc (x := .cells cs' e) hr h0 rfl ⟨rfl, rfl, rfl⟩ rfl ?_
      have hw : (w.alloc (.cells cs' e)).heap[w.heap.size]? = some (.cells cs' e (0, 0)) := heap_alloc_new w _
      refine ⟨cs', 0, 0, hw, fun i v hi => ?_, fz_new _ _ _, Nat.le_refl _, rfl, fun _ => ⟨rfl, by rw [← Array.length_toList, ← hv.length, hcs]; simp⟩⟩
      rw [bytesOf_cell (l := l) rfl, ← List.getElem?_map, ← hcs] at hi
      obtain ⟨v', h1, h2⟩ := hv.get hi
      have hsc : scalar v = true := by
        have hm := List.mem_of_getElem? hi
        rw [hcs] at hm
        obtain ⟨b, _, rfl⟩ := List.mem_map.1 hm
        rfl
      exact ⟨hsc, v', by simpa using h1, h2.mono (Ext.upd h0)⟩
theorem aalloc_ok {elem : TypeId} {v v' r : Value} (hx : aalloc elem v h = some (r, h1)) (hr : Rel P.cellsOf ρ h w) (hf : Fr ρ h.n h1.n) (hv : VR ρ v v') :
    h1.ob = h.ob ∧ Did P (do pure (.pointer (some (← newVar elem v')))) ρ h w r h1 := by
  unfold aalloc at hx
  cases hs : allB scalar (vcells v) with
  | false => rw [hs] at hx; simp at hx
  | true =>
    rw [hs] at hx
    simp at hx
    obtain ⟨rfl, rfl⟩ := hx
    have h0 : ρ h.n = none := hf h.n (Nat.le_refl _) (by rw [alloc_n]; omega)
    have st := alloc_cells (e := elem) hr h0 (vcells_VR hv) ((allB_eq _ _).1 hs)
    refine ⟨rfl, _, .pointer (some ⟨w.heap.size, 0, none⟩), _, by simp [newVar, newRow], ?_, st⟩
    exact VR.ptr_mk (im := ⟨w.heap.size, 0, v'.cells.size, P.cellsOf elem⟩) (off := 0) (upd_same _ _ _)
end
theorem foldl_set (off : Nat) : ∀ (l : List Value) (k : Nat) (cs : Array Value), k + off + l.length ≤ cs.size →
    ∀ j : Nat, ((l.zipIdx k).foldl (fun (cs : Array Value) (x : Value × Nat) => cs.setIfInBounds (off + x.2) x.1) cs)[j]? = if off + k ≤ j ∧ j < off + k + l.length then l[j - (off + k)]? else cs[j]? := by
  intro l
  induction l with
  | nil => intro k cs h j; rw [if_neg (by simp only [List.length_nil]; omega)]; rfl
  | cons v l ih =>
    intro k cs h j
    simp only [List.length_cons] at h
    rw [List.zipIdx_cons, List.foldl_cons, ih (k + 1) _ (by simp only [Array.size_setIfInBounds]; omega) j]
    by_cases hj : off + (k + 1) ≤ j ∧ j < off + (k + 1) + l.length
    · rw [if_pos hj, if_pos (by rw [List.length_cons]; omega), show j - (off + k) = j - (off + (k + 1)) + 1 by omega, List.getElem?_cons_succ]
    · rw [if_neg hj, Array.getElem?_setIfInBounds]
      by_cases hjo : off + k = j
      · subst hjo
        have h1 : off + k < cs.size := by omega
        rw [if_pos rfl, if_pos h1, if_pos ⟨Nat.le_refl _, by simp only [List.length_cons]; omega⟩]
        simp
      · rw [if_neg hjo, if_neg (by rw [List.length_cons]; omega)]
theorem size_foldl_set (off : Nat) : ∀ (l : List (Value × Nat)) (cs : Array Value), (l.foldl (fun (cs : Array Value) (x : Value × Nat) => cs.setIfInBounds (off + x.2) x.1) cs).size = cs.size
  | [], _ => rfl
  | x :: l, cs => by rw [List.foldl_cons, size_foldl_set off l]; simp
inductive PR (ρ : Ren) : List (Nat × Value) → List (Nat × Value) → Prop where
  | nil : PR ρ [] []
  | cons {i : Nat} {v v' : Value} {l l' : List (Nat × Value)} (h : VR ρ v v') (hl : PR ρ l l') : PR ρ ((i, v) :: l) ((i, v') :: l')
theorem fill_ok {ρ : Ren} {pl pl' : Nat → Option (Nat × Nat)} (hpl : ∀ i x, pl i = some x → pl' i = some x) : ∀ (ps ps' : List (Nat × Value)) (cs r : List Value) (cs' : Array Value), PR ρ ps ps' →
    LR ρ cs cs'.toList → fillL pl ps cs = some r → ∃ r' : Array Value, Instr.fill pl' cs' ps' = some r' ∧ LR ρ r r'.toList := by
  intro ps
  induction ps with
  | nil =>
    intro ps' cs r cs' hp hc hx
    cases hp
    simp [fillL] at hx
    subst hx
    exact ⟨cs', rfl, hc⟩
  | cons x ps ih =>
    intro ps' cs r cs' hp hc hx
    obtain ⟨i, v⟩ := x
    cases hp with
    | cons hv hp =>
      rename_i v' ps'
      have hx' : (match pl i with | none => none | some p => match Nat.beq (len (vcells v)) p.2 with | false => none | true => match over cs p.1 (vcells v) with | some cs => fillL pl ps cs | none => none) = some r := hx
      cases hpi : pl i with
      | none => rw [hpi] at hx'; simp at hx'
      | some q =>
        obtain ⟨off, size⟩ := q
        rw [hpi] at hx'
        simp only [bq, len_eq] at hx'
        have hvc := vcells_VR hv
        have hl' : v'.cells.size = (vcells v).length := by rw [hvc.length]; simp
        by_cases hsz : (vcells v).length = size
        · simp only [hsz, decide_true] at hx'
          cases ho : over cs off (vcells v) with
          | none => rw [ho] at hx'; simp at hx'
          | some cs2 =>
            rw [ho] at hx'
            simp only at hx'
            obtain ⟨hle, _⟩ := over_some _ _ _ _ ho
            have hcl : cs'.size = cs.length := by rw [hc.length]; simp
            have hz : v'.cells.zipIdx.foldl (fun (cs : Array Value) (x : Value × Nat) => cs.setIfInBounds (off + x.2) x.1) cs' = (v'.cells.toList.zipIdx).foldl (fun (cs : Array Value) (x : Value × Nat) => cs.setIfInBounds (off + x.2) x.1) cs' := by
              rw [← Array.foldl_toList, Array.toList_zipIdx]
            have hnew : LR ρ cs2 ((v'.cells.toList.zipIdx).foldl (fun (cs : Array Value) (x : Value × Nat) => cs.setIfInBounds (off + x.2) x.1) cs').toList := by
              have e1 := size_foldl_set off (v'.cells.toList.zipIdx) cs'
              refine LR.of_get (by rw [over_len ho]; exact hcl.symm.trans e1.symm) fun j u hj => ?_
              rw [Array.getElem?_toList, foldl_set off _ 0 cs' (by rw [Array.length_toList, hl', hcl]; omega)]
              rw [over_get ho] at hj
              simp only [Nat.add_zero, Array.length_toList, hl']
              by_cases hb : off ≤ j ∧ j < off + (vcells v).length
              · rw [if_pos hb] at hj ⊢
                exact hvc.get hj
              · rw [if_neg hb] at hj ⊢
                simpa using hc.get hj
            obtain ⟨r', k1, k2⟩ := ih ps' cs2 r _ hp hnew hx'
            refine ⟨r', ?_, k2⟩
            unfold Instr.fill
            rw [hpl i _ hpi]
            simp only
            rw [if_neg (by simp [hl', hsz, hcl]; omega), hz]
            exact k1
        · simp [hsz] at hx'
end Go.Proofs.YtkmbkejmfffafaaGreatDoor.Refl
namespace Go.Proofs.YtkmbkejmfffafaaGreatDoor.Refl
open Go
set_option linter.unusedVariables false
theorem fin_eq {α β : Type} (h : AH) (f : α → (α → β) → β) (a : α) (k : α → β) (hf : f a k = k a) : fin h f a k = k a := by
  unfold fin; cases h.sym <;> simp [hf]
theorem forceN_eq {α : Type} (n : Nat) (k : Nat → α) : forceN n k = k n := by cases n <;> rfl
theorem forceL_eq {α : Type} : ∀ (l : List UInt8) (k : List UInt8 → α), forceL l k = k l
  | [], k => rfl
  | a :: l, k => by
    show forceL l (fun l => k (a :: l)) = _
    rw [forceL_eq l]
theorem force1_eq {α : Type} (v : Value) (k : Value → α) : force1 v α k = k v := by
  cases v with
  | int kd n => cases n with
    | ofNat m => exact forceN_eq m fun m => k (.int kd (.ofNat m))
    | negSucc m => exact forceN_eq m fun m => k (.int kd (.negSucc m))
  | bool b => cases b <;> rfl
  | pointer a => cases a with
    | none => rfl
    | some a =>
      obtain ⟨b, off, s⟩ := a
      cases s with
      | none => show forceN b (fun b => forceN off fun off => k (ptrV b off)) = _; rw [forceN_eq, forceN_eq]; rfl
      | some s => show forceN b (fun b => forceN off fun off => k (.pointer (some ⟨b, off, some s⟩))) = _; rw [forceN_eq, forceN_eq]
  | slice a n c =>
    show fSl a n c α k = _
    unfold fSl
    rw [forceN_eq, forceN_eq]
    cases a with
    | none => rfl
    | some a =>
      obtain ⟨b, off, s⟩ := a
      cases s with
      | none => show forceN b (fun b => forceN off fun off => k (slV b off n c)) = _; rw [forceN_eq, forceN_eq]; rfl
      | some s => show forceN b (fun b => forceN off fun off => k (.slice (some ⟨b, off, some s⟩) n c)) = _; rw [forceN_eq, forceN_eq]
  | _ => rfl
theorem forceVs_eq {α : Type} : ∀ (l : List Value) (k : List Value → α), forceVs l α k = k l
  | [], k => rfl
  | a :: l, k => by
    show force1 a α (fun v => forceVs l α fun l => k (v :: l)) = _
    rw [force1_eq, forceVs_eq l]
theorem forceV_eq {α : Type} (v : Value) (k : Value → α) : forceV v α k = k v := by
  cases v with
  | tuple cs => show forceVs cs.toList α _ = _; rw [forceVs_eq]
  | int kd n => exact force1_eq (.int kd n) k
  | bool b => exact force1_eq (.bool b) k
  | pointer a => exact force1_eq (.pointer a) k
  | slice a n c => exact force1_eq (.slice a n c) k
  | _ => rfl
theorem head1_eq {α : Type} (v : Value) (k : Value → α) : head1 v α k = k v := by
  cases v with
  | int kd n => rfl
  | bool b => rfl
  | pointer a => exact force1_eq (.pointer a) k
  | slice a n c =>
    cases a with
    | none => rfl
    | some a =>
      obtain ⟨b, off, s⟩ := a
      cases s with
      | none => show forceN b (fun b => forceN off fun off => k (slV b off n c)) = _; rw [forceN_eq, forceN_eq]; rfl
      | some s => show forceN b (fun b => forceN off fun off => k (.slice (some ⟨b, off, some s⟩) n c)) = _; rw [forceN_eq, forceN_eq]
  | _ => rfl
theorem headVs_eq {α : Type} : ∀ (l : List Value) (k : List Value → α), headVs l α k = k l
  | [], k => rfl
  | a :: l, k => by
    show head1 a α (fun v => headVs l α fun l => k (v :: l)) = _
    rw [head1_eq, headVs_eq l]
theorem headV_eq {α : Type} (v : Value) (k : Value → α) : headV v α k = k v := by
  cases v with
  | tuple cs => show headVs cs.toList α _ = _; rw [headVs_eq]
  | agg cs => show headVs cs.toList α _ = _; rw [headVs_eq]
  | int kd n => exact head1_eq (.int kd n) k
  | bool b => rfl
  | pointer a => exact head1_eq (.pointer a) k
  | slice a n c => exact head1_eq (.slice a n c) k
  | _ => rfl
theorem headL_eq {α : Type} (v : Value) (k : Value → α) : headL v α k = k v := by
  have hv := headV_eq v k
  cases v with
  | pointer a =>
    cases a with
    | none => rfl
    | some a =>
      obtain ⟨b, off, s⟩ := a
      cases s with
      | none => show forceN b (fun b => k (ptrV b off)) = _; rw [forceN_eq]; rfl
      | some s => show forceN b (fun b => k (.pointer (some ⟨b, off, some s⟩))) = _; rw [forceN_eq]
  | _ => exact hv
theorem retAgg_some {h h1 : AH} {o : Option (List Value)} {r : Value} (hx : retAgg h o = some (r, h1)) : ∃ l, o = some l ∧ r = .agg ⟨l⟩ ∧ h1 = h := by
  cases o with
  | none => simp [retAgg] at hx
  | some l =>
    simp only [retAgg] at hx
    rw [fin_eq _ _ _ _ (forceVs_eq _ _)] at hx
    simp at hx
    exact ⟨l, rfl, hx.1.symm, hx.2.symm⟩
theorem retStr_some {h h1 : AH} {o : Option (List UInt8)} {r : Value} (hx : retStr h o = some (r, h1)) : ∃ l, o = some l ∧ r = strV l ∧ h1 = h := by
  cases o with
  | none => simp [retStr] at hx
  | some l =>
    simp only [retStr] at hx
    rw [fin_eq _ _ _ _ (forceL_eq _ _)] at hx
    simp at hx
    exact ⟨l, rfl, hx.1.symm, hx.2.symm⟩
theorem retO_some {h h1 : AH} {o : Option Value} {r : Value} (hx : retO h o = some (r, h1)) : o = some r ∧ h1 = h := by
  cases o with
  | none => simp [retO] at hx
  | some v => simp [retO] at hx; exact ⟨by rw [hx.1], hx.2.symm⟩
section
variable {P : Program} {E : Env} (hE : EnvT P E) {t : TypeId} {h h1 : AH} {ρ : Ren} {w : World} {r : Value}
include hE
theorem mapM_places (w : World) : ∀ (l : List Field), (∀ f ∈ l, f.type < P.types.size) →
    (l.mapM fun f => Prod.mk f.offset <$> sizeOf f.type).run P w = .ok (l.map fun f => (f.offset, (fiOf P f).size)) w
  | [], _ => by simp
  | f :: l, hl => by
    simp [List.mapM_cons, (field_type hE.types (hl f (by simp)) w).1, mapM_places w l fun x hx => hl x (by simp [hx])]
theorem abuild_ok {ps ps' : List (Nat × Value)} (hx : abuild E t ps h = some (r, h1)) (hr : Rel P.cellsOf ρ h w) (hp : PR ρ ps ps') :
    h1 = h ∧ Did P (Instr.build t ps'.toArray) ρ h w r h1 := by
  unfold abuild at hx
  cases ht : E.ty.get t with
  | none => rw [ht] at hx; simp at hx
  | some ti =>
    rw [ht] at hx
    obtain ⟨info, T⟩ := hE.at ht
    simp only at hx
    cases hz : ti.zero with
    | none => rw [hz] at hx; simp at hx
    | some z =>
      rw [hz] at hx
      simp only at hx
      have hzv := vcells_VR (flat_VR ρ 5 z (T.flat hz))
      cases h8 : Nat.beq ti.kd 8 with
      | true =>
        rw [h8] at hx
        obtain ⟨l, hl, rfl, rfl⟩ := retAgg_some hx
        obtain ⟨fs, hfs⟩ := T.isStruct h8
        have hty : ∀ f ∈ fs.toList, f.type < P.types.size := fun f hf => by
          have := T.hd; rw [hfs] at this
          simpa [blt_eq] using (allB_eq _ _).1 this f hf
        obtain ⟨r', k1, k2⟩ := fill_ok (ρ := ρ) (pl := placeF ti.fs) (pl' := fun i => (fs.toList.map fun f => (f.offset, (fiOf P f).size))[i]?) (fun i x hi => by
          unfold placeF at hi
          cases hf : nth ti.fs i with
          | none => rw [hf] at hi; simp at hi
          | some f =>
            rw [hf] at hi
            simp at hi
            obtain ⟨fs', fd, g1, g2, g3, g4⟩ := T.field hf
            rw [hfs] at g1; cases g1
            rw [List.getElem?_map, Array.getElem?_toList, g2, ← hi, g3]; rfl) ps ps' _ l z.cells hp hzv hl
        refine ⟨rfl, Did.same hr ?_ (VR.agg (cs' := r') (by simpa using k2))⟩
        have hm := mapM_places hE w fs.toList hty
        have hk : Instr.fill (fun x => Option.map (fun f : Field => (f.offset, (fiOf P f).size)) fs[x]?) z.cells ps' = some r' := by
          rw [← k1]; congr 1; funext i; rw [List.getElem?_map, Array.getElem?_toList]
        simp [Instr.build, T.run_zero _ hz, T.run_u, hfs, Array.mapM_eq_mapM_toList, hm, hk]
      | false =>
        rw [h8] at hx
        simp only at hx
        cases h6 : Nat.beq ti.kd 6 with
        | false => rw [h6] at hx; simp at hx
        | true =>
          rw [h6] at hx
          simp only at hx
          cases hte : E.ty.get ti.el with
          | none => rw [hte] at hx; simp at hx
          | some ei =>
            rw [hte] at hx
            obtain ⟨einfo, TE⟩ := hE.at hte
            obtain ⟨l, hl, rfl, rfl⟩ := retAgg_some hx
            obtain ⟨r', k1, k2⟩ := fill_ok (ρ := ρ) (pl := placeA ei.size) (pl' := fun i => some (i * ei.size, ei.size)) (fun i x hi => by simpa [placeA] using hi) ps ps' _ l z.cells hp hzv hl
            refine ⟨rfl, Did.same hr ?_ (VR.agg (cs' := r') (by simpa using k2))⟩
            simp [Instr.build, T.run_zero _ hz, T.run_u, T.isArray h6, TE.run_size, k1]
end
end Go.Proofs.YtkmbkejmfffafaaGreatDoor.Refl
namespace Go.Proofs.YtkmbkejmfffafaaGreatDoor.Refl
open Go
set_option linter.unusedVariables false
theorem rep_get {α : Type} : ∀ (n : Nat) (l : List α), (rep l n).length = n * l.length ∧ ∀ j, j < n * l.length → (rep l n)[j]? = l[j % l.length]?
  | 0, l => ⟨by rw [Nat.zero_mul]; rfl, fun j hj => by omega⟩
  | n + 1, l => by
    have e : rep l (n + 1) = l ++ rep l n := by show app l (rep l n) = _; rw [app_eq]
    obtain ⟨h1, h2⟩ := rep_get n l
    rw [e]
    refine ⟨by rw [List.length_append, h1, Nat.add_mul, Nat.one_mul, Nat.add_comm], fun j hj => ?_⟩
    by_cases hj1 : j < l.length
    · rw [List.getElem?_append_left hj1, Nat.mod_eq_of_lt hj1]
    · rw [List.getElem?_append_right (by omega), h2 (j - l.length) (by rw [Nat.add_mul, Nat.one_mul] at hj; omega)]
      congr 1
      have : j = (j - l.length) + l.length := by omega
      rw [this, Nat.add_mod_right, Nat.add_sub_cancel]
theorem rep_LR {ρ : Ren} {l : List Value} {z : Array Value} (h : LR ρ l z.toList) (n : Nat) : LR ρ (rep l n) (madeCells z (n * l.length)).toList := by
  obtain ⟨h1, h2⟩ := rep_get n l
  have hz : z.size = l.length := by rw [h.length]; simp
  refine LR.of_get (by rw [h1]; exact (size_madeCells z _).symm) fun j v hj => ?_
  have hjl : j < n * l.length := by rw [← h1]; exact (List.getElem?_eq_some_iff.1 hj).1
  rw [h2 j hjl] at hj
  obtain ⟨v', h3, h4⟩ := h.get hj
  refine ⟨v', ?_, h4⟩
  rw [Array.getElem?_toList]
  simp only [madeCells, Array.getElem?_map, Array.getElem?_range, hjl, if_true, Option.map_some, hz]
  rw [Array.getElem?_toList] at h3
  rw [getElem!_def, h3]
section
variable {P : Program} {E : Env} (hE : EnvT P E) {t : TypeId} {h h1 : AH} {ρ : Ren} {w : World} {r : Value}
include hE
theorem abuildSlice_ok {n : Nat} {ps ps' : List (Nat × Value)} (hx : abuildSlice E t n ps h = some (r, h1)) (hr : Rel P.cellsOf ρ h w) (hf : Fr ρ h.n h1.n) (hp : PR ρ ps ps') :
    h1.ob = h.ob ∧ Did P (Instr.buildSlice t n ps'.toArray) ρ h w r h1 := by
  unfold abuildSlice at hx
  cases ht : E.ty.get t with
  | none => rw [ht] at hx; simp at hx
  | some ti =>
    rw [ht] at hx
    obtain ⟨info, T⟩ := hE.at ht
    simp only at hx
    cases h5 : Nat.beq ti.kd 5 with
    | false => rw [h5] at hx; simp at hx
    | true =>
      rw [h5] at hx
      simp only at hx
      cases hte : E.ty.get ti.el with
      | none => rw [hte] at hx; simp at hx
      | some ei =>
        rw [hte] at hx
        obtain ⟨einfo, TE⟩ := hE.at hte
        simp only [ble_eq] at hx
        by_cases hle0 : n ≤ 16777216 ∧ Nat.mul n ei.size ≤ 16777216
        · obtain ⟨hln, hle⟩ := hle0
          simp only [hle, hln, decide_true, Bool.and_self] at hx
          cases hz : ei.zero with
          | none => rw [hz] at hx; simp at hx
          | some z =>
            rw [hz] at hx
            simp only [bq, len_eq, TE.zlen hz, decide_true] at hx
            cases hfl : fillL (placeA ei.size) ps (rep (vcells z) n) with
            | none => rw [hfl] at hx; simp at hx
            | some cs =>
              rw [hfl] at hx
              simp only at hx
              cases ho : rowObj ei ti.el cs with
              | none => rw [ho] at hx; simp at hx
              | some o =>
                rw [ho] at hx
                simp at hx
                obtain ⟨rfl, rfl⟩ := hx
                have hzv := vcells_VR (flat_VR ρ 5 z (TE.flat hz))
                have hrep := rep_LR hzv n
                rw [TE.zlen hz] at hrep
                obtain ⟨r', k1, k2⟩ := fill_ok (ρ := ρ) (pl := placeA ei.size) (pl' := fun i => some (i * ei.size, ei.size)) (fun i x hi => by simpa [placeA] using hi) ps ps' _ cs _ hp hrep hfl
                have h0 : ρ h.n = none := hf h.n (Nat.le_refl _) (by rw [alloc_n]; omega)
                have st := alloc_rowObj (e := ti.el) ho hr h0 k2
                have hle' : ¬ 16777216 < n * ei.size := by have : Nat.mul n ei.size = n * ei.size := rfl; omega
                refine ⟨rfl, _, .slice (some ⟨w.heap.size, 0, none⟩) n n, _, ?_, ?_, st⟩
                · have hm : Instr.fill (fun i => some (i * ei.size, ei.size)) (Array.map (fun x => z.cells[x % z.cells.size]!) (Array.range (n * ei.size))) ps' = some r' := k1
                  by_cases h00 : n = 0 ∨ ei.size = 0
                  · have h01 : n * ei.size = 0 := by rcases h00 with rfl | h00 <;> simp [*]
                    rw [h01, Array.range_zero'] at hm
                    have hm' : Instr.fill (fun i => some (i * ei.size, ei.size)) #[] ps' = some r' := by simpa using hm
                    simp [Instr.buildSlice, T.run_u, T.isSlice h5, TE.run_size, h01, h00, newRow, Array.range_zero', hm']
                  · have h02 : (n * ei.size = 0) = False := eq_false fun e => h00 (Nat.mul_eq_zero.1 e)
                    simp [Instr.buildSlice, T.run_u, T.isSlice h5, TE.run_size, TE.run_zero _ hz, hle', h02, newRow, hm]
                · exact .slTight ⟨rfl, rfl, ⟨w.heap.size, 0, r'.size, P.cellsOf ti.el⟩, upd_same _ _ _, rfl, rfl⟩ (by unfold LOOSE; omega) (Nat.le_refl _)
        · have : (decide (n ≤ 16777216) && decide (Nat.mul n ei.size ≤ 16777216)) = false := by
            rw [← Bool.decide_and]; simpa using hle0
          rw [this] at hx
          simp at hx
theorem amakeSlice_ok {l l' c c' : Value} (hx : amakeSlice E t l c h = some (r, h1)) (hr : Rel P.cellsOf ρ h w) (hf : Fr ρ h.n h1.n) (hl : VR ρ l l') (hc : VR ρ c c') :
    h1.ob = h.ob ∧ Did P (Instr.makeSlice t l' c') ρ h w r h1 := by
  unfold amakeSlice at hx
  cases hln : asNat l with
  | none => rw [hln] at hx; simp at hx
  | some ln =>
    rw [hln] at hx
    simp only at hx
    cases hcn : asNat c with
    | none => rw [hcn] at hx; simp at hx
    | some cn =>
      rw [hcn] at hx
      simp only at hx
      obtain ⟨kl, _, rfl⟩ := asNat_VR hln hl
      obtain ⟨kc, _, rfl⟩ := asNat_VR hcn hc
      cases ht : E.ty.get t with
      | none => rw [ht] at hx; simp at hx
      | some ti =>
        rw [ht] at hx
        obtain ⟨info, T⟩ := hE.at ht
        simp only at hx
        cases h5 : Nat.beq ti.kd 5 with
        | false => rw [h5] at hx; simp at hx
        | true =>
          rw [h5] at hx
          simp only at hx
          cases hte : E.ty.get ti.el with
          | none => rw [hte] at hx; simp at hx
          | some ei =>
            rw [hte] at hx
            obtain ⟨einfo, TE⟩ := hE.at hte
            simp only [ble_eq, bq, len_eq] at hx
            cases hz : ei.zero with
            | none => rw [hz] at hx; simp at hx
            | some z =>
              rw [hz] at hx
              simp only at hx
              by_cases h1' : ln ≤ cn
              · by_cases h2' : cn ≤ 1099511627776
                · by_cases h3' : ei.bytes ≤ 256
                  · simp only [h1', h2', h3', TE.zlen hz, decide_true] at hx
                    cases ho : rowObj ei ti.el (rep (vcells z) cn) with
                    | none => rw [ho] at hx; simp at hx
                    | some o =>
                      rw [ho] at hx
                      simp at hx
                      obtain ⟨rfl, rfl⟩ := hx
                      have hzv := vcells_VR (flat_VR ρ 5 z (TE.flat hz))
                      have hrep := rep_LR hzv cn
                      rw [TE.zlen hz] at hrep
                      have h0 : ρ h.n = none := hf h.n (Nat.le_refl _) (by rw [alloc_n]; omega)
                      have st := alloc_rowObj (e := ti.el) ho hr h0 hrep
                      have hb : (einfo.bytes : Int) * (cn : Int) ≤ 281474976710656 := by
                        have h4 : einfo.bytes * cn ≤ 256 * 1099511627776 := Nat.mul_le_mul (TE.bytes ▸ h3') h2'
                        have : ((einfo.bytes * cn : Nat) : Int) ≤ 281474976710656 := by omega
                        rwa [Int.natCast_mul] at this
                      have hrun := run_make (P := P) w t ti.el einfo z (T.isSlice h5 ▸ T.hu) TE.hi (TE.zero ▸ hz) kl kc (ln : Int) (cn : Int) (by omega) (by omega) hb (by omega)
                      simp only [Int.toNat_natCast] at hrun
                      rw [← TE.size] at hrun
                      refine ⟨rfl, _, _, _, hrun, ?_, st⟩
                      exact .slTight ⟨rfl, rfl, ⟨w.heap.size, 0, _, P.cellsOf ti.el⟩, upd_same _ _ _, rfl, rfl⟩ (by unfold LOOSE; omega) h1'
                  · simp [h1', h2', h3'] at hx
                · simp [h1', h2'] at hx
              · simp [h1'] at hx
theorem afieldAddr_ok {x x' : Value} {i : Nat} (hx : afieldAddr E t x i h = some (r, h1)) (hr : Rel P.cellsOf ρ h w) (hv : VR ρ x x') : h1 = h ∧ Did P (Instr.fieldAt t x' i) ρ h w r h1 := by
  unfold afieldAddr at hx
  cases hp : asPtr x with
  | none => rw [hp] at hx; simp at hx
  | some p =>
    rw [hp] at hx
    obtain ⟨im, hb, rfl⟩ := asPtr_VR hp hv
    cases ht : E.ty.get t with
    | none => rw [ht] at hx; simp at hx
    | some ti =>
      rw [ht] at hx
      obtain ⟨info, T⟩ := hE.at ht
      simp only at hx
      cases hf : nth ti.fs i with
      | none => rw [hf] at hx; simp at hx
      | some f =>
        rw [hf] at hx
        obtain ⟨fs, fd, g1, g2, g3, g4⟩ := T.field hf
        simp only [bq] at hx
        by_cases h0 : f.size = 0
        · simp [h0] at hx
        · simp [h0] at hx
          obtain ⟨rfl, rfl⟩ := hx
          have hsz := (field_type hE.types g4 w).1
          rw [← g3] at hsz
          refine ⟨rfl, Did.same hr ?_ (VR.ptr_mk hb)⟩
          have hoff : f.off = fd.offset := by rw [g3]; rfl
          have e : im.sh + p.off + fd.offset = im.sh + Nat.add p.off f.off := by rw [hoff]; show _ = im.sh + (p.off + fd.offset); omega
          simp [Instr.fieldAt, T.run_u, g1, g2, Instr.sureAddr, fieldPlace, hsz, h0, Addr.add_lit, e]
theorem aggAt_some {off n : Nat} {l : List Value} (hx : aggAt off n l h = some (r, h1)) : ∃ q, tk n (drp off l) = some q ∧ r = .agg ⟨q⟩ ∧ h1 = h := by
  unfold aggAt at hx
  cases hq : tk n (drp off l) with
  | none => rw [hq] at hx; simp at hx
  | some q => rw [hq] at hx; simp at hx; exact ⟨q, rfl, hx.1.symm, hx.2.symm⟩
theorem agg_LR {off n : Nat} {l q : List Value} {cs' : Array Value} (hq : tk n (drp off l) = some q) (hl : LR ρ l cs'.toList) : LR ρ q (cs'.extract off (off + n)).toList := by
  rw [drp_eq] at hq
  obtain ⟨rfl, _⟩ := tk_some _ _ _ hq
  rw [Array.toList_extract, List.extract_eq_take_drop, Nat.add_sub_cancel_left]
  exact (hl.drop off).take n
theorem afield_ok {x x' : Value} {i : Nat} (hx : afield E t x i h = some (r, h1)) (hr : Rel P.cellsOf ρ h w) (hv : VR ρ x x') : h1 = h ∧ Did P (Instr.field t x' i) ρ h w r h1 := by
  unfold afield at hx
  cases hp : asAgg x with
  | none => rw [hp] at hx; simp at hx
  | some cs =>
    rw [hp] at hx
    obtain ⟨cs', rfl, hl⟩ := asAgg_VR hp hv
    cases ht : E.ty.get t with
    | none => rw [ht] at hx; simp at hx
    | some ti =>
      rw [ht] at hx
      obtain ⟨info, T⟩ := hE.at ht
      simp only at hx
      cases hf : nth ti.fs i with
      | none => rw [hf] at hx; simp at hx
      | some f =>
        rw [hf] at hx
        obtain ⟨fs, fd, g1, g2, g3, g4⟩ := T.field hf
        obtain ⟨hsz, hag⟩ := field_type hE.types g4 w
        rw [← g3] at hsz hag
        have hoff : fd.offset = f.off := by rw [g3]; rfl
        simp only [bq] at hx
        by_cases h0 : f.size = 0
        · simp [h0] at hx
        · simp only [h0, decide_false] at hx
          cases ha : f.agg with
          | true =>
            rw [ha] at hx
            obtain ⟨q, hq, rfl, rfl⟩ := aggAt_some hE hx
            refine ⟨rfl, Did.same hr ?_ (.agg (cs' := cs'.extract f.off (f.off + f.size)) (agg_LR hE hq hl))⟩
            simp [Instr.field, T.run_u, g1, g2, Go.asAgg, part, hag, ha, hsz, hoff]
          | false =>
            rw [ha] at hx
            obtain ⟨hq, rfl⟩ := retO_some hx
            rw [nth_eq] at hq
            obtain ⟨v', k1, k2⟩ := hl.get hq
            refine ⟨rfl, Did.same hr ?_ k2⟩
            rw [Array.getElem?_toList] at k1
            simp [Instr.field, T.run_u, g1, g2, Go.asAgg, part, hag, ha, hoff, k1]
theorem elAddr_ok {el i n : Nat} {p : PA} {im : Im} (hx : elAddr E el p i n h = some (r, h1)) (hb : ρ p.b = some im) : h1 = h ∧ i < n ∧ ∃ ei info, TA P el ei info ∧ r = ptrV p.b (p.off + i * ei.size) := by
  unfold elAddr at hx
  cases hte : E.ty.get el with
  | none => rw [hte] at hx; simp at hx
  | some ei =>
    rw [hte] at hx
    obtain ⟨info, TE⟩ := hE.at hte
    simp only [blt_eq] at hx
    by_cases hi : i < n
    · simp [hi] at hx
      exact ⟨hx.2.symm, hi, ei, info, TE, hx.1.symm⟩
    · simp [hi] at hx
theorem aindexAddr_ok {x x' i i' : Value} (hx : aindexAddr E t x i h = some (r, h1)) (hr : Rel P.cellsOf ρ h w) (hv : VR ρ x x') (hi : VR ρ i i') : h1 = h ∧ Did P (Instr.indexAt t x' i') ρ h w r h1 := by
  unfold aindexAddr at hx
  cases hin : asNat i with
  | none => rw [hin] at hx; simp at hx
  | some n =>
    rw [hin] at hx
    obtain ⟨k, _, rfl⟩ := asNat_VR hin hi
    simp only at hx
    cases ht : E.ty.get t with
    | none => rw [ht] at hx; simp at hx
    | some ti =>
      rw [ht] at hx
      obtain ⟨info, T⟩ := hE.at ht
      simp only at hx
      cases h5 : Nat.beq ti.kd 5 with
      | true =>
        rw [h5] at hx
        simp only at hx
        cases hs : asSl x with
        | none => rw [hs] at hx; simp at hx
        | some s =>
          rw [hs] at hx
          simp only at hx
          cases hsa : s.a with
          | none => rw [hsa] at hx; simp at hx
          | some p =>
            rw [hsa] at hx
            simp only at hx
            rcases asSl_VR hs hv with ⟨rfl, _⟩ | ⟨q, im, g1, g2, g3, g4, rfl⟩ | ⟨q, im, a', c', g1, g2, g3, g4, rfl, g5⟩
            · simp at hsa
            · rw [g1] at hsa; cases hsa
              obtain ⟨rfl, hlt, ei, einfo, TE, rfl⟩ := elAddr_ok hE hx g2
              refine ⟨rfl, Did.same hr ?_ (VR.ptr_mk g2)⟩
              have e : im.sh + p.off + n * ei.size = im.sh + (p.off + n * ei.size) := by omega
              have hlt' : (n : Int) < (s.n : Int) := by omega
              simp [Instr.indexAt, asIntOf, T.run_u, T.isSlice h5, TE.run_size, hlt, Addr.add_lit, e]
            · rw [g1] at hsa; cases hsa
              obtain ⟨rfl, hlt, ei, einfo, TE, rfl⟩ := elAddr_ok hE hx g2
              rcases g5 with ⟨rfl, _⟩ | ⟨h0, _⟩
              · refine ⟨rfl, Did.same hr ?_ (VR.ptr_mk g2)⟩
                have e : im.sh + p.off + n * ei.size = im.sh + (p.off + n * ei.size) := by omega
                simp [Instr.indexAt, asIntOf, T.run_u, T.isSlice h5, TE.run_size, hlt, Addr.add_lit, e]
              · omega
      | false =>
        rw [h5] at hx
        simp only at hx
        cases h6 : Nat.beq ti.kd 6 with
        | false => rw [h6] at hx; simp at hx
        | true =>
          rw [h6] at hx
          simp only at hx
          cases hp : asPtr x with
          | none => rw [hp] at hx; simp at hx
          | some p =>
            rw [hp] at hx
            obtain ⟨im, hb, rfl⟩ := asPtr_VR hp hv
            obtain ⟨rfl, hlt, ei, einfo, TE, rfl⟩ := elAddr_ok hE hx hb
            refine ⟨rfl, Did.same hr ?_ (VR.ptr_mk hb)⟩
            have e : im.sh + p.off + n * ei.size = im.sh + (p.off + n * ei.size) := by omega
            simp [Instr.indexAt, asIntOf, T.run_u, T.isArray h6, Instr.sureAddr, TE.run_size, hlt, Addr.add_lit, e]
theorem aindex_ok {x x' i i' : Value} (hx : aindex E t x i h = some (r, h1)) (hr : Rel P.cellsOf ρ h w) (hv : VR ρ x x') (hi : VR ρ i i') : h1 = h ∧ Did P (Instr.index t x' i') ρ h w r h1 := by
  unfold aindex at hx
  cases hin : asNat i with
  | none => rw [hin] at hx; simp at hx
  | some n =>
    rw [hin] at hx
    obtain ⟨k, _, rfl⟩ := asNat_VR hin hi
    simp only at hx
    cases ht : E.ty.get t with
    | none => rw [ht] at hx; simp at hx
    | some ti =>
      rw [ht] at hx
      obtain ⟨info, T⟩ := hE.at ht
      simp only at hx
      cases h3 : Nat.beq ti.kd 3 with
      | true =>
        rw [h3] at hx
        simp only at hx
        cases hs : asStr x with
        | none => rw [hs] at hx; simp at hx
        | some l =>
          rw [hs] at hx
          obtain ⟨s, rfl, rfl, rfl⟩ := asStr_VR hs hv
          obtain ⟨hq, rfl⟩ := retO_some hx
          rw [nth_eq] at hq
          cases hb : s.data.toList[n]? with
          | none => rw [hb] at hq; simp [optMap] at hq
          | some b =>
            rw [hb] at hq; simp [optMap] at hq; subst hq
            refine ⟨rfl, Did.same hr ?_ (by unfold u8v; exact .int _ _)⟩
            have hb' : s[n]? = some b := by
              have : s.data[n]? = some b := by simpa using hb
              obtain ⟨hlt, hg⟩ := Array.getElem?_eq_some_iff.1 this
              rw [getElem?_pos s n hlt]
              exact congrArg some hg
            simp [Instr.index, asIntOf, T.run_u, T.isString h3, hb']
      | false =>
        rw [h3] at hx
        simp only at hx
        cases h6 : Nat.beq ti.kd 6 with
        | false => rw [h6] at hx; simp at hx
        | true =>
          rw [h6] at hx
          simp only at hx
          cases hp : asAgg x with
          | none => rw [hp] at hx; simp at hx
          | some cs =>
            rw [hp] at hx
            obtain ⟨cs', rfl, hl⟩ := asAgg_VR hp hv
            simp only at hx
            cases hte : E.ty.get ti.el with
            | none => rw [hte] at hx; simp at hx
            | some ei =>
              rw [hte] at hx
              obtain ⟨einfo, TE⟩ := hE.at hte
              simp only [blt_eq] at hx
              by_cases hlt : n < ti.ln
              · simp only [hlt, decide_true] at hx
                cases ha : ei.agg with
                | true =>
                  rw [ha] at hx
                  obtain ⟨q, hq, rfl, rfl⟩ := aggAt_some hE hx
                  have hq' : tk ei.size (drp (n * ei.size) cs) = some q := hq
                  refine ⟨rfl, Did.same hr ?_ (.agg (cs' := cs'.extract (n * ei.size) (n * ei.size + ei.size)) (agg_LR hE hq' hl))⟩
                  simp [Instr.index, asIntOf, T.run_u, T.isArray h6, hlt, part, TE.run_agg, TE.run_size, ha]
                | false =>
                  rw [ha] at hx
                  obtain ⟨hq, rfl⟩ := retO_some hx
                  rw [nth_eq] at hq
                  obtain ⟨v', k1, k2⟩ := hl.get hq
                  refine ⟨rfl, Did.same hr ?_ k2⟩
                  rw [Array.getElem?_toList] at k1
                  have k1' : cs'[n * ei.size]? = some v' := k1
                  simp [Instr.index, asIntOf, T.run_u, T.isArray h6, hlt, part, TE.run_agg, TE.run_size, ha, k1']
              · simp [hlt] at hx
end
end Go.Proofs.YtkmbkejmfffafaaGreatDoor.Refl
namespace Go.Proofs.YtkmbkejmfffafaaGreatDoor.Refl
open Go
set_option linter.unusedVariables false
inductive OV (ρ : Ren) : Option Value → Option Value → Prop where
  | none : OV ρ none none
  | some {v v' : Value} (h : VR ρ v v') : OV ρ (some v) (some v')
section
variable {P : Program} {ρ : Ren} {w : World}
theorem bound_some {d top i : Nat} {v v' : Option Value} (hx : bound d top v = some i) (hv : OV ρ v v') :
    (v = none ∧ v' = none ∧ i = d) ∨ ∃ k, v'= some (.int k (i : Int)) ∧ v.isSome = true ∧ i ≤ top := by
  cases hv with
  | none => simp [bound] at hx; exact .inl ⟨rfl, rfl, hx.symm⟩
  | some h =>
    rename_i u u'
    simp only [bound] at hx
    cases hn : asNat u with
    | none => rw [hn] at hx; simp at hx
    | some n =>
      rw [hn] at hx
      simp only [ble_eq] at hx
      by_cases hle : n ≤ top
      · simp [hle] at hx
        subst hx
        obtain ⟨k, _, rfl⟩ := asNat_VR hn h
        exact .inr ⟨k, rfl, rfl, hle⟩
      · simp [hle] at hx
theorem run_bound (k : IntKind) {i y : Nat} (code : BoundsCode) (h : i ≤ y) : (Instr.sliceBound (.int k (i : Int)) y code).run P w = .ok i w := by
  have := run_sliceBound (P := P) w k (i : Int) y code (by omega) (by omega)
  simpa using this
theorem sliceBounds_ok (isSl : Bool) {n c m hiN loN c' : Nat} {lo lo' hi hi' mx mx' : Option Value} (h1 : OV ρ lo lo') (h2 : OV ρ hi hi') (h3 : OV ρ mx mx') (hm : mxOK hi mx = true)
    (b1 : bound c c mx = some m) (b2 : bound n m hi = some hiN) (b3 : bound 0 hiN lo = some loN) (hc : c ≤ c') (hcc : mx = none ∨ c' = c) :
    (Instr.sliceBounds isSl n c' lo' hi' mx').run P w = .ok (loN, hiN, if mx.isSome then m else c') w := by
  rcases bound_some b1 h3 with ⟨rfl, rfl, rfl⟩ | ⟨km, rfl, hms, hmle⟩
  · -- no third number
    rcases bound_some b2 h2 with ⟨rfl, rfl, rfl⟩ | ⟨kh, rfl, hhs, hhle⟩
    · rcases bound_some b3 h1 with ⟨rfl, rfl, rfl⟩ | ⟨kl, rfl, hls, hlle⟩
      · simp [Instr.sliceBounds]
      · simp [Instr.sliceBounds, run_bound kl _ hlle]
    · have hh' := Nat.le_trans hhle hc
      rcases bound_some b3 h1 with ⟨rfl, rfl, rfl⟩ | ⟨kl, rfl, hls, hlle⟩
      · simp [Instr.sliceBounds, run_bound kh _ hh']
      · simp [Instr.sliceBounds, run_bound kh _ hh', run_bound kl _ hlle]
  · obtain ⟨u, rfl⟩ := Option.isSome_iff_exists.1 hms
    obtain rfl : c' = c := hcc.resolve_left (by simp)
    have hhi : ∃ v, hi = some v := by
      cases hi with
      | none => simp [mxOK] at hm
      | some v => exact ⟨v, rfl⟩
    obtain ⟨v, rfl⟩ := hhi
    rcases bound_some b2 h2 with ⟨h, _⟩ | ⟨kh, rfl, hhs, hhle⟩
    · cases h
    · rcases bound_some b3 h1 with ⟨rfl, rfl, rfl⟩ | ⟨kl, rfl, hls, hlle⟩
      · simp [Instr.sliceBounds, run_bound km _ hmle, run_bound kh _ hhle]
      · simp [Instr.sliceBounds, run_bound km _ hmle, run_bound kh _ hhle, run_bound kl _ hlle]
theorem bounds_le {n c m hiN loN : Nat} {lo lo' hi hi' mx mx' : Option Value} (h1 : OV ρ lo lo') (h2 : OV ρ hi hi') (h3 : OV ρ mx mx') (hn : n ≤ c) (hm : mxOK hi mx = true)
    (b1 : bound c c mx = some m) (b2 : bound n m hi = some hiN) (b3 : bound 0 hiN lo = some loN) : loN ≤ hiN ∧ hiN ≤ m ∧ m ≤ c := by
  have k1 : m ≤ c := by rcases bound_some b1 h3 with ⟨_, _, rfl⟩ | ⟨_, _, _, h⟩ <;> omega
  have k2 : hiN ≤ m := by
    rcases bound_some b2 h2 with ⟨rfl, _, rfl⟩ | ⟨_, _, _, h⟩
    · cases mx with
      | none => simp [bound] at b1; omega
      | some v => simp [mxOK] at hm
    · exact h
  have k3 : loN ≤ hiN := by rcases bound_some b3 h1 with ⟨_, _, rfl⟩ | ⟨_, _, _, h⟩ <;> omega
  exact ⟨k3, k2, k1⟩
end
theorem extract_bytes (s : ByteArray) {l h : Nat} (hh : h ≤ s.data.toList.length) {r : List UInt8} (hr : sub8 s.data.toList l h = some r) : s.extract l h = ⟨⟨r⟩⟩ := by
  unfold sub8 at hr
  rw [drp_eq] at hr
  obtain ⟨rfl, _⟩ := tk_some _ _ _ hr
  apply ByteArray.ext
  rw [ByteArray.data_extract]
  apply Array.ext'
  rw [Array.toList_extract, List.extract_eq_take_drop]
  rfl
section
variable {P : Program} {E : Env} (hE : EnvT P E) {t : TypeId} {h h1 : AH} {ρ : Ren} {w : World} {r : Value}
include hE
theorem slice_tight {a : Option PA} {n c : Nat} {size : Nat} {lo lo' hi hi' mx mx' : Option Value} (hx : sliceTight ⟨a, n, c⟩ size lo hi mx h = some (r, h1))
    (k1 : OV ρ lo lo') (k2 : OV ρ hi hi') (k3 : OV ρ mx mx') (hn : n ≤ c) :
    h1 = h ∧ ∃ l u m : Nat, l ≤ u ∧ u ≤ m ∧ m ≤ c ∧ (∀ (isSl : Bool), (Instr.sliceBounds isSl n c lo' hi' mx').run P w = .ok (l, u, m) w) ∧
      ((m = l ∧ r = slNo a (u - l)) ∨ (m ≠ l ∧ ∃ p, a = some p ∧ r = slV p.b (p.off + l * size) (u - l) (m - l))) := by
  unfold sliceTight at hx
  cases hm : mxOK hi mx with
  | false => rw [hm] at hx; simp at hx
  | true =>
    rw [hm] at hx
    simp only [sliceTight1] at hx
    cases b1 : bound c c mx with
    | none => rw [b1] at hx; simp at hx
    | some m =>
      rw [b1] at hx
      simp only at hx
      cases b2 : bound n m hi with
      | none => rw [b2] at hx; simp at hx
      | some u =>
        rw [b2] at hx
        simp only at hx
        cases b3 : bound 0 u lo with
        | none => rw [b3] at hx; simp at hx
        | some l =>
          rw [b3] at hx
          simp only [bq] at hx
          obtain ⟨g1, g2, g3⟩ := bounds_le k1 k2 k3 hn hm b1 b2 b3
          have hrun : ∀ (isSl : Bool), (Instr.sliceBounds isSl n c lo' hi' mx').run P w = .ok (l, u, m) w := fun isSl => by
            rw [sliceBounds_ok isSl k1 k2 k3 hm b1 b2 b3 (Nat.le_refl _) (.inr rfl)]
            cases mx with
            | none => simp [bound] at b1; simp [b1]
            | some v => simp
          by_cases hml : m = l
          · simp [hml] at hx
            exact ⟨hx.2.symm, l, u, m, g1, g2, g3, hrun, .inl ⟨hml, hx.1.symm⟩⟩
          · simp only [hml, decide_false] at hx
            obtain ⟨hq, rfl⟩ := retO_some hx
            cases a with
            | none => simp [slOf] at hq
            | some p =>
              simp [slOf] at hq
              exact ⟨rfl, l, u, m, g1, g2, g3, hrun, .inr ⟨hml, p, rfl, hq.symm⟩⟩
theorem aslice_ok {x x' : Value} {lo lo' hi hi' mx mx' : Option Value} (hx : aslice E t x lo hi mx h = some (r, h1)) (hr : Rel P.cellsOf ρ h w) (hv : VR ρ x x')
    (k1 : OV ρ lo lo') (k2 : OV ρ hi hi') (k3 : OV ρ mx mx') : h1 = h ∧ Did P (Instr.sliceAt t x' lo' hi' mx') ρ h w r h1 := by
  unfold aslice at hx
  cases ht : E.ty.get t with
  | none => rw [ht] at hx; simp at hx
  | some ti =>
    rw [ht] at hx
    obtain ⟨info, T⟩ := hE.at ht
    simp only at hx
    cases h3 : Nat.beq ti.kd 3 with
    | true =>
      rw [h3] at hx
      simp only at hx
      cases hs : asStr x with
      | none => rw [hs] at hx; simp at hx
      | some l =>
        rw [hs] at hx
        obtain ⟨s, rfl, rfl, rfl⟩ := asStr_VR hs hv
        simp only [sliceStr, len_eq] at hx
        cases k3 with
        | some h => simp at hx
        | none =>
          simp only at hx
          cases b2 : bound s.data.toList.length s.data.toList.length hi with
          | none => rw [b2] at hx; simp at hx
          | some u =>
            rw [b2] at hx
            simp only at hx
            cases b3 : bound 0 u lo with
            | none => rw [b3] at hx; simp at hx
            | some l =>
              rw [b3] at hx
              simp only at hx
              obtain ⟨q, hq, rfl, rfl⟩ := retStr_some hx
              have hb := sliceBounds_ok (P := P) (w := w) false k1 k2 (OV.none (ρ := ρ)) (by simp [mxOK]) (by simp [bound] : bound s.data.toList.length s.data.toList.length none = some s.data.toList.length) b2 b3 (Nat.le_refl _) (.inl rfl)
              have hsz : s.data.toList.length = s.size := rfl
              rw [hsz] at hb b2
              obtain ⟨_, g2, _⟩ := bounds_le k1 k2 (OV.none (ρ := ρ)) (Nat.le_refl _) (by simp [mxOK]) (by simp [bound] : bound s.size s.size none = some s.size) b2 b3
              refine ⟨rfl, Did.same hr ?_ (VR.string _)⟩
              simp [Instr.sliceAt, Instr.slice, T.run_u, T.isString h3, hb, extract_bytes s g2 hq]
    | false =>
      rw [h3] at hx
      simp only at hx
      cases h5 : Nat.beq ti.kd 5 with
      | true =>
        rw [h5] at hx
        simp only at hx
        cases hs : asSl x with
        | none => rw [hs] at hx; simp at hx
        | some s =>
          rw [hs] at hx
          simp only [sliceSl] at hx
          cases hte : E.ty.get ti.el with
          | none => rw [hte] at hx; simp at hx
          | some ei =>
            rw [hte] at hx
            obtain ⟨einfo, TE⟩ := hE.at hte
            simp only at hx
            cases hl : loose s.c with
            | false =>
              rw [hl] at hx
              simp only at hx
              have hc : s.c < LOOSE := by simp only [loose, ble_eq, decide_eq_false_iff_not] at hl; omega
              rcases asSl_VR hs hv with ⟨rfl, rfl⟩ | ⟨p, im, g1, g2, g3, g4, rfl⟩ | ⟨p, im, a', c', g1, g2, g3, _⟩
              · obtain ⟨rfl, l, u, m, j1, j2, j3, hb, j4⟩ := slice_tight (P := P) (w := w) hE hx k1 k2 k3 (Nat.le_refl _)
                have hb := hb true
                obtain rfl : m = 0 := by omega
                obtain rfl : u = 0 := by omega
                obtain rfl : l = 0 := by omega
                rcases j4 with ⟨_, rfl⟩ | ⟨j5, _⟩
                · refine ⟨rfl, Did.same hr ?_ .slNil⟩
                  simp [Instr.sliceAt, Instr.slice, T.run_u, T.isSlice h5, hb, TE.run_size]
                · exact absurd rfl j5
              · obtain ⟨sa, sn, sc⟩ := s
                simp only at g1 g3 g4 hc hx
                subst g1
                obtain ⟨rfl, l, u, m, j1, j2, j3, hb, j4⟩ := slice_tight (P := P) (w := w) hE hx k1 k2 k3 g4
                have hb := hb true
                rcases j4 with ⟨rfl, rfl⟩ | ⟨j5, q, hq, rfl⟩
                · refine ⟨rfl, Did.same hr ?_ (.slTight (a' := ⟨im.blk, im.sh + p.off, none⟩) ⟨rfl, rfl, im, g2, rfl, rfl⟩ (by unfold LOOSE; omega) (by omega))⟩
                  simp [Instr.sliceAt, Instr.slice, T.run_u, T.isSlice h5, hb, TE.run_size]
                · cases hq
                  refine ⟨rfl, Did.same hr ?_ (.slTight (a' := ⟨im.blk, im.sh + (p.off + l * ei.size), none⟩) ⟨rfl, rfl, im, g2, rfl, rfl⟩ (by omega) (by omega))⟩
                  have e : im.sh + p.off + l * ei.size = im.sh + (p.off + l * ei.size) := by omega
                  simp [Instr.sliceAt, Instr.slice, T.run_u, T.isSlice h5, hb, TE.run_size, j5, Addr.add_lit, e]
              · omega
            | true =>
              rw [hl] at hx
              simp only [sliceLoose] at hx
              cases k3 with
              | some h => simp at hx
              | none =>
                simp only at hx
                cases b2 : bound s.n s.n hi with
                | none => rw [b2] at hx; simp at hx
                | some u =>
                  rw [b2] at hx
                  simp only at hx
                  cases b3 : bound 0 u lo with
                  | none => rw [b3] at hx; simp at hx
                  | some l =>
                    rw [b3] at hx
                    simp only at hx
                    cases hsa : s.a with
                    | none => rw [hsa] at hx; simp at hx
                    | some p =>
                      rw [hsa] at hx
                      simp only [isElem] at hx
                      cases he : elemOf (h.obj p.b) with
                      | none => rw [he] at hx; simp at hx
                      | some e' =>
                        rw [he] at hx
                        simp only [bq] at hx
                        by_cases hee : e' = ti.el
                        · simp [hee] at hx
                          obtain ⟨rfl, rfl⟩ := hx
                          rcases asSl_VR hs hv with ⟨rfl, rfl⟩ | ⟨q, im, g1, g2, g3, g4, rfl⟩ | ⟨q, im, a', c', g1, g2, g3, g4, rfl, g5⟩
                          · simp at hsa
                          · simp only [loose, ble_eq, decide_eq_true_eq] at hl; omega
                          · rw [g1] at hsa; cases hsa
                            have hle := bounds_le k1 k2 (OV.none (ρ := ρ)) (Nat.le_refl _) (by simp [mxOK]) (by simp [bound] : bound s.n s.n none = some s.n) b2 b3
                            have hb := sliceBounds_ok (P := P) (w := w) true k1 k2 (OV.none (ρ := ρ)) (by simp [mxOK]) (by simp [bound] : bound s.n s.n none = some s.n) b2 b3 g4 (.inl rfl)
                            simp only [Option.isSome_none] at hb
                            have hes : im.es = ei.size := by
                              have hd : h.obj p.b ≠ .dead := fun e => by rw [e] at he; simp [elemOf] at he
                              have ho := hr.obj p.b im g2 (hr.lt hd)
                              rw [← TE.cells, ← hee]
                              cases hob : h.obj p.b with
                              | dead => exact absurd hob hd
                              | cells cs e fz kd => rw [hob] at ho he; simp [elemOf] at he; subst he; obtain ⟨_, _, _, _, _, _, _, h9, _⟩ := ho; exact h9
                              | bytes cs e fz kd => rw [hob] at ho he; simp [elemOf] at he; subst he; obtain ⟨_, _, _, _, _, _, _, h9, _⟩ := ho; exact h9
                              | map es clock => rw [hob] at he; simp [elemOf] at he
                              | siter s pos => rw [hob] at he; simp [elemOf] at he
                            refine ⟨rfl, ?_⟩
                            by_cases hcl : c' = l
                            · subst hcl
                              have hz : u - c' = 0 := by omega
                              refine Did.same hr (r' := .slice (some a') (u - c') 0) ?_ (.slLoose rfl g2 (by omega) (.inr ⟨hz, rfl⟩))
                              simp [Instr.sliceAt, Instr.slice, T.run_u, T.isSlice h5, hb, TE.run_size]
                            · rcases g5 with ⟨rfl, g6⟩ | ⟨g6, g7⟩
                              · refine Did.same hr (r' := .slice (some ⟨im.blk, im.sh + (p.off + l * ei.size), none⟩) (u - l) (c' - l)) ?_ (.slLoose rfl g2 (by omega) (.inl ⟨⟨rfl, rfl, im, g2, rfl, rfl⟩, ?_⟩))
                                · have e : im.sh + p.off + l * ei.size = im.sh + (p.off + l * ei.size) := by omega
                                  simp [Instr.sliceAt, Instr.slice, T.run_u, T.isSlice h5, hb, TE.run_size, hcl, Addr.add_lit, e]
                                · have : c' = (c' - l) + l := by omega
                                  rw [this, Nat.add_mul, hes] at g6
                                  simp only [hes]
                                  omega
                              · omega
                        · simp [hee] at hx
      | false =>
        rw [h5] at hx
        simp only at hx
        cases h6 : Nat.beq ti.kd 6 with
        | false => rw [h6] at hx; simp at hx
        | true =>
          rw [h6] at hx
          simp only at hx
          cases hp : asPtr x with
          | none => rw [hp] at hx; simp at hx
          | some p =>
            rw [hp] at hx
            obtain ⟨im, hb0, rfl⟩ := asPtr_VR hp hv
            simp only [sliceArr] at hx
            cases hte : E.ty.get ti.el with
            | none => rw [hte] at hx; simp at hx
            | some ei =>
              rw [hte] at hx
              obtain ⟨einfo, TE⟩ := hE.at hte
              simp only at hx
              cases hll0 : loose ti.ln with
              | true => rw [hll0] at hx; simp at hx
              | false =>
              rw [hll0] at hx
              simp only at hx
              simp only [loose, ble_eq, decide_eq_false_iff_not] at hll0
              obtain ⟨rfl, l, u, m, j1, j2, j3, hb, j4⟩ := slice_tight (P := P) (w := w) hE hx k1 k2 k3 (Nat.le_refl _)
              have hb := hb false
              rcases j4 with ⟨rfl, rfl⟩ | ⟨j5, q, hq, rfl⟩
              · refine ⟨rfl, Did.same hr (r' := .slice (some ⟨im.blk, im.sh + p.off, none⟩) (u - m) 0) ?_ (.slTight ⟨rfl, rfl, im, hb0, rfl, rfl⟩ (by unfold LOOSE; omega) (by omega))⟩
                simp [Instr.sliceAt, T.run_u, T.isArray h6, Instr.sureAddr, hb, TE.run_size]
              · cases hq
                have hll : m - l < LOOSE := by omega
                · refine ⟨rfl, Did.same hr (r' := .slice (some ⟨im.blk, im.sh + (p.off + l * ei.size), none⟩) (u - l) (m - l)) ?_ (.slTight ⟨rfl, rfl, im, hb0, rfl, rfl⟩ hll (by omega))⟩
                  have e : im.sh + p.off + l * ei.size = im.sh + (p.off + l * ei.size) := by omega
                  simp [Instr.sliceAt, T.run_u, T.isArray h6, Instr.sureAddr, hb, TE.run_size, j5, Addr.add_lit, e]
end
end Go.Proofs.YtkmbkejmfffafaaGreatDoor.Refl
namespace Go.Proofs.YtkmbkejmfffafaaGreatDoor.Refl
open Go
set_option linter.unusedVariables false
theorem kEq_true {a b : IntKind} (h : kEq a b = true) : a = b := by cases a <;> cases b <;> first | rfl | (simp [kEq] at h)
theorem iEq_eq (a b : Int) : iEq a b = decide (a = b) := by
  cases a <;> cases b <;> simp [iEq, bq] <;> omega
theorem iLt_eq (a b : Int) : iLt a b = decide (a < b) := by
  cases a with
  | ofNat m => cases b with
    | ofNat n => simp [iLt, blt_eq]
    | negSucc n => simp [iLt]; omega
  | negSucc m => cases b with
    | ofNat n => simp [iLt]; omega
    | negSucc n => simp only [iLt, blt_eq, decide_eq_decide]; omega
theorem beqB_eq (a b : Bool) : beqB a b = (a == b) := by cases a <;> cases b <;> rfl
abbrev BinD (P : Program) (op : BinOp) (t : TypeId) (x y : Operand) (a b : Value) (ρ : Ren) (h : AH) (w : World) (r : Value) (h1 : AH) : Prop :=
  Did P (do eqGuard op t x y a b; Go.binOp op t a b) ρ h w r h1
section
variable {P : Program} {t : TypeId} {x y : Operand} {a b a' b' r : Value} {h h1 : AH} {ρ : Ren} {w : World}
theorem two_some {f : IntKind → Int → Int → Value} {i j : IV} (hx : two f i j h = some (r, h1)) : i.k = j.k ∧ r = f i.k i.n j.n ∧ h1 = h := by
  unfold two at hx
  cases hk : kEq i.k j.k with
  | false => rw [hk] at hx; simp at hx
  | true => rw [hk] at hx; simp at hx; exact ⟨kEq_true hk, hx.1.symm, hx.2.symm⟩
theorem ints_ok {op : BinOp} {f : IntKind → Int → Int → Value} (hrun : ∀ k m n, (Go.binOp op t (.int k m) (.int k n)).run P w = .ok (f k m n) w) (hfl : ∀ k m n, VR ρ (f k m n) (f k m n))
    (hx : ints f a b h = some (r, h1)) (hr : Rel P.cellsOf ρ h w) (ha : VR ρ a a') (hb : VR ρ b b') : h1 = h ∧ BinD P op t x y a' b' ρ h w r h1 := by
  unfold ints at hx
  cases hi : asInt a with
  | none => rw [hi] at hx; simp at hx
  | some i =>
    rw [hi] at hx
    obtain ⟨rfl, rfl⟩ := asInt_VR hi ha
    simp only at hx
    cases hj : asInt b with
    | none => rw [hj] at hx; simp at hx
    | some j =>
      rw [hj] at hx
      obtain ⟨rfl, rfl⟩ := asInt_VR hj hb
      obtain ⟨hk, rfl, rfl⟩ := two_some hx
      refine ⟨rfl, Did.same hr ?_ (hfl _ _ _)⟩
      rw [← hk]
      simp [eqGuard_at_int, hrun]
theorem strs_ok {op : BinOp} {g : List UInt8 → List UInt8 → AH → AR}
    (hg : ∀ (s u : ByteArray), g s.data.toList u.data.toList h = some (r, h1) → OB h1 → OB h ∧ Did P (Go.binOp op t (.string s) (.string u)) ρ h w r h1)
    (hx : strs g a b h = some (r, h1)) (hob : OB h1) (ha : VR ρ a a') (hb : VR ρ b b') : OB h ∧ BinD P op t x y a' b' ρ h w r h1 := by
  unfold strs at hx
  cases hi : asStr a with
  | none => rw [hi] at hx; simp at hx
  | some i =>
    rw [hi] at hx
    obtain ⟨s, rfl, rfl, rfl⟩ := asStr_VR hi ha
    simp only at hx
    cases hj : asStr b with
    | none => rw [hj] at hx; simp at hx
    | some j =>
      rw [hj] at hx
      obtain ⟨u, rfl, rfl, rfl⟩ := asStr_VR hj hb
      obtain ⟨k1, ρ', r', w', k2, k3⟩ := hg s u hx hob
      exact ⟨k1, ρ', r', w', by simp [eqGuard_at_string, k2], k3⟩
theorem either_ok {op : BinOp} {f : IntKind → Int → Int → Value} {g : List UInt8 → List UInt8 → AH → AR} (hrun : ∀ k m n, (Go.binOp op t (.int k m) (.int k n)).run P w = .ok (f k m n) w) (hfl : ∀ k m n, VR ρ (f k m n) (f k m n))
    (hg : ∀ (s u : ByteArray), g s.data.toList u.data.toList h = some (r, h1) → OB h1 → OB h ∧ Did P (Go.binOp op t (.string s) (.string u)) ρ h w r h1)
    (hx : either f g a b h = some (r, h1)) (hob : OB h1) (hr : Rel P.cellsOf ρ h w) (ha : VR ρ a a') (hb : VR ρ b b') : OB h ∧ BinD P op t x y a' b' ρ h w r h1 := by
  unfold either at hx
  cases hi : asInt a with
  | none => rw [hi] at hx; exact strs_ok hg hx hob ha hb
  | some i =>
    have : ints f a b h = some (r, h1) := by unfold ints; rw [hi]; rw [hi] at hx; exact hx
    obtain ⟨rfl, k⟩ := ints_ok (x := x) (y := y) hrun hfl this hr ha hb
    exact ⟨hob, k⟩
theorem req_some {c : Bool} {h2 : AH} (hx : h.req c = some h2) : h2.t = h.t ∧ h2.n = h.n ∧ h2.log = h.log ∧ (OB h2 → OB h ∧ c = true) := by
  unfold AH.req at hx
  cases hs : h.sym with
  | false =>
    rw [hs] at hx
    cases c <;> simp at hx
    subst hx
    exact ⟨rfl, rfl, rfl, fun h => ⟨h, rfl⟩⟩
  | true =>
    rw [hs] at hx
    simp at hx
    subst hx
    refine ⟨rfl, rfl, rfl, fun hob => ⟨fun b hb => hob b (List.mem_cons_of_mem _ hb), hob c (List.mem_cons_self ..)⟩⟩
theorem addS_ok (s u : ByteArray) (hr : Rel P.cellsOf ρ h w) (hx : addS s.data.toList u.data.toList h = some (r, h1)) (hob : OB h1) : OB h ∧ Did P (Go.binOp .add t (.string s) (.string u)) ρ h w r h1 := by
  unfold addS at hx
  cases hq : h.req (Nat.ble (Nat.add (len s.data.toList) (len u.data.toList)) 1099511627776) with
  | none => rw [hq] at hx; simp at hx
  | some h2 =>
    rw [hq] at hx
    simp only at hx
    rw [fin_eq _ _ _ _ (forceL_eq _ _)] at hx
    simp at hx
    obtain ⟨rfl, rfl⟩ := hx
    obtain ⟨k1, k2, k3, k4⟩ := req_some hq
    obtain ⟨k5, k6⟩ := k4 hob
    refine ⟨k5, ρ, .string (s ++ u), w, ?_, ?_, .same hr k1 k2 k3 rfl (Str.refl _)⟩
    · rw [ble_eq, decide_eq_true_eq, len_eq, len_eq] at k6
      have hs : s.size + u.size ≤ 1099511627776 := k6
      have : ¬ (9223372036854775807 < (s.size : Int) + (u.size : Int)) := by omega
      simp [Go.binOp, Op.stringOp, this]
    · have : strV (app s.data.toList u.data.toList) = .string (s ++ u) := by
        unfold strV
        congr 1
        apply ByteArray.ext
        rw [ByteArray.data_append]
        apply Array.ext'
        simp [app_eq]
      rw [this]; exact .string _
theorem cmpS_ok {op : BinOp} {c : List UInt8 → List UInt8 → Bool} (s u : ByteArray) (hr : Rel P.cellsOf ρ h w) (hc : (Go.binOp op t (.string s) (.string u)).run P w = .ok (.bool (c s.data.toList u.data.toList)) w)
    (hx : (some (Value.bool (c s.data.toList u.data.toList), h) : AR) = some (r, h1)) (hob : OB h1) : OB h ∧ Did P (Go.binOp op t (.string s) (.string u)) ρ h w r h1 := by
  simp at hx
  obtain ⟨rfl, rfl⟩ := hx
  exact ⟨hob, Did.same hr hc (.bool _)⟩
theorem bytesEq_beq (l r : List UInt8) : bytesEq l r = (l == r) := by
  rw [bytesEq_eq]
  by_cases h : l = r
  · subst h; simp
  · simp [h]
theorem notZero_some (hx : notZero b = true) (hb : VR ρ b b') : ∃ k n, b' = .int k n ∧ n ≠ 0 := by
  unfold notZero at hx
  cases hj : asInt b with
  | none => rw [hj] at hx; simp at hx
  | some j =>
    rw [hj] at hx
    obtain ⟨rfl, rfl⟩ := asInt_VR hj hb
    simp only at hx
    rw [iEq_eq] at hx
    exact ⟨_, _, rfl, by simpa using hx⟩
theorem shft_ok {op : BinOp} {f : IntKind → Int → Nat → Value} (hrun : ∀ k m k2 (n : Nat), (Go.binOp op t (.int k m) (.int k2 (n : Int))).run P w = .ok (f k m n) w) (hfl : ∀ k m n, VR ρ (f k m n) (f k m n))
    (hx : shft f a b h = some (r, h1)) (hr : Rel P.cellsOf ρ h w) (ha : VR ρ a a') (hb : VR ρ b b') : h1 = h ∧ BinD P op t x y a' b' ρ h w r h1 := by
  unfold shft at hx
  cases hi : asInt a with
  | none => rw [hi] at hx; simp at hx
  | some i =>
    rw [hi] at hx
    obtain ⟨rfl, rfl⟩ := asInt_VR hi ha
    simp only at hx
    cases hj : asNat b with
    | none => rw [hj] at hx; simp at hx
    | some n =>
      rw [hj] at hx
      obtain ⟨k, rfl, rfl⟩ := asNat_VR hj hb
      simp at hx
      obtain ⟨rfl, rfl⟩ := hx
      exact ⟨rfl, Did.same hr (by simp [eqGuard_at_int, hrun]) (hfl _ _ _)⟩
end
structure EnvQ (P : Program) (E : Env) : Prop extends EnvT P E where
  eqs : ∀ t ∈ E.eqs, P.eqGuardType P.depth t = false ∧ P.stoodInHeld t = false ∧ ∀ fs, P.underlying t = some (.struct fs) → ∀ f ∈ fs.toList, f.name ≠ "_"
section
variable {P : Program} {E : Env} (hE : EnvQ P E) {t : TypeId} {ti : TI} {info : TypeInfo} (T : TA P t ti info) {h : AH} {ρ : Ren} {w : World} {x' y y' : Value} {c : Bool}
include T
omit T in
theorem equal_of {x y : Value} {c : Bool} (hx : ∀ d, (Op.equalIn (d + 1) t x y).run P w = .ok c w) : (Op.equal t x y).run P w = .ok c w := by
  rw [Op.equal, Op.maxDepth]; exact hx 9999
theorem eqBool_ok {a : Bool} (hx : eqBool ti a y = some c) (hy : VR ρ y y') : (Op.equal t (.bool a) y').run P w = .ok c w := by
  unfold eqBool at hx
  cases hy with
  | bool b =>
    cases hk : Nat.beq ti.kd 1 with
    | false => simp [hk] at hx
    | true =>
      simp [hk] at hx
      rw [← hx, beqB_eq]
      (refine equal_of fun d => ?_; simp [Op.equalIn, T.run_u, T.isBool hk])
  | _ => simp at hx
theorem eqNilI_ok (hx : eqNilI ti y = some c) (hy : VR ρ y y') : (Op.equal t .nilIface y').run P w = .ok c w := by
  unfold eqNilI at hx
  cases hk : Nat.beq ti.kd 10 with
  | false => simp [hk] at hx
  | true =>
    rw [hk] at hx
    obtain ⟨ms, hms⟩ := T.isIface hk
    cases hy with
    | nilIface => simp at hx; subst hx; (refine equal_of fun d => ?_; simp [Op.equalIn, T.run_u, hms])
    | iface h => simp at hx; subst hx; (refine equal_of fun d => ?_; simp [Op.equalIn, T.run_u, hms])
    | _ => simp at hx
theorem eqIface_ok {d : TypeId} {v : Value} (hx : eqIface ti y = some c) (hy : VR ρ y y') : (Op.equal t (.iface d v) y').run P w = .ok c w := by
  unfold eqIface at hx
  cases hk : Nat.beq ti.kd 10 with
  | false => simp [hk] at hx
  | true =>
    rw [hk] at hx
    obtain ⟨ms, hms⟩ := T.isIface hk
    cases hy with
    | nilIface => simp at hx; subst hx; (refine equal_of fun d => ?_; simp [Op.equalIn, T.run_u, hms])
    | _ => simp at hx
theorem eqNilF_ok (hx : eqNilF ti y = some c) (hy : VR ρ y y') : (Op.equal t .nilFunc y').run P w = .ok c w := by
  unfold eqNilF at hx
  cases hk : Nat.beq ti.kd 9 with
  | false => simp [hk] at hx
  | true =>
    rw [hk] at hx
    obtain ⟨a1, a2, a3, hms⟩ := T.isFunc hk
    cases hy with
    | nilFunc => simp at hx; subst hx; (refine equal_of fun d => ?_; simp [Op.equalIn, T.run_u, hms])
    | func h1 h2 => simp at hx; subst hx; (refine equal_of fun d => ?_; simp [Op.equalIn, T.run_u, hms])
    | _ => simp at hx
theorem eqFunc_ok {fn : Fn} {a b : Array Value} (hx : eqFunc ti y = some c) (hy : VR ρ y y') : (Op.equal t (.func fn a b) y').run P w = .ok c w := by
  unfold eqFunc at hx
  cases hk : Nat.beq ti.kd 9 with
  | false => simp [hk] at hx
  | true =>
    rw [hk] at hx
    obtain ⟨a1, a2, a3, hms⟩ := T.isFunc hk
    cases hy with
    | nilFunc => simp at hx; subst hx; (refine equal_of fun d => ?_; simp [Op.equalIn, T.run_u, hms])
    | _ => simp at hx
theorem eqSl_ok {a : Option Addr} {n m : Nat} (hx : eqSl ti a y = some c) (ha : VR ρ (.slice a n m) x') (hy : VR ρ y y') : (Op.equal t x' y').run P w = .ok c w := by
  unfold eqSl at hx
  cases hk : Nat.beq ti.kd 5 with
  | false => cases hy <;> simp [hk] at hx
  | true =>
    have hs := T.isSlice hk
    cases ha <;> cases hy <;> simp [hk, isSomeP] at hx <;> subst hx <;> (refine equal_of fun d => ?_; simp [Op.equalIn, T.run_u, hs])
theorem eqMap_ok {a : Option Nat} (hx : eqMap ti a y = some c) (ha : VR ρ (.map a) x') (hy : VR ρ y y') : (Op.equal t x' y').run P w = .ok c w := by
  unfold eqMap at hx
  cases hk : Nat.beq ti.kd 7 with
  | false => cases hy <;> simp [hk] at hx
  | true =>
    have hs := T.isMap hk
    cases ha <;> cases hy <;> simp [hk, isSomeP] at hx <;> subst hx <;> (refine equal_of fun d => ?_; simp [Op.equalIn, T.run_u, hs])
include hE
theorem eqPtr_ok {a : Option Addr} (hx : eqPtr E ti a y = some c) (ha : VR ρ (.pointer a) x') (hy : VR ρ y y') : (Op.equal t x' y').run P w = .ok c w := by
  unfold eqPtr at hx
  cases hk : Nat.beq ti.kd 4 with
  | false => cases hy <;> simp [hk] at hx
  | true =>
    have hs := T.isPointer hk
    cases ha with
    | ptrNil => cases hy <;> simp [hk, isSomeP] at hx <;> subst hx <;> (refine equal_of fun d => ?_; simp [Op.equalIn, T.run_u, hs])
    | ptr h1 =>
      cases hy with
      | ptrNil => simp [hk] at hx; subst hx; (refine equal_of fun d => ?_; simp [Op.equalIn, T.run_u, hs])
      | ptr h2 =>
        simp only [hk] at hx
        cases hte : E.ty.get ti.el with
        | none => rw [hte] at hx; simp at hx
        | some ei =>
          rw [hte] at hx
          obtain ⟨einfo, TE⟩ := hE.at hte
          simp only [bq] at hx
          by_cases h0 : ei.size = 0
          · simp [h0] at hx
          · simp only [h0, decide_false, eqPP] at hx
            obtain ⟨im, g1, rfl⟩ := h1.eq
            obtain ⟨im2, g2, rfl⟩ := h2.eq
            rename_i a b
            cases hpa : asPA a with
            | none => rw [hpa] at hx; simp at hx
            | some p =>
              rw [hpa] at hx
              simp only at hx
              cases hpb : asPA b with
              | none => rw [hpb] at hx; simp at hx
              | some q =>
                rw [hpb] at hx
                have := asPA_some hpa; subst this
                have := asPA_some hpb; subst this
                simp only [bq] at hx
                by_cases hbb : p.b = q.b
                · simp [hbb] at hx
                  simp at g1 g2
                  rw [hbb, g2] at g1
                  obtain rfl := Option.some.inj g1
                  subst hx
                  have hd : (({ block := im2.blk, off := im2.sh + p.off } : Addr) == { block := im2.blk, off := im2.sh + q.off }) = decide (p.off = q.off) := by
                    rw [show (({ block := im2.blk, off := im2.sh + p.off } : Addr) == { block := im2.blk, off := im2.sh + q.off }) = decide (({ block := im2.blk, off := im2.sh + p.off } : Addr) = { block := im2.blk, off := im2.sh + q.off }) from rfl]; simp
                  (refine equal_of fun d => ?_; simp [Op.equalIn, T.run_u, hs, TE.run_size, h0, sameAddr, hd])
                · simp [hbb] at hx
      | _ => simp [hk] at hx
theorem eqFs_ok (d : Nat) {xs ys : List Value} {xs' ys' : Array Value} (hx' : LR ρ xs xs'.toList) (hy' : LR ρ ys ys'.toList) : ∀ (fs : List Field), (∀ f ∈ fs, f.type < P.types.size ∧ f.name ≠ "_") →
    ∀ c, eqFs (fs.map (fiOf P)) xs ys = some c → (Op.eqFields (d + 1) xs' ys' fs).run P w = .ok c w := by
  intro fs
  induction fs with
  | nil => intro _ c hc; simp [eqFs] at hc; subst hc; rfl
  | cons f fs ih =>
    intro hf c hc
    obtain ⟨hlt, hname⟩ := hf f (by simp)
    have ih' := ih fun g hg => hf g (by simp [hg])
    have hc' : (match nth xs (fiOf P f).off with
      | none => none
      | some x => match nth ys (fiOf P f).off with
        | none => none
        | some y => match (fiOf P f).agg with
          | true => none
          | false => match Nat.beq (fiOf P f).kd 3 with
            | true => eqStr x y (eqFs (fs.map (fiOf P)) xs ys)
            | false => match Nat.beq (fiOf P f).kd 2 with
              | true => eqInt x y (eqFs (fs.map (fiOf P)) xs ys)
              | false => none) = some c := hc
    have hty : P.types[f.type]? = some P.types[f.type] := Array.getElem?_eq_getElem hlt
    have hi := info_of_lt hty
    obtain ⟨hu, _⟩ := okType_at hE.types hty
    have hkd : (fiOf P f).kd = kdOf (descOf P P.types[f.type]) := by simp [fiOf, kdIn, hi]
    have hagg := (field_type hE.types hlt w).2
    rw [nth_eq, nth_eq] at hc'
    have hoff : (fiOf P f).off = f.offset := rfl
    rw [hoff] at hc'
    cases hxo : xs[f.offset]? with
    | none => rw [hxo] at hc'; simp at hc'
    | some u =>
      rw [hxo] at hc'
      simp only at hc'
      cases hyo : ys[f.offset]? with
      | none => rw [hyo] at hc'; simp at hc'
      | some v =>
        rw [hyo] at hc'
        simp only at hc'
        cases hag : (fiOf P f).agg with
        | true => rw [hag] at hc'; simp at hc'
        | false =>
          rw [hag] at hc' hagg
          simp only at hc'
          obtain ⟨u', k1, k2⟩ := hx'.get hxo
          obtain ⟨v', k3, k4⟩ := hy'.get hyo
          rw [Array.getElem?_toList] at k1 k3
          have hpx : (part f.type xs' f.offset).run P w = .ok u' w := by simp [part, hagg, k1]
          have hpy : (part f.type ys' f.offset).run P w = .ok v' w := by simp [part, hagg, k3]
          rw [hkd, bq, bq] at hc'
          by_cases h3 : kdOf (descOf P P.types[f.type]) = 3
          · simp only [h3, decide_true] at hc'
            have hds : descOf P P.types[f.type] = .string := by cases hd : descOf P P.types[f.type] <;> rw [hd] at h3 <;> simp [kdOf] at h3 <;> rfl
            rw [hds] at hu
            unfold eqStr at hc'
            cases hs1 : asStr u with
            | none => rw [hs1] at hc'; simp at hc'
            | some l1 =>
              rw [hs1] at hc'
              obtain ⟨s1, rfl, rfl, rfl⟩ := asStr_VR hs1 k2
              simp only at hc'
              cases hs2 : asStr v with
              | none => rw [hs2] at hc'; simp at hc'
              | some l2 =>
                rw [hs2] at hc'
                obtain ⟨s2, rfl, rfl, rfl⟩ := asStr_VR hs2 k4
                simp only [bytesEq_beq] at hc'
                have heq := run_equalIn_string (P := P) w d f.type s1 s2 hu
                rw [ByteArray.toList_eq, ByteArray.toList_eq] at heq
                cases hbe : (s1.data.toList == s2.data.toList) with
                | true =>
                  rw [hbe] at hc' heq
                  simp [Op.eqFields, hname, hpx, hpy, heq, ih' c hc']
                | false =>
                  rw [hbe] at hc' heq
                  simp at hc'; subst hc'
                  simp [Op.eqFields, hname, hpx, hpy, heq]
          · by_cases h2 : kdOf (descOf P P.types[f.type]) = 2
            · simp only [h2, decide_true] at hc'
              obtain ⟨kk, hds⟩ : ∃ kk, descOf P P.types[f.type] = .int kk := by cases hd : descOf P P.types[f.type] <;> rw [hd] at h2 <;> simp [kdOf] at h2 <;> exact ⟨_, rfl⟩
              rw [hds] at hu
              have hc2 : eqInt u v (eqFs (fs.map (fiOf P)) xs ys) = some c := by simpa using hc'
              unfold eqInt at hc2
              cases hs1 : asInt u with
              | none => rw [hs1] at hc2; simp at hc2
              | some l1 =>
                rw [hs1] at hc2
                obtain ⟨rfl, rfl⟩ := asInt_VR hs1 k2
                simp only at hc2
                cases hs2 : asInt v with
                | none => rw [hs2] at hc2; simp at hc2
                | some l2 =>
                  rw [hs2] at hc2
                  obtain ⟨rfl, rfl⟩ := asInt_VR hs2 k4
                  simp only at hc2
                  cases hke : kEq l1.k l2.k with
                  | false => rw [hke] at hc2; simp at hc2
                  | true =>
                    rw [hke] at hc2
                    have hkk := kEq_true hke
                    have heq := run_equalIn_int (P := P) w d f.type l1.k kk l1.n l2.n hu
                    rw [hkk] at heq hpx
                    simp only [iEq_eq] at hc2
                    by_cases hnn : l1.n = l2.n
                    · simp only [hnn, decide_true] at hc2
                      rw [hnn] at heq hpx
                      simp [Op.eqFields, hname, hpx, hpy, heq, ih' c hc2]
                    · simp only [hnn, decide_false] at hc2
                      simp at hc2; subst hc2
                      simp [Op.eqFields, hname, hpx, hpy, heq, hnn]
            · simp [h3, h2] at hc'
theorem eqAgg_ok {xs : List Value} {xs' : Array Value} (hx : eqAgg E t ti xs y = some c) (ha : LR ρ xs xs'.toList) (hy : VR ρ y y') : (Op.equal t (.agg xs') y').run P w = .ok c w ∧ (∀ op a b, (eqGuard op t a b (.agg xs') y').run P w = .ok () w) := by
  unfold eqAgg at hx
  cases hys : asAgg y with
  | none => rw [hys] at hx; simp at hx
  | some ys =>
    rw [hys] at hx
    obtain ⟨ys', rfl, hl⟩ := asAgg_VR hys hy
    simp only at hx
    rw [mem_eq] at hx
    by_cases hm : t ∈ E.eqs
    · simp only [hm, decide_true] at hx
      obtain ⟨q1, q2, q3⟩ := hE.eqs t hm
      cases hk : Nat.beq ti.kd 8 with
      | false => rw [hk] at hx; simp at hx
      | true =>
        rw [hk] at hx
        obtain ⟨fs, hfs⟩ := T.isStruct hk
        have hu : P.underlying t = some (.struct fs) := hfs ▸ T.hu
        have hfo : P.fieldsOf t = fs := by simp [Program.fieldsOf, hu]
        have hmap : ∀ l : List Field, mapL (fiOf P) l = l.map (fiOf P) := fun l => by induction l with
          | nil => rfl
          | cons a l ih => simp [mapL] at ih ⊢; exact ih
        have hfi : ti.fs = fs.toList.map (fiOf P) := by
          have : ti.fs = fisOf P (descOf P info) := by rw [T.e]; rfl
          rw [this, hfs]; exact hmap _
        have hd := T.hd
        rw [hfs] at hd
        rw [hfi] at hx
        refine ⟨?_, fun op a b => run_eqGuard_agg (P := P) w op t a b xs' ys' q1⟩
        have := eqFs_ok hE T (w := w) 9998 ha hl fs.toList (fun f hf => ⟨by simpa [blt_eq] using (allB_eq _ _).1 hd f hf, q3 fs hu f hf⟩) c hx
        rw [Op.equal, Op.maxDepth, run_equalIn_struct (P := P) w 9999 t xs' ys' (by rw [hfo]; exact hu) q2, hfo]
        exact this
    · simp [hm] at hx
end
end Go.Proofs.YtkmbkejmfffafaaGreatDoor.Refl
namespace Go.Proofs.YtkmbkejmfffafaaGreatDoor.Refl
open Go
set_option linter.unusedVariables false
set_option linter.unusedSimpArgs false
section
variable {P : Program} {E : Env} (hE : EnvQ P E) {t : TypeId} {x y : Operand} {a b a' b' r : Value} {h h1 : AH} {ρ : Ren} {w : World}
theorem beq_eq_decide_int (a b : Int) : (a == b) = decide (a = b) := rfl
include hE
theorem aeq_ok {c : Bool} (hi : asInt a = none) (hs : asStr a = none) (hx : aeq E t a b = some c) (hok : eqOK x y a b = true) (ha : VR ρ a a') (hb : VR ρ b b') :
    (Op.equal t a' b').run P w = .ok c w ∧ (∀ op, (eqGuard op t x y a' b').run P w = .ok () w) ∧ (∀ op : BinOp, op = .eql ∨ op = .neq → (Go.binOp op t a' b').run P w = (Go.binOp op t a' b').run P w) := by
  unfold aeq at hx
  cases ht : E.ty.get t with
  | none => rw [ht] at hx; simp at hx
  | some ti =>
    rw [ht] at hx
    obtain ⟨info, T⟩ := hE.at ht
    have hx : aeqT E t ti a b = some c := hx
    refine ⟨?_, ?_, fun _ _ => rfl⟩
    · cases ha with
      | bool c => exact eqBool_ok T hx hb
      | int k n => simp [asInt] at hi
      | string s => simp [asStr] at hs
      | ptrNil => exact eqPtr_ok hE T (a := none) (y := b) hx .ptrNil hb
      | ptr h1 => exact eqPtr_ok hE T (a := some _) (y := b) hx (.ptr h1) hb
      | slNil => exact eqSl_ok T (a := none) (y := b) hx .slNil hb
      | slTight h1 h2 h3 => exact eqSl_ok T (a := some _) (y := b) hx (.slTight h1 h2 h3) hb
      | slLoose h1 h2 h3 h4 => exact eqSl_ok T (a := some _) (y := b) hx (.slLoose h1 h2 h3 h4) hb
      | mapNil => exact eqMap_ok T (a := none) (y := b) hx .mapNil hb
      | map h1 h2 => exact eqMap_ok T (a := some _) (y := b) hx (.map h1 h2) hb
      | func h1 h2 => exact eqFunc_ok T hx hb
      | nilFunc => exact eqNilF_ok T hx hb
      | iface h1 => exact eqIface_ok T hx hb
      | nilIface => exact eqNilI_ok T hx hb
      | agg h1 => exact (eqAgg_ok hE T hx h1 hb).1
      | tuple h1 => simp [aeqT, qNone] at hx
    · intro op
      cases ha with
      | agg h1 => exact (eqAgg_ok hE T hx h1 hb).2 op x y
      | nilIface =>
        have hx' : eqNilI ti b = some c := hx
        cases hb with
        | nilIface =>
          have hc : isConst x = true ∨ isConst y = true := by
            simp only [eqOK, isNilI] at hok
            cases hcx : isConst x with
            | true => exact .inl rfl
            | false => rw [hcx] at hok; exact .inr hok
          rcases hc with hc | hc
          · cases x <;> simp [isConst] at hc
            cases op <;> simp [eqGuard]
          · cases y <;> simp [isConst] at hc
            cases op <;> simp [eqGuard]
        | _ => cases op <;> simp [eqGuard]
      | tuple h1 => simp [aeqT, qNone] at hx
      | _ => cases op <;> simp [eqGuard]
omit hE
theorem binOp_eql (hi : asInt a = none) (hs : asStr a = none) (ha : VR ρ a a') : Go.binOp .eql t a' b' = (do pure (.bool (← Op.equal t a' b'))) := by
  cases ha <;> first | (simp [asInt] at hi; done) | (simp [asStr] at hs; done) | (cases b' <;> rfl)
theorem binOp_neq (hi : asInt a = none) (hs : asStr a = none) (ha : VR ρ a a') : Go.binOp .neq t a' b' = (do pure (.bool (!(← Op.equal t a' b')))) := by
  cases ha <;> first | (simp [asInt] at hi; done) | (simp [asStr] at hs; done) | (cases b' <;> rfl)
theorem le_iff (a b : Int) : (!iLt b a) = decide (a ≤ b) := by
  rw [iLt_eq]
  by_cases h : a ≤ b
  · have : ¬ b < a := by omega
    simp [h, this]
  · have : b < a := by omega
    simp [h, this]
theorem shl_run (k m k2) (n : Nat) : (Go.binOp .shl t (.int k m) (.int k2 (n : Int))).run P w = .ok (shlI k m n) w := by
  have : ¬ ((n : Int) < 0) := by omega
  simp [Go.binOp, Op.shift, this, shlI]
theorem shr_run (k m k2) (n : Nat) : (Go.binOp .shr t (.int k m) (.int k2 (n : Int))).run P w = .ok (shrI k m n) w := by
  have : ¬ ((n : Int) < 0) := by omega
  simp [Go.binOp, Op.shift, this, shrI]
include hE
theorem binF_ok {op : BinOp} (hx : binF op E t x y a b h = some (r, h1)) (hob : OB h1) (hr : Rel P.cellsOf ρ h w) (ha : VR ρ a a') (hb : VR ρ b b') : OB h ∧ BinD P op t x y a' b' ρ h w r h1 := by
  have keep : ∀ {op : BinOp}, h1 = h ∧ BinD P op t x y a' b' ρ h w r h1 → OB h ∧ BinD P op t x y a' b' ρ h w r h1 := fun ⟨k1, k2⟩ => ⟨k1 ▸ hob, k2⟩
  cases op with
  | add => exact either_ok (fun k m n => by simp [Go.binOp, Op.intArith, addI]) (fun _ _ _ => .int _ _) (fun s u h2 h3 => addS_ok s u hr h2 h3) hx hob hr ha hb
  | sub => exact keep (ints_ok (fun k m n => by simp [Go.binOp, Op.intArith, subI]) (fun _ _ _ => .int _ _) hx hr ha hb)
  | mul => exact keep (ints_ok (fun k m n => by simp [Go.binOp, Op.intArith, mulI]) (fun _ _ _ => .int _ _) hx hr ha hb)
  | quo =>
    have hx' : (match notZero b with | true => ints quoI a b h | false => none) = some (r, h1) := hx
    cases hz : notZero b with
    | false => rw [hz] at hx'; simp at hx'
    | true =>
      rw [hz] at hx'
      obtain ⟨k, n, hbe, hn⟩ := notZero_some hz hb
      refine keep ?_
      simp only at hx'
      unfold ints at hx'
      cases hi : asInt a with
      | none => rw [hi] at hx'; simp at hx'
      | some i =>
        rw [hi] at hx'
        obtain ⟨rfl, rfl⟩ := asInt_VR hi ha
        simp only at hx'
        cases hj : asInt b with
        | none => rw [hj] at hx'; simp at hx'
        | some j =>
          rw [hj] at hx'
          obtain ⟨rfl, rfl⟩ := asInt_VR hj hb
          obtain ⟨hk, rfl, rfl⟩ := two_some hx'
          cases hbe
          refine ⟨rfl, Did.same hr ?_ (.int _ _)⟩
          rw [← hk]
          simp [eqGuard_at_int, Go.binOp, Op.intDiv, hn, quoI]
  | rem =>
    have hx' : (match notZero b with | true => ints remI a b h | false => none) = some (r, h1) := hx
    cases hz : notZero b with
    | false => rw [hz] at hx'; simp at hx'
    | true =>
      rw [hz] at hx'
      obtain ⟨k, n, hbe, hn⟩ := notZero_some hz hb
      refine keep ?_
      simp only at hx'
      unfold ints at hx'
      cases hi : asInt a with
      | none => rw [hi] at hx'; simp at hx'
      | some i =>
        rw [hi] at hx'
        obtain ⟨rfl, rfl⟩ := asInt_VR hi ha
        simp only at hx'
        cases hj : asInt b with
        | none => rw [hj] at hx'; simp at hx'
        | some j =>
          rw [hj] at hx'
          obtain ⟨rfl, rfl⟩ := asInt_VR hj hb
          obtain ⟨hk, rfl, rfl⟩ := two_some hx'
          cases hbe
          refine ⟨rfl, Did.same hr ?_ (.int _ _)⟩
          rw [← hk]
          simp [eqGuard_at_int, Go.binOp, Op.intDiv, hn, remI]
  | and => exact keep (ints_ok (fun k m n => by simp [Go.binOp, Op.intBits, andI]) (fun _ _ _ => .int _ _) hx hr ha hb)
  | or => exact keep (ints_ok (fun k m n => by simp [Go.binOp, Op.intBits, orI]) (fun _ _ _ => .int _ _) hx hr ha hb)
  | xor => exact keep (ints_ok (fun k m n => by simp [Go.binOp, Op.intBits, xorI]) (fun _ _ _ => .int _ _) hx hr ha hb)
  | andNot => exact keep (ints_ok (fun k m n => by simp [Go.binOp, Op.intBits, andNotI]) (fun _ _ _ => .int _ _) hx hr ha hb)
  | shl => exact keep (shft_ok shl_run (fun _ _ _ => .int _ _) hx hr ha hb)
  | shr => exact keep (shft_ok shr_run (fun _ _ _ => .int _ _) hx hr ha hb)
  | lss => exact either_ok (fun k m n => by simp [Go.binOp, Op.intCmp, ltI, iLt_eq]) (fun _ _ _ => .bool _) (fun s u h2 h3 => cmpS_ok (c := fun a b => Op.bytesLess a b) s u hr (by simp [Go.binOp, Op.stringOp, ByteArray.toList_eq]) h2 h3) hx hob hr ha hb
  | leq => exact either_ok (fun k m n => by simp [Go.binOp, Op.intCmp, leI, le_iff]) (fun _ _ _ => .bool _) (fun s u h2 h3 => cmpS_ok (c := fun a b => Op.bytesLess a b || bytesEq a b) s u hr (by simp [Go.binOp, Op.stringOp, ByteArray.toList_eq, bytesEq_beq]) h2 h3) hx hob hr ha hb
  | gtr => exact either_ok (fun k m n => by simp [Go.binOp, Op.intCmp, gtI, iLt_eq]) (fun _ _ _ => .bool _) (fun s u h2 h3 => cmpS_ok (c := fun a b => !(Op.bytesLess a b || bytesEq a b)) s u hr (by simp [Go.binOp, Op.stringOp, ByteArray.toList_eq, bytesEq_beq]) h2 h3) hx hob hr ha hb
  | geq => exact either_ok (fun k m n => by simp [Go.binOp, Op.intCmp, geI, le_iff]) (fun _ _ _ => .bool _) (fun s u h2 h3 => cmpS_ok (c := fun a b => !Op.bytesLess a b) s u hr (by simp [Go.binOp, Op.stringOp, ByteArray.toList_eq]) h2 h3) hx hob hr ha hb
  | eql =>
    cases hi : asInt a with
    | some i =>
      have : ints eqI a b h = some (r, h1) := by unfold ints; rw [hi]; simpa [binF, bEql, hi] using hx
      exact keep (ints_ok (fun k m n => by simp [Go.binOp, Op.intCmp, eqI, iEq_eq, beq_eq_decide_int]) (fun _ _ _ => .bool _) this hr ha hb)
    | none =>
      cases hs : asStr a with
      | some l =>
        have : strs eqS a b h = some (r, h1) := by unfold strs; rw [hs]; simpa [binF, bEql, hi, hs] using hx
        exact strs_ok (fun s u h2 h3 => cmpS_ok (c := fun a b => bytesEq a b) s u hr (by simp [Go.binOp, Op.stringOp, ByteArray.toList_eq, bytesEq_beq]) h2 h3) this hob ha hb
      | none =>
        cases hok : eqOK x y a b with
        | false => simp [binF, bEql, hi, hs, hok] at hx
        | true =>
          cases hq : aeq E t a b with
          | none => simp [binF, bEql, hi, hs, hok, hq, retB] at hx
          | some c =>
            have hx' := hx
            simp [binF, bEql, hi, hs, hok, hq, retB] at hx'
            obtain ⟨rfl, rfl⟩ := hx'
            obtain ⟨k1, k2, _⟩ := aeq_ok hE (P := P) (w := w) hi hs hq hok ha hb
            exact ⟨hob, Did.same hr (by simp [k2, binOp_eql hi hs ha, k1]) (.bool _)⟩
  | neq =>
    cases hi : asInt a with
    | some i =>
      have : ints neI a b h = some (r, h1) := by unfold ints; rw [hi]; simpa [binF, bNeq, hi] using hx
      exact keep (ints_ok (fun k m n => by simp [Go.binOp, Op.intCmp, neI, iEq_eq, bne, beq_eq_decide_int]) (fun _ _ _ => .bool _) this hr ha hb)
    | none =>
      cases hs : asStr a with
      | some l =>
        have : strs neS a b h = some (r, h1) := by unfold strs; rw [hs]; simpa [binF, bNeq, hi, hs] using hx
        exact strs_ok (fun s u h2 h3 => cmpS_ok (c := fun a b => !bytesEq a b) s u hr (by simp [Go.binOp, Op.stringOp, ByteArray.toList_eq, bytesEq_beq]) h2 h3) this hob ha hb
      | none =>
        cases hok : eqOK x y a b with
        | false => simp [binF, bNeq, hi, hs, hok] at hx
        | true =>
          cases hq : aeq E t a b with
          | none => simp [binF, bNeq, hi, hs, hok, hq, retNB] at hx
          | some c =>
            have hx' := hx
            simp [binF, bNeq, hi, hs, hok, hq, retNB] at hx'
            obtain ⟨rfl, rfl⟩ := hx'
            obtain ⟨k1, k2, _⟩ := aeq_ok hE (P := P) (w := w) hi hs hq hok ha hb
            exact ⟨hob, Did.same hr (by simp [k2, binOp_neq hi hs ha, k1]) (.bool _)⟩
end
end Go.Proofs.YtkmbkejmfffafaaGreatDoor.Refl
namespace Go.Proofs.YtkmbkejmfffafaaGreatDoor.Refl
open Go
set_option linter.unusedVariables false
set_option linter.unusedSimpArgs false
section
variable {P : Program} {t : TypeId} {a a' r : Value} {h h1 : AH} {ρ : Ren} {w : World}
theorem unF_ok {op : UnOp} (hx : unF op a h = some (r, h1)) (hr : Rel P.cellsOf ρ h w) (ha : VR ρ a a') : h1 = h ∧ Did P (Op.unary op a') ρ h w r h1 := by
  cases op with
  | plus => simp [unF] at hx
  | neg =>
    unfold unF at hx
    cases hi : asInt a with
    | none => simp [hi] at hx
    | some i =>
      obtain ⟨rfl, rfl⟩ := asInt_VR hi ha
      simp [hi, negI] at hx
      obtain ⟨rfl, rfl⟩ := hx
      exact ⟨rfl, Did.same hr (by simp [Op.unary, Op.intArith]) (.int _ _)⟩
  | xor =>
    unfold unF at hx
    cases hi : asInt a with
    | none => simp [hi] at hx
    | some i =>
      obtain ⟨rfl, rfl⟩ := asInt_VR hi ha
      simp only [hi, notI] at hx
      have hx' := Option.some.inj hx
      obtain ⟨rfl, rfl⟩ := Prod.mk.inj hx'
      exact ⟨rfl, Did.same hr (by simp [Op.unary, Op.intBits]) (.int _ _)⟩
  | not =>
    unfold unF at hx
    cases hi : asBool a with
    | none => simp [hi] at hx
    | some i =>
      obtain ⟨rfl, rfl⟩ := asBool_VR hi ha
      simp [hi] at hx
      obtain ⟨rfl, rfl⟩ := hx
      exact ⟨rfl, Did.same hr (by simp [Op.unary]) (.bool _)⟩
theorem lies_row {e : TypeId} {s : Nat} (hc : P.cellsOf e = s) (h0 : s ≠ 0) (count i n : Nat) (hn : i + n ≤ count) : liesAt P P.depth e count (i * s) e n = true := by
  have hd : P.depth = (2 * (P.types.size + Made.depth) + 1) + 1 := rfl
  rw [hd]
  simp only [liesAt, Bool.or_eq_true]
  left
  rw [hd]
  have h1 : i * s / s = i := Nat.mul_div_cancel i (by omega)
  simp [rowAt, hc, h0, hn, h1, sameLayout]
theorem u8_one {t : TypeId} {ti : TI} {info : TypeInfo} (T : TA P t ti info) (hb : ti.u8 = true) : ti.size = 1 := by
  rw [T.size]
  exact T.u8 (by have := T.e; subst this; exact hb)
variable {E : Env} (hE : EnvT P E)
theorem cInt_ok {src dst : TypeId} {si di : TI} {sinfo dinfo : TypeInfo} (S : TA P src si sinfo) (D : TA P dst di dinfo) (hk : Nat.beq di.kd 2 = true) (hx : cInt di.ik a h = some (r, h1)) (hr : Rel P.cellsOf ρ h w) (ha : VR ρ a a') :
    h1 = h ∧ Did P (Go.convert src dst a') ρ h w r h1 := by
  unfold cInt at hx
  cases hi : asInt a with
  | none => simp [hi] at hx
  | some i =>
    obtain ⟨rfl, rfl⟩ := asInt_VR hi ha
    simp [hi] at hx
    obtain ⟨rfl, rfl⟩ := hx
    refine ⟨rfl, Did.same hr ?_ (.int _ _)⟩
    simp [Go.convert, S.run_u, D.run_u, D.isInt hk, Conv.intToInt]
include hE
theorem isBytesT_u {ti : TI} {t : TypeId} {info : TypeInfo} (T : TA P t ti info) (hb : isBytesT E ti = true) : P.underlying t = some (.slice ti.el) ∧ P.underlying ti.el = some (.int .u8) := by
  unfold isBytesT at hb
  cases hk : Nat.beq ti.kd 5 with
  | false => rw [hk] at hb; simp at hb
  | true =>
    rw [hk] at hb
    simp only at hb
    cases hte : E.ty.get ti.el with
    | none => rw [hte] at hb; simp at hb
    | some ei =>
      rw [hte] at hb
      obtain ⟨einfo, TE⟩ := hE.at hte
      exact ⟨(T.isSlice hk) ▸ T.hu, (TE.isU8 hb) ▸ TE.hu⟩
omit hE in
theorem bytesAt_run {q : List UInt8} {s : SL} {l : List UInt8} {p : PA} {im : Im} (hx : tk s.n (drp p.off l) = some q) (hr : Rel P.cellsOf ρ h w) (hb : ρ p.b = some im) (hl : bytesOf (h.obj p.b) = some l) :
    q.length = s.n ∧ ∀ j (hj : j < q.length), w.cell? ((⟨im.blk, im.sh + p.off, none⟩ : Addr).add j) = some (.int .u8 (q[j].toNat : Int)) := by
  obtain ⟨h2, h3⟩ := tkdrp hx
  refine ⟨h2, fun j hj => ?_⟩
  have h4 := h3 j (by omega)
  rw [List.getElem?_eq_getElem hj] at h4
  have h5 : (h.obj p.b).cell (p.off + j) = some (u8v q[j]) := by rw [bytesOf_cell hl, ← h4]; rfl
  obtain ⟨v', h6, h7, _⟩ := hr.cell hb h5
  rw [Addr.add_lit]
  rw [show im.sh + p.off + j = im.sh + (p.off + j) by omega, h6, u8v_VR h7]; rfl
theorem cStr_ok {src dst : TypeId} {si di : TI} {sinfo dinfo : TypeInfo} (S : TA P src si sinfo) (D : TA P dst di dinfo) (hk : Nat.beq di.kd 3 = true) (hx : cStr E si a h = some (r, h1)) (hr : Rel P.cellsOf ρ h w) (ha : VR ρ a a') :
    h1 = h ∧ Did P (Go.convert src dst a') ρ h w r h1 := by
  unfold cStr at hx
  have hdst := D.isString hk
  cases hs : asStr a with
  | some l =>
    obtain ⟨s, rfl, rfl, rfl⟩ := asStr_VR hs ha
    simp [hs] at hx
    obtain ⟨rfl, rfl⟩ := hx
    refine ⟨rfl, Did.same hr ?_ (.string s)⟩
    simp only [Go.convert, Sem.run_bind, S.run_u, D.run_u, Result.andThen_ok, hdst]
    cases descOf P sinfo <;> rfl
  | none =>
    cases hi : asInt a with
    | some i =>
      obtain ⟨rfl, rfl⟩ := asInt_VR hi ha
      simp only [hs, hi] at hx
      rw [fin_eq _ _ _ _ (forceL_eq _ _)] at hx
      simp at hx
      obtain ⟨rfl, rfl⟩ := hx
      refine ⟨rfl, Did.same hr ?_ (.string (Utf8.encode i.n))⟩
      simp only [Go.convert, Sem.run_bind, S.run_u, D.run_u, Result.andThen_ok, hdst]
      cases descOf P sinfo <;> rfl
    | none =>
      simp only [hs, hi] at hx
      cases hbt : isBytesT E si with
      | false => simp [hbt] at hx
      | true =>
        obtain ⟨hsu, heu⟩ := isBytesT_u hE S hbt
        have hdu : P.underlying dst = some .string := hdst ▸ D.hu
        simp only [hbt] at hx
        cases hsl : asSl a with
        | none => simp [hsl] at hx
        | some s =>
          simp only [hsl] at hx
          obtain ⟨q, hq, rfl, rfl⟩ := retStr_some hx
          refine ⟨rfl, ?_⟩
          unfold bytesAt at hq
          rw [bq] at hq
          by_cases h0 : s.n = 0
          · simp [h0] at hq
            subst hq
            refine Did.same hr ?_ (.string _)
            have hemp : (.ok (.string .empty) w : Result Value) = .ok (strV []) w := rfl
            rcases asSl_VR hsl ha with ⟨rfl, rfl⟩ | ⟨p, im, _, _, _, _, rfl⟩ | ⟨p, im, a2, c2, _, _, _, _, rfl, _⟩
            · rw [run_convert_bytes_string w src dst si.el none 0 0 hsu heu hdu]; rfl
            · have := run_convert_bytes_back (P := P) w src dst si.el ⟨im.blk, im.sh + p.off, none⟩ s.c [] hsu heu hdu (fun j hj => by simp at hj)
              rw [h0]; exact this
            · have := run_convert_bytes_back (P := P) w src dst si.el a2 c2 [] hsu heu hdu (fun j hj => by simp at hj)
              rw [h0]; exact this
          · simp only [h0, decide_false] at hq
            cases hp : s.a with
            | none => simp [hp] at hq
            | some p =>
              simp only [hp] at hq
              cases hl : bytesOf (h1.obj p.b) with
              | none => simp [hl] at hq
              | some l =>
                simp only [hl] at hq
                rcases asSl_VR hsl ha with ⟨rfl, rfl⟩ | ⟨p2, im, h2, hb, _, _, rfl⟩ | ⟨p2, im, a2, c2, h2, hb, _, _, rfl, h3⟩
                · simp at h0
                · rw [hp] at h2; cases h2
                  obtain ⟨k1, k2⟩ := bytesAt_run hq hr hb hl
                  refine Did.same hr ?_ (.string _)
                  have := run_convert_bytes_back (P := P) w src dst si.el _ s.c q hsu heu hdu k2
                  rw [k1] at this
                  exact this
                · rw [hp] at h2; cases h2
                  rcases h3 with ⟨rfl, _⟩ | ⟨h4, _⟩
                  · obtain ⟨k1, k2⟩ := bytesAt_run hq hr hb hl
                    refine Did.same hr ?_ (.string _)
                    have := run_convert_bytes_back (P := P) w src dst si.el _ c2 q hsu heu hdu k2
                    rw [k1] at this
                    exact this
                  · exact absurd h4 h0
theorem u8_cells {ti : TI} {t : TypeId} {info : TypeInfo} (T : TA P t ti info) (hb : isBytesT E ti = true) : P.cellsOf ti.el = 1 := by
  unfold isBytesT at hb
  cases hk : Nat.beq ti.kd 5 with
  | false => rw [hk] at hb; simp at hb
  | true =>
    rw [hk] at hb
    simp only at hb
    cases hte : E.ty.get ti.el with
    | none => rw [hte] at hb; simp at hb
    | some ei =>
      rw [hte] at hb
      obtain ⟨einfo, TE⟩ := hE.at hte
      rw [TE.cells]
      exact u8_one TE hb
theorem cSl_ok {src dst : TypeId} {si di : TI} {sinfo dinfo : TypeInfo} (S : TA P src si sinfo) (D : TA P dst di dinfo) (hsk : Nat.beq si.kd 3 = true) (hx : cSl E di a h = some (r, h1)) (hr : Rel P.cellsOf ρ h w) (hf : Fr ρ h.n h1.n) (ha : VR ρ a a') :
    h1.ob = h.ob ∧ Did P (Go.convert src dst a') ρ h w r h1 := by
  unfold cSl at hx
  cases hs : asStr a with
  | none => simp [hs] at hx
  | some l =>
    obtain ⟨s, rfl, rfl, rfl⟩ := asStr_VR hs ha
    simp only [hs] at hx
    cases hbt : isBytesT E di with
    | false => simp [hbt] at hx
    | true =>
      obtain ⟨hdu, heu⟩ := isBytesT_u hE D hbt
      have hc1 := u8_cells hE D hbt
      simp [hbt] at hx
      obtain ⟨rfl, rfl⟩ := hx
      have h0 : ρ h.n = none := hf h.n (Nat.le_refl _) (by rw [alloc_n]; omega)
      have hsu : P.underlying src = some .string := (S.isString hsk) ▸ S.hu
      have hrun := run_bytes_of_string (P := P) w src dst di.el s hsu hdu heu
      have hge := grownCap_ge w s.size 0 di.el
      have hsz : (bytesRow s (grownCap w s.size 0 di.el)).size = grownCap w s.size 0 di.el := by
        have : s.data.size = s.size := rfl
        simp [bytesRow, this]; omega
      refine ⟨rfl, upd ρ h.n ⟨w.heap.size, 0, grownCap w s.size 0 di.el, 1⟩, _, _, hrun, ?_, ?_⟩
      · rw [len_eq]
        refine .slLoose (im := ⟨w.heap.size, 0, grownCap w s.size 0 di.el, 1⟩) rfl (upd_same _ _ _) (by show s.size ≤ _; exact hge) (.inl ⟨⟨rfl, rfl, _, upd_same _ _ _, rfl, rfl⟩, by simp⟩)
      · refine .alloc (x := .cells (bytesRow s (grownCap w s.size 0 di.el)) di.el ((bytesRow s (grownCap w s.size 0 di.el)).size, (bytesRow s (grownCap w s.size 0 di.el)).size + 1)) hr h0 rfl ⟨rfl, rfl, rfl⟩ rfl ?_
        refine ⟨bytesRow s (grownCap w s.size 0 di.el), (bytesRow s (grownCap w s.size 0 di.el)).size, (bytesRow s (grownCap w s.size 0 di.el)).size + 1, ?_, fun i v hi => ?_, ⟨fun j h1 h2 h3 => by omega, fun h => absurd rfl h⟩, by rw [hsz]; exact Nat.le_refl _, hc1.symm, fun h => by cases h⟩
        · exact heap_alloc_new w.drew _
        · rw [bytesOf_cell (l := s.data.toList) rfl] at hi
          cases hj : s.data.toList[i]? with
          | none => rw [hj] at hi; simp at hi
          | some b =>
            rw [hj] at hi; simp at hi
            obtain ⟨hlt, he⟩ := List.getElem?_eq_some_iff.1 hj
            subst hi
            have hlt' : i < s.data.size := by simpa using hlt
            refine ⟨rfl, u8v b, ?_, .int _ _⟩
            rw [Nat.zero_add, bytesRow_at s _ i hlt']
            have : s.data[i] = b := by simpa using he
            rw [this]; rfl
end
end Go.Proofs.YtkmbkejmfffafaaGreatDoor.Refl
namespace Go.Proofs.YtkmbkejmfffafaaGreatDoor.Refl
open Go
set_option linter.unusedVariables false
set_option linter.unusedSimpArgs false
section
variable {P : Program} {t : TypeId} {a a' r : Value} {h h1 : AH} {ρ : Ren} {w : World} {E : Env} (hE : EnvT P E)
include hE
theorem cUns_ok {src dst : TypeId} {si di : TI} {sinfo dinfo : TypeInfo} (S : TA P src si sinfo) (D : TA P dst di dinfo) (hk : Nat.beq di.kd 11 = true) (hx : cUns E si a h = some (r, h1)) (hr : Rel P.cellsOf ρ h w) (ha : VR ρ a a') :
    h1 = h ∧ Did P (Go.convert src dst a') ρ h w r h1 := by
  unfold cUns at hx
  cases hp : asPtr a with
  | none => simp [hp] at hx
  | some p =>
    obtain ⟨im, hb, rfl⟩ := asPtr_VR hp ha
    simp only [hp] at hx
    cases hk4 : Nat.beq si.kd 4 with
    | false => simp [hk4] at hx
    | true =>
      simp only [hk4] at hx
      cases hte : E.ty.get si.el with
      | none => simp [hte] at hx
      | some ui =>
        obtain ⟨uinfo, U⟩ := hE.at hte
        simp only [hte, bq] at hx
        by_cases h0 : ui.size = 0
        · simp [h0] at hx
        · simp only [h0, decide_false] at hx
          cases hc : (h.obj p.b).cell p.off with
          | none => simp [hc] at hx
          | some v =>
            simp [hc] at hx
            obtain ⟨rfl, rfl⟩ := hx
            obtain ⟨v', h2, h3, _⟩ := hr.cell hb hc
            refine ⟨rfl, Did.same hr (run_convert_to_unsafe ((S.isPointer hk4) ▸ S.hu) ((D.isUnsafe hk) ▸ D.hu) ?_ h2) (VR.ptr_mk hb)⟩
            rw [U.hi]
            have : uinfo.size ≠ 0 := by rw [← U.size]; exact h0
            simp [this]
theorem cPtr_ok {src dst : TypeId} {si di : TI} {sinfo dinfo : TypeInfo} (S : TA P src si sinfo) (D : TA P dst di dinfo) (hk : Nat.beq di.kd 4 = true) (hx : cPtr E si di a h = some (r, h1)) (hr : Rel P.cellsOf ρ h w) (ha : VR ρ a a') :
    h1 = h ∧ Did P (Go.convert src dst a') ρ h w r h1 := by
  unfold cPtr at hx
  cases hp : asPtr a with
  | none => simp [hp] at hx
  | some p =>
    obtain ⟨im, hb, rfl⟩ := asPtr_VR hp ha
    simp only [hp] at hx
    cases hk4 : Nat.beq si.kd 11 with
    | false => simp [hk4] at hx
    | true =>
      simp only [hk4, bq] at hx
      by_cases ho : p.off = 0
      · simp only [ho, decide_true] at hx
        cases hte : E.ty.get di.el with
        | none => simp [hte] at hx
        | some ui =>
          obtain ⟨uinfo, U⟩ := hE.at hte
          simp only [hte] at hx
          by_cases h0 : ui.size = 0
          · simp [h0] at hx
          · simp only [h0, decide_false] at hx
            cases ht : tightOf (h.obj p.b) di.el ui.size with
            | false => simp [ht] at hx
            | true =>
              simp [ht] at hx
              obtain ⟨rfl, rfl⟩ := hx
              cases hob : h.obj p.b with
              | cells cs e fz kd =>
                rw [hob] at ht
                simp only [tightOf, bq] at ht
                by_cases hkd : kd = 0
                · simp only [hkd, decide_true] at ht
                  by_cases hel : e = di.el
                  · simp [hel, len_eq] at ht
                    have hd : h.obj p.b ≠ .dead := by rw [hob]; simp
                    have hrow : OR P.cellsOf ρ w im (h.obj p.b) := hr.obj p.b im hb (hr.lt hd)
                    rw [hob] at hrow
                    obtain ⟨cs', lo, hi, h2, h3, h4, h5, h6, h7⟩ := hrow
                    obtain ⟨h8, h9, _⟩ := h7 hkd
                    refine ⟨rfl, Did.same hr ?_ (VR.ptr_mk hb)⟩
                    rw [h8, ho]
                    refine Go.Lib.run_from_unsafe w _ ((S.isUnsafe hk4) ▸ S.hu) ((D.isPointer hk) ▸ D.hu) U.hi (e := di.el) (cells := ui.size) ?_ ?_
                    · simp [World.shape?, h2, h9, ht, hel]
                    · have hc : P.cellsOf di.el = ui.size := U.cells
                      have := lies_row hc h0 (ui.size / P.cellsOf di.el) 0 1 (by rw [hc, Nat.div_self (by omega)]; omega)
                      simpa using this
                  · simp [hel] at ht
                · simp [hkd] at ht
              | dead => rw [hob] at ht; simp [tightOf] at ht
              | bytes l e fz kd => rw [hob] at ht; simp [tightOf] at ht
              | map es c => rw [hob] at ht; simp [tightOf] at ht
              | siter s q => rw [hob] at ht; simp [tightOf] at ht
      · simp [ho] at hx
theorem cSame_ok {src dst : TypeId} {si di : TI} {sinfo dinfo : TypeInfo} (S : TA P src si sinfo) (D : TA P dst di dinfo) (hsk : Nat.beq si.kd 5 = true) (hx : cSame E src dst di a h = some (r, h1)) (hr : Rel P.cellsOf ρ h w) (ha : VR ρ a a') :
    h1.ob = h.ob ∧ Did P (Go.convert src dst a') ρ h w r h1 := by
  unfold cSame at hx
  cases hsd : Nat.beq src dst with
  | false => simp [hsd] at hx
  | true =>
    obtain rfl := Nat.eq_of_beq_eq_true hsd
    simp only [hsd] at hx
    cases hbt : isBytesT E di with
    | false => simp [hbt] at hx
    | true =>
      obtain ⟨hdu, heu⟩ := isBytesT_u hE D hbt
      simp only [hbt] at hx
      cases hsl : asSl a with
      | none => simp [hsl] at hx
      | some s =>
        simp only [hsl] at hx
        cases hp : s.a with
        | none => simp [hp] at hx
        | some p =>
          simp only [hp] at hx
          cases hlo : loose s.c with
          | true => simp [hlo] at hx
          | false =>
          simp only [hlo] at hx
          cases ho : h.obj p.b with
          | bytes l e fz kd =>
            rw [ho] at hx
            simp only [cSame1] at hx
            cases hkd : Nat.beq kd 0 with
            | false => simp [hkd] at hx
            | true =>
              obtain rfl := Nat.eq_of_beq_eq_true hkd
              simp only [hkd] at hx
              cases hfz : Nat.beq fz 0 with
              | false => simp [hfz] at hx
              | true =>
                obtain rfl := Nat.eq_of_beq_eq_true hfz
                simp only [hfz, Option.some.injEq, Prod.mk.injEq] at hx
                obtain ⟨rfl, rfl⟩ := hx
                have hd : h.obj p.b ≠ .dead := by rw [ho]; simp
                have main : ∀ (im : Im) (off n c : Nat), ρ p.b = some im → a' = .slice (some ⟨im.blk, off, none⟩) n c → h.ob = h.ob ∧ Did P (Go.convert src src a') ρ h w a (h.write p.b (.bytes l e 0 2)) := by
                  intro im off n c hb e1
                  subst e1
                  have hlt := hr.lt hd
                  have hrow : OR P.cellsOf ρ w im (h.obj p.b) := hr.obj p.b im hb hlt
                  rw [ho] at hrow
                  obtain ⟨cs', lo, hi, h2, h3, h4, h5, h6, h7⟩ := hrow
                  obtain ⟨h8, h9, h10⟩ := h7 rfl
                  have hlh : lo = hi := h10 rfl
                  have hrun : (Go.convert src src (.slice (some ⟨im.blk, off, none⟩) n c)).run P w = .ok (.slice (some ⟨im.blk, off, none⟩) n c) (w.freeze ⟨im.blk, cs'.size, none⟩ 1) := by
                    simp [Go.convert, run_underlying hdu, run_underlying heu, markStringish, World.shape?, h2]
                  have hsame : (w.freeze ⟨im.blk, cs'.size, none⟩ 1).heap[im.blk]? = some (.cells cs' e (cs'.size, cs'.size + 1)) := by
                    simp [World.freeze, Array.getElem?_modify, h2, hlh]
                  refine ⟨rfl, ρ, _, _, hrun, ha, ?_⟩
                  refine Step.write hr hb hlt hd (by simp [World.freeze]) (fun c hc => ?_) ⟨by simp [World.freeze], by simp [World.freeze], by simp [World.freeze]⟩ ?_
                  · have : im.blk ≠ c := fun e => hc e.symm
                    simp [World.freeze, Array.getElem?_modify, this]
                  · exact ⟨cs', cs'.size, cs'.size + 1, hsame, h3, ⟨fun j h1 h2 h3 => by omega, fun h => absurd rfl h⟩, h5, h6, fun h => by cases h⟩
                rcases asSl_VR hsl ha with ⟨k, _⟩ | ⟨q, im, k1, k2, _, _, k3⟩ | ⟨q, im, a2, c2, k1, k2, hcl, _, k3, k4⟩
                · rw [k] at hp; cases hp
                · rw [k1] at hp; cases hp; exact main im _ _ _ k2 k3
                · rw [k1] at hp; cases hp
                  rw [hcl] at hlo
                  simp [loose, LOOSE] at hlo
          | _ => rw [ho] at hx; simp [cSame1] at hx
theorem aconvert_ok {src dst : TypeId} (hx : aconvert E src dst a h = some (r, h1)) (hr : Rel P.cellsOf ρ h w) (hf : Fr ρ h.n h1.n) (ha : VR ρ a a') :
    h1.ob = h.ob ∧ Did P (Go.convert src dst a') ρ h w r h1 := by
  have keep : ∀ {Q : Prop}, h1 = h ∧ Q → h1.ob = h.ob ∧ Q := fun ⟨k, q⟩ => ⟨by rw [k], q⟩
  unfold aconvert at hx
  cases hd : E.ty.get dst with
  | none => simp [hd] at hx
  | some di =>
    obtain ⟨dinfo, D⟩ := hE.at hd
    simp only [hd] at hx
    cases hs : E.ty.get src with
    | none => simp [hs] at hx
    | some si =>
      obtain ⟨sinfo, S⟩ := hE.at hs
      simp only [hs] at hx
      cases h2 : Nat.beq di.kd 2 with
      | true => simp only [h2] at hx; exact keep (cInt_ok S D h2 hx hr ha)
      | false =>
        simp only [h2] at hx
        cases h3 : Nat.beq di.kd 3 with
        | true => simp only [h3] at hx; exact keep (cStr_ok hE S D h3 hx hr ha)
        | false =>
          simp only [h3] at hx
          cases h5 : Nat.beq di.kd 5 with
          | true =>
            simp only [h5] at hx
            cases h3' : Nat.beq si.kd 3 with
            | false =>
              simp only [h3'] at hx
              cases h5' : Nat.beq si.kd 5 with
              | false => simp [h5'] at hx
              | true => simp only [h5'] at hx; exact cSame_ok hE S D h5' hx hr ha
            | true => simp only [h3'] at hx; exact cSl_ok hE S D h3' hx hr hf ha
          | false =>
            simp only [h5] at hx
            cases h11 : Nat.beq di.kd 11 with
            | true => simp only [h11] at hx; exact keep (cUns_ok hE S D h11 hx hr ha)
            | false =>
              simp only [h11] at hx
              cases h4 : Nat.beq di.kd 4 with
              | true => simp only [h4] at hx; exact keep (cPtr_ok hE S D h4 hx hr ha)
              | false => simp [h4] at hx
theorem amakeIface_ok (hx : amakeIface E t a h = some (r, h1)) (hr : Rel P.cellsOf ρ h w) (ha : VR ρ a a') : h1 = h ∧ Did P (Instr.makeInterface t a') ρ h w r h1 := by
  unfold amakeIface at hx
  cases hd : E.ty.get t with
  | none => simp [hd] at hx
  | some ti =>
    obtain ⟨info, T⟩ := hE.at hd
    simp only [hd] at hx
    cases hk : Nat.beq ti.kd 10 with
    | true => simp [hk] at hx
    | false =>
      simp [hk] at hx
      obtain ⟨rfl, rfl⟩ := hx
      refine ⟨rfl, Did.same hr ?_ (.iface ha)⟩
      rw [bq, T.kd] at hk
      simp only [Instr.makeInterface, Sem.run_bind, T.run_u, Result.andThen_ok]
      cases hdd : descOf P info <;> first | rfl | (rw [hdd] at hk; simp [kdOf] at hk)
omit hE in
theorem anilCheck_ok (hx : anilCheck a h = some (r, h1)) (ha : VR ρ a a') : h1 = h ∧ r = a ∧ ((∃ q, a' = .pointer (some q)) ∨ ∃ f x y, a' = .func (.func f) x y) := by
  unfold anilCheck at hx
  cases hp : asPtr a with
  | some p =>
    obtain ⟨im, hb, rfl⟩ := asPtr_VR hp ha
    simp [hp] at hx
    obtain ⟨rfl, rfl⟩ := hx
    exact ⟨rfl, (asPtr_some hp).symm, .inl ⟨_, rfl⟩⟩
  | none =>
    simp only [hp] at hx
    cases hfn : isFunc a with
    | false => simp [hfn] at hx
    | true =>
      simp [hfn] at hx
      obtain ⟨rfl, rfl⟩ := hx
      cases ha with
      | func h1 h2 => exact ⟨rfl, rfl, .inr ⟨_, _, _, rfl⟩⟩
      | _ => simp [isFunc] at hfn
omit hE in
theorem aextract_ok {i : Nat} (hx : (match asTup a with | some vs => retO h (nth vs i) | none => none) = some (r, h1)) (hr : Rel P.cellsOf ρ h w) (ha : VR ρ a a') : h1 = h ∧ Did P (Instr.extract a' i) ρ h w r h1 := by
  cases ht : asTup a with
  | none => simp [ht] at hx
  | some vs =>
    obtain ⟨cs', rfl, hl⟩ := asTup_VR ht ha
    simp only [ht] at hx
    obtain ⟨h2, rfl⟩ := retO_some hx
    rw [nth_eq] at h2
    obtain ⟨v', h3, h4⟩ := hl.get h2
    rw [Array.getElem?_toList] at h3
    exact ⟨rfl, Did.same hr (by simp [Instr.extract, h3]) h4⟩
omit hE in
theorem amakeMap_ok (hr : Rel P.cellsOf ρ h w) (hf : Fr ρ h.n (h.n + 1)) : Did P (Instr.makeMap t none) ρ h w (.map (some h.n)) (h.alloc (.map [] 0)) := by
  have h0 : ρ h.n = none := hf h.n (Nat.le_refl _) (by omega)
  refine ⟨upd ρ h.n ⟨w.heap.size, 0, 0, 0⟩, .map (some w.heap.size), w.alloc (.map #[] 0), ?_, .map (upd_same _ _ _) rfl, ?_⟩
  · simp [Instr.makeMap]
  · exact .alloc (x := .map #[] 0) hr h0 rfl ⟨rfl, rfl, rfl⟩ rfl ⟨#[], heap_alloc_new w _, .nil⟩
theorem arange_ok (hx : arange E t a h = some (r, h1)) (hr : Rel P.cellsOf ρ h w) (hf : Fr ρ h.n h1.n) (ha : VR ρ a a') : h1.ob = h.ob ∧ Did P (Instr.range t a') ρ h w r h1 := by
  unfold arange at hx
  cases hd : E.ty.get t with
  | none => simp [hd] at hx
  | some ti =>
    obtain ⟨info, T⟩ := hE.at hd
    simp only [hd] at hx
    cases hk : Nat.beq ti.kd 3 with
    | false => simp [hk] at hx
    | true =>
      simp only [hk] at hx
      cases hs : asStr a with
      | none => simp [hs] at hx
      | some l =>
        obtain ⟨s, rfl, rfl, rfl⟩ := asStr_VR hs ha
        simp [hs] at hx
        obtain ⟨rfl, rfl⟩ := hx
        have h0 : ρ h.n = none := hf h.n (Nat.le_refl _) (by rw [alloc_n]; omega)
        refine ⟨rfl, upd ρ h.n ⟨w.heap.size, 0, 0, 0⟩, .pointer (some ⟨w.heap.size, 0, none⟩), w.alloc (.stringIter s 0), ?_, ?_, ?_⟩
        · simp [Instr.range, T.run_u, T.isString hk]
        · exact VR.ptr_mk (im := ⟨w.heap.size, 0, 0, 0⟩) (upd_same _ _ _)
        · exact .alloc (x := .stringIter s 0) hr h0 rfl ⟨rfl, rfl, rfl⟩ rfl ⟨rfl, heap_alloc_new w _⟩
omit hE in
theorem set_obj (w : World) (b : Nat) (o : Obj) (hb : b < w.heap.size) : ({ w with heap := w.heap.setIfInBounds b o } : World).heap[b]? = some o ∧ ∀ c, c ≠ b → ({ w with heap := w.heap.setIfInBounds b o } : World).heap[c]? = w.heap[c]? := by
  refine ⟨?_, fun c hc => ?_⟩
  · show (w.heap.setIfInBounds b o)[b]? = _
    simp [Array.getElem?_setIfInBounds, hb]
  · show (w.heap.setIfInBounds b o)[c]? = _
    rw [Array.getElem?_setIfInBounds, if_neg (by omega)]
omit hE in
theorem anext_ok {ty : TypeId} (hx : anext a h = some (r, h1)) (hr : Rel P.cellsOf ρ h w) (ha : VR ρ a a') : h1.ob = h.ob ∧ Did P (Instr.next a' true ty) ρ h w r h1 := by
  unfold anext at hx
  cases hp : asPtr a with
  | none => simp [hp] at hx
  | some p =>
    obtain ⟨im, hb, rfl⟩ := asPtr_VR hp ha
    simp only [hp, bq] at hx
    by_cases ho : p.off = 0
    · simp only [ho, decide_true] at hx
      cases hob : h.obj p.b with
      | siter s pos =>
        simp only [hob, siterOf] at hx
        have hd : h.obj p.b ≠ .dead := by rw [hob]; simp
        have hlt := hr.lt hd
        have hrow := hr.obj p.b im hb hlt
        rw [hob] at hrow
        obtain ⟨hsh, hw⟩ := hrow
        have hget : (getObj im.blk).run P w = .ok (.stringIter s pos) w := by simp [getObj, Sem.run, hw]
        have hset : ∀ o, (setObj im.blk o).run P w = .ok () { w with heap := w.heap.setIfInBounds im.blk o } := fun o => by simp [setObj, Sem.run, hw]
        rw [blt_eq, len_eq] at hx
        have hls : s.data.toList.length = s.size := rfl
        rw [hls] at hx
        have h00 : im.sh + p.off = 0 := by omega
        rw [h00]
        by_cases hpos : pos < s.size
        · simp only [hpos, decide_true, nextAt] at hx
          have hx' := Option.some.inj hx
          obtain ⟨rfl, rfl⟩ := Prod.mk.inj hx'
          obtain ⟨q1, q2⟩ := set_obj w im.blk (.stringIter s (pos + (Utf8.decode s pos).2)) (Array.getElem?_eq_some_iff.1 hw).1
          refine ⟨rfl, ρ, .tuple #[.bool true, goInt pos, .int .i32 (Utf8.decode s pos).1], _, ?_, .tuple (.cons (.bool _) (.cons (.int _ _) (.cons (.int _ _) .nil))), .write hr hb hlt hd (by simp) q2 ⟨rfl, rfl, rfl⟩ ⟨hsh, q1⟩⟩
          simp [Instr.next, hget, hpos, hset]
        · simp [hpos] at hx
          obtain ⟨rfl, rfl⟩ := hx
          exact ⟨rfl, Did.same hr (by simp [Instr.next, hget, hpos]) (.tuple (.cons (.bool _) .nil))⟩
      | dead => simp [hob, siterOf] at hx
      | bytes l e fz kd => simp [hob, siterOf] at hx
      | map es c => simp [hob, siterOf] at hx
      | cells cs e fz kd => simp [hob, siterOf] at hx
    · simp [ho] at hx
end
end Go.Proofs.YtkmbkejmfffafaaGreatDoor.Refl
namespace Go.Proofs.YtkmbkejmfffafaaGreatDoor.Refl
open Go
set_option linter.unusedVariables false
set_option linter.unusedSimpArgs false
section
variable {P : Program} {t : TypeId} {a a' k k' r : Value} {h h1 : AH} {ρ : Ren} {w : World} {E : Env}
theorem keyable_run {ti : TI} {info : TypeInfo} (T : TA P t ti info) (hk : keyable ti.kd k = true) (hv : VR ρ k k') (e : Bool) (n : Nat) :
    k' = k ∧ (Instr.checkKey e (n + 1) t k').run P w = .ok () w := by
  unfold keyable at hk
  cases h3 : Nat.beq ti.kd 3 with
  | true =>
    simp only [h3] at hk
    cases hs : asStr k with
    | none => simp [hs] at hk
    | some l =>
      obtain ⟨s, rfl, rfl, _⟩ := asStr_VR hs hv
      exact ⟨rfl, by unfold Instr.checkKey; simp [T.run_u, T.isString h3]⟩
  | false =>
    simp only [h3] at hk
    cases h2 : Nat.beq ti.kd 2 with
    | false => simp [h2] at hk
    | true =>
      simp only [h2] at hk
      cases hi : asInt k with
      | none => simp [hi] at hk
      | some i =>
        obtain ⟨rfl, rfl⟩ := asInt_VR hi hv
        exact ⟨rfl, by unfold Instr.checkKey; simp [T.run_u, T.isInt h2]⟩
theorem keyEq_ok {ti : TI} {info : TypeInfo} (T : TA P t ti info) {x x' : Value} {b : Bool} (hx : keyEq ti.kd k x = some b) (hk : VR ρ k k') (hv : VR ρ x x') :
    Instr.sameNow (descOf P info) k' x' = some b ∧ (b = true → x' = k' ∧ ∀ n, Instr.sameBits n x' k' = true) := by
  unfold keyEq at hx
  cases h3 : Nat.beq ti.kd 3 with
  | true =>
    simp only [h3] at hx
    cases hs : asStr k with
    | none => simp [hs] at hx
    | some l =>
      obtain ⟨s, rfl, rfl, rfl⟩ := asStr_VR hs hk
      simp only [hs] at hx
      cases hs2 : asStr x with
      | none => simp [hs2] at hx
      | some l2 =>
        obtain ⟨u, rfl, rfl, rfl⟩ := asStr_VR hs2 hv
        simp [hs2, bytesEq_eq] at hx
        have hb : (s == u) = b := by
          rw [← hx]
          by_cases e : s = u
          · subst e; simp [MapKept.bytes_beq]
          · have e2 : ¬ s.data.toList = u.data.toList := fun q => e (ByteArray.ext (Array.toList_inj.1 q))
            have e3 : (s == u) = false := by cases hq : (s == u) with
              | false => rfl
              | true => exact absurd ((MapKept.bytes_beq s u).1 hq) e
            have e4 : ¬ s.data = u.data := fun q => e (ByteArray.ext q)
            rw [e3]; simp [e4]
        refine ⟨by rw [T.isString h3]; simp [Instr.sameNow, hb], fun hbt => ?_⟩
        rw [hbt] at hb
        have := (MapKept.bytes_beq s u).1 hb
        subst this
        exact ⟨rfl, fun n => by cases n <;> simp [Instr.sameBits, hb]⟩
  | false =>
    simp only [h3] at hx
    cases h2 : Nat.beq ti.kd 2 with
    | false => simp [h2] at hx
    | true =>
      simp only [h2] at hx
      cases hi : asInt k with
      | none => simp [hi] at hx
      | some i =>
        obtain ⟨rfl, rfl⟩ := asInt_VR hi hk
        simp only [hi] at hx
        cases hj : asInt x with
        | none => simp [hj] at hx
        | some j =>
          obtain ⟨rfl, rfl⟩ := asInt_VR hj hv
          simp only [hj] at hx
          cases hke : kEq i.k j.k with
          | false => simp [hke] at hx
          | true =>
            have hkk := kEq_true hke
            simp [hke, iEq_eq] at hx
            refine ⟨by rw [T.isInt h2]; simp [Instr.sameNow, hkk, ← hx]; rfl, fun hbt => ?_⟩
            rw [hbt] at hx
            have hn : i.n = j.n := by simpa using hx
            exact ⟨by rw [hkk, hn], fun n => by cases n <;> simp [Instr.sameBits, hkk, hn]⟩
theorem MR.length {l l' : List MapEntry} (h : MR ρ l l') : l.length = l'.length := by
  induction h with
  | nil => rfl
  | cons _ _ ih => simp [ih]
theorem findK_ok {ti : TI} {info : TypeInfo} (T : TA P t ti info) (hk : VR ρ k k') : ∀ (es es' : List MapEntry), MR ρ es es' → ∀ (i : Nat) (o : Option FE), findK ti.kd k es i = some o →
    (o = none ∧ Instr.findNow (descOf P info) k' es' i = some none) ∨
    ∃ (f : FE) (e' : MapEntry) (j : Nat), o = some f ∧ f.i = i + j ∧ es[j]? = some f.e ∧ es'[j]? = some e' ∧ MER ρ f.e e' ∧ Instr.findNow (descOf P info) k' es' i = some (some (f.i, e'.val)) ∧ e'.key = k' ∧ ∀ n, Instr.sameBits n e'.key k' = true := by
  intro es es' hm
  induction hm with
  | nil => intro i o ho; simp [findK] at ho; exact .inl ⟨ho.symm, rfl⟩
  | @cons e e' l l' he hl ih =>
    intro i o ho
    have ho' : (match keyEq ti.kd k e.key with
      | none => none
      | some b => match b with
        | true => some (some ⟨i, e⟩)
        | false => findK ti.kd k l (i + 1)) = some o := ho
    cases hq : keyEq ti.kd k e.key with
    | none => simp [hq] at ho'
    | some b =>
      obtain ⟨h2, h3⟩ := keyEq_ok T hq hk he.key
      simp only [hq] at ho'
      cases b with
      | true =>
        simp at ho'
        subst ho'
        obtain ⟨h4, h5⟩ := h3 rfl
        exact .inr ⟨⟨i, e⟩, e', 0, rfl, rfl, rfl, rfl, he, by simp [Instr.findNow, h2], h4, h5⟩
      | false =>
        simp only at ho'
        rcases ih (i + 1) o ho' with ⟨h4, h5⟩ | ⟨f, e2, j, h4, h5, h6, h7, h8, h9, h10⟩
        · exact .inl ⟨h4, by simp [Instr.findNow, h2, h5]⟩
        · exact .inr ⟨f, e2, j + 1, h4, by omega, by simpa using h6, by simpa using h7, h8, by simp [Instr.findNow, h2, h9], h10⟩
theorem findKey_run {ti : TI} {info : TypeInfo} (T : TA P t ti info) {es : List MapEntry} {o : Option (Nat × Value)} (hx : Instr.findNow (descOf P info) k es 0 = some o) : (Instr.findKey t k es).run P w = .ok o w := by
  simp [Instr.findKey, T.run_u, hx]
theorem keyStays_run (hx : ∀ n, Instr.sameBits n a k = true) : (Instr.keyThatStays a k).run P w = .ok k w := by
  simp [Instr.keyThatStays, hx]
theorem MR.set {l l' : List MapEntry} (h : MR ρ l l') {i : Nat} {e e' : MapEntry} {f : MapEntry → MapEntry} (he : ∀ x', l'[i]? = some x' → MER ρ e (f x')) : MR ρ (setL l i e) (l'.modify i f) := by
  induction h generalizing i with
  | nil => cases i <;> simpa [setL] using MR.nil
  | @cons x x' l l' h hl ih =>
    cases i with
    | zero =>
      show MR ρ (e :: l) _
      simpa using MR.cons (he x' rfl) hl
    | succ i => simpa [setL] using MR.cons h (ih (i := i) fun y hy => he y (by simpa using hy))
theorem MR.erase {l l' : List MapEntry} (h : MR ρ l l') (i : Nat) : MR ρ (eraL l i) (l'.eraseIdx i) := by
  induction h generalizing i with
  | nil => cases i <;> simpa [eraL] using MR.nil
  | @cons x x' l l' h hl ih =>
    cases i with
    | zero =>
      show MR ρ l _
      simpa using hl
    | succ i => simpa [eraL] using MR.cons h (ih i)
theorem MR.push {l l' : List MapEntry} (h : MR ρ l l') {e e' : MapEntry} (he : MER ρ e e') : MR ρ (app l [e]) (l' ++ [e']) := by
  induction h with
  | nil => exact .cons he .nil
  | cons h hl ih => exact .cons h ih
theorem Rel.map (r : Rel P.cellsOf ρ h w) {b : Nat} {im : Im} {m : MP} (hb : ρ b = some im) (hm : mapOf (h.obj b) = some m) :
    b < h.n ∧ h.obj b ≠ .dead ∧ ∃ es', w.heap[im.blk]? = some (.map es' m.clock) ∧ MR ρ m.es es'.toList := by
  cases ho : h.obj b with
  | map es c =>
    rw [ho] at hm
    simp [mapOf] at hm
    subst hm
    have hd : h.obj b ≠ .dead := by rw [ho]; simp
    have := r.obj b im hb (r.lt hd)
    rw [ho] at this
    obtain ⟨es', h1, h2⟩ := this
    exact ⟨r.lt hd, by simp, es', h1, h2⟩
  | _ => rw [ho] at hm; simp [mapOf] at hm
theorem Step.map (hr : Rel P.cellsOf ρ h w) {b : Nat} {im : Im} {o : Obj} (hb : ρ b = some im) (hn : b < h.n) (hd : h.obj b ≠ .dead) (ho : w.heap[im.blk]? = some o) {es : List MapEntry} {es' : Array MapEntry} {c : Nat} (hm : MR ρ es es'.toList) :
    Step P.cellsOf ρ h w ρ (h.write b (.map es c)) { w with heap := w.heap.setIfInBounds im.blk (.map es' c) } := by
  have hlt := (Array.getElem?_eq_some_iff.1 ho).1
  obtain ⟨h1, h2⟩ := set_obj w im.blk (.map es' c) hlt
  exact .write hr hb hn hd (by simp) h2 ⟨rfl, rfl, rfl⟩ ⟨es', h1, hm⟩
variable (hE : EnvT P E)
include hE
theorem mapKey_ok {q : MK} (hx : mapKey E t a k h = some q) (hr : Rel P.cellsOf ρ h w) (ha : VR ρ a a') (hk : VR ρ k k') :
    ∃ (ti ki : TI) (info kinfo : TypeInfo) (im : Im) (es' : Array MapEntry), TA P t ti info ∧ TA P ti.ky ki kinfo ∧ descOf P info = .map ti.ky ti.el ∧ q.el = ti.el ∧ ρ q.b = some im ∧ a' = .map (some im.blk) ∧
      q.b < h.n ∧ h.obj q.b ≠ .dead ∧ w.heap[im.blk]? = some (.map es' q.m.clock) ∧ MR ρ q.m.es es'.toList ∧ (∀ e n, (Instr.checkKey e (n + 1) ti.ky k').run P w = .ok () w) ∧
      ((q.f = none ∧ (Instr.findKey ti.ky k' es'.toList).run P w = .ok none w) ∨
       ∃ (f : FE) (e' : MapEntry), q.f = some f ∧ q.m.es[f.i]? = some f.e ∧ es'[f.i]? = some e' ∧ MER ρ f.e e' ∧ (Instr.findKey ti.ky k' es'.toList).run P w = .ok (some (f.i, e'.val)) w ∧ e'.key = k' ∧ (Instr.keyThatStays e'.key k').run P w = .ok k' w) := by
  unfold mapKey at hx
  cases hm : asMap a with
  | none => simp [hm] at hx
  | some o =>
    rcases asMap_VR hm ha with ⟨rfl, rfl⟩ | ⟨b, im, rfl, hb, rfl⟩
    · simp [hm] at hx
    · simp only [hm] at hx
      cases ht : E.ty.get t with
      | none => simp [ht] at hx
      | some ti =>
        obtain ⟨info, T⟩ := hE.at ht
        simp only [ht] at hx
        cases h7 : Nat.beq ti.kd 7 with
        | false => simp [h7] at hx
        | true =>
          simp only [h7] at hx
          cases hky : E.ty.get ti.ky with
          | none => simp [hky] at hx
          | some ki =>
            obtain ⟨kinfo, K⟩ := hE.at hky
            simp only [hky] at hx
            cases hkb : keyable ki.kd k with
            | false => simp [hkb] at hx
            | true =>
              simp only [hkb] at hx
              cases hmo : mapOf (h.obj b) with
              | none => simp [hmo] at hx
              | some m =>
                simp only [hmo] at hx
                cases hf : findK ki.kd k m.es 0 with
                | none => simp [hf] at hx
                | some o =>
                  simp [hf] at hx
                  subst hx
                  obtain ⟨g1, g2, es', g3, g4⟩ := hr.map hb hmo
                  refine ⟨ti, ki, info, kinfo, im, es', T, K, T.isMap h7, rfl, hb, rfl, g1, g2, g3, g4, fun e n => (keyable_run K hkb hk e n).2, ?_⟩
                  rcases findK_ok K hk m.es es'.toList g4 0 o hf with ⟨rfl, h5⟩ | ⟨f, e', j, rfl, h5, h6, h7, h8, h9, h10, h11⟩
                  · exact .inl ⟨rfl, findKey_run K h5⟩
                  · have : f.i = j := by omega
                    subst this
                    exact .inr ⟨f, e', rfl, h6, by simpa using h7, h8, findKey_run K h9, h10, keyStays_run h11⟩
theorem amapUpdate_ok {v v' : Value} (hx : amapUpdate E t a k v h = some h1) (hr : Rel P.cellsOf ρ h w) (ha : VR ρ a a') (hk : VR ρ k k') (hv : VR ρ v v') :
    ∃ w', (Instr.mapUpdate t a' k' v').run P w = .ok () w' ∧ Step P.cellsOf ρ h w ρ h1 w' ∧ h1.ob = h.ob := by
  unfold amapUpdate at hx
  cases hq : mapKey E t a k h with
  | none => simp [hq] at hx
  | some q =>
    obtain ⟨ti, ki, info, kinfo, im, es', T, K, hmd, hel, hb, rfl, g1, g2, g3, g4, g5, g6⟩ := mapKey_ok hE hq hr ha hk
    simp [hq] at hx
    subst hx
    have hck := g5 false 9999
    rcases g6 with ⟨hf, h2⟩ | ⟨f, e', hf, h2, h3, h4, h5, h6, h7⟩
    · have hob : (mapPut h q k v) = h.write q.b (.map (app q.m.es [⟨k, v, q.m.clock⟩]) (q.m.clock + 1)) := by simp [mapPut, hf]
      rw [hob]
      refine ⟨_, ?_, Step.map hr hb g1 g2 g3 (es' := es'.push ⟨k', v', q.m.clock⟩) ?_, rfl⟩
      · simp [Instr.mapUpdate, T.run_u, hmd, MapKept.run_getObj_map g3, hck, h2, MapKept.run_setObj_map _ g3]
      · rw [Array.toList_push]; exact g4.push ⟨hk, hv, rfl⟩
    · have hob : (mapPut h q k v) = h.write q.b (.map (setL q.m.es f.i ⟨k, v, f.e.born⟩) q.m.clock) := by simp [mapPut, hf]
      rw [hob]
      refine ⟨_, ?_, Step.map hr hb g1 g2 g3 (es' := es'.modify f.i fun e => { e with key := k', val := v' }) ?_, rfl⟩
      · simp [Instr.mapUpdate, T.run_u, hmd, MapKept.run_getObj_map g3, hck, h5, h3, h7, MapKept.run_setObj_map _ g3]
      · rw [Array.toList_modify]
        refine g4.set (e' := e') fun x' hx' => ?_
        rw [Array.getElem?_toList, h3] at hx'
        cases hx'
        exact ⟨hk, hv, h4.born⟩
theorem amapEntry_ok (hx : amapEntry E t a k h = some (r, h1)) (hr : Rel P.cellsOf ρ h w) (ha : VR ρ a a') (hk : VR ρ k k') : h1.ob = h.ob ∧ Did P (Instr.mapEntry t a' k') ρ h w r h1 := by
  unfold amapEntry at hx
  cases hq : mapKey E t a k h with
  | none => simp [hq] at hx
  | some q =>
    obtain ⟨ti, ki, info, kinfo, im, es', T, K, hmd, hel, hb, rfl, g1, g2, g3, g4, g5, g6⟩ := mapKey_ok hE hq hr ha hk
    simp only [hq] at hx
    have hck := g5 false 9999
    rcases g6 with ⟨hf, h2⟩ | ⟨f, e', hf, h2, h3, h4, h5, h6, h7⟩
    · simp only [hf, hel] at hx
      cases hte : E.ty.get ti.el with
      | none => simp [hte] at hx
      | some ei =>
        obtain ⟨einfo, TE⟩ := hE.at hte
        simp only [hte] at hx
        cases hz : ei.zero with
        | none => simp [hz] at hx
        | some z =>
          simp [hz] at hx
          obtain ⟨rfl, rfl⟩ := hx
          have hzv := flat_VR ρ 5 z (TE.flat hz)
          refine ⟨rfl, ρ, .tuple #[z, goInt q.m.clock], _, ?_, ?_, Step.map hr hb g1 g2 g3 (es' := es'.push ⟨k', z, q.m.clock⟩) ?_⟩
          · simp [Instr.mapEntry, T.run_u, hmd, MapKept.run_getObj_map g3, hck, h2, TE.run_zero _ hz, MapKept.run_setObj_map _ g3]
          · exact .tuple (.cons hzv (.cons (.int _ _) .nil))
          · rw [Array.toList_push]; exact g4.push ⟨hk, hzv, rfl⟩
    · simp [hf] at hx
      obtain ⟨rfl, rfl⟩ := hx
      refine ⟨rfl, ρ, .tuple #[e'.val, goInt e'.born], _, ?_, ?_, Step.map hr hb g1 g2 g3 (es' := es'.modify f.i fun e => { e with key := k' }) ?_⟩
      · simp [Instr.mapEntry, T.run_u, hmd, MapKept.run_getObj_map g3, hck, h5, h3, h7, MapKept.run_setObj_map _ g3]
      · rw [h4.born]; exact .tuple (.cons h4.val (.cons (.int _ _) .nil))
      · rw [Array.toList_modify]
        refine g4.set (e' := e') fun x' hx' => ?_
        rw [Array.getElem?_toList, h3] at hx'
        cases hx'
        exact ⟨hk, h4.val, h4.born⟩
theorem adelete_ok {ts : Array TypeId} {ty : TypeId} (ht : ts[0]? = some t) (hx : adelete E t a k h = some h1) (hr : Rel P.cellsOf ρ h w) (ha : VR ρ a a') (hk : VR ρ k k') :
    ∃ w', (Builtin.delete_ ts ty #[a', k']).run P w = .ok (.tuple #[]) w' ∧ Step P.cellsOf ρ h w ρ h1 w' ∧ h1.ob = h.ob := by
  unfold adelete at hx
  cases hq : mapKey E t a k h with
  | none => simp [hq] at hx
  | some q =>
    obtain ⟨ti, ki, info, kinfo, im, es', T, K, hmd, hel, hb, rfl, g1, g2, g3, g4, g5, g6⟩ := mapKey_ok hE hq hr ha hk
    simp only [hq] at hx
    have hck := g5 es'.isEmpty 9999
    rcases g6 with ⟨hf, h2⟩ | ⟨f, e', hf, h2, h3, h4, h5, h6, h7⟩
    · simp [hf] at hx
      subst hx
      refine ⟨_, ?_, Step.map hr hb g1 g2 g3 (es' := es') g4, rfl⟩
      simp [Builtin.delete_, ht, T.run_u, hmd, MapKept.run_getObj_map g3, hck, h2, MapKept.run_setObj_map _ g3]
    · simp [hf] at hx
      subst hx
      refine ⟨_, ?_, Step.map hr hb g1 g2 g3 (es' := es'.eraseIdxIfInBounds f.i) ?_, rfl⟩
      · simp [Builtin.delete_, ht, T.run_u, hmd, MapKept.run_getObj_map g3, hck, h5, MapKept.run_setObj_map _ g3]
      · have hlt : f.i < es'.size := (Array.getElem?_eq_some_iff.1 h3).1
        rw [Array.eraseIdxIfInBounds, dif_pos hlt, Array.toList_eraseIdx]
        exact g4.erase f.i
theorem alookup_ok {ok : Bool} (hx : alookup E t a k ok h = some (r, h1)) (hr : Rel P.cellsOf ρ h w) (ha : VR ρ a a') (hk : VR ρ k k') : h1 = h ∧ Did P (Instr.lookup t a' k' ok) ρ h w r h1 := by
  unfold alookup at hx
  cases hm : asMap a with
  | none => simp [hm] at hx
  | some o =>
    simp only [hm] at hx
    cases ht : E.ty.get t with
    | none => simp [ht] at hx
    | some ti =>
      obtain ⟨info, T⟩ := hE.at ht
      simp only [ht] at hx
      cases h7 : Nat.beq ti.kd 7 with
      | false => simp [h7] at hx
      | true =>
        simp only [h7] at hx
        cases hky : E.ty.get ti.ky with
        | none => simp [hky] at hx
        | some ki =>
          obtain ⟨kinfo, K⟩ := hE.at hky
          simp only [hky] at hx
          cases hkb : keyable ki.kd k with
          | false => simp [hkb] at hx
          | true =>
            simp only [hkb] at hx
            have inner : ∀ (es : List MapEntry) (es' : Array MapEntry), MR ρ es es'.toList → lookIn E ti ki k ok h es = some (r, h1) → h1 = h ∧ ∃ v v' b, r = (if ok then .tuple ⟨[v, .bool b]⟩ else v) ∧ VR ρ v v' ∧
                ((∃ i, b = true ∧ (Instr.findKey ti.ky k' es'.toList).run P w = .ok (some (i, v')) w) ∨ (b = false ∧ (Instr.findKey ti.ky k' es'.toList).run P w = .ok none w ∧ (zeroValue ti.el).run P w = .ok v' w)) := by
              intro es es' hmr hl
              unfold lookIn at hl
              cases hf : findK ki.kd k es 0 with
              | none => simp [hf] at hl
              | some o =>
                simp only [hf] at hl
                rcases findK_ok K hk es es'.toList hmr 0 o hf with ⟨rfl, h5⟩ | ⟨f, e', j, rfl, h5, h6, h7, h8, h9, h10, h11⟩
                · cases hte : E.ty.get ti.el with
                  | none => simp [hte] at hl
                  | some ei =>
                    obtain ⟨einfo, TE⟩ := hE.at hte
                    simp only [hte] at hl
                    cases hz : ei.zero with
                    | none => simp [hz] at hl
                    | some z =>
                      simp only [hz, lookRet] at hl
                      have hzv := flat_VR ρ 5 z (TE.flat hz)
                      have hfk := findKey_run (w := w) K h5
                      cases ok <;> simp at hl <;> obtain ⟨rfl, rfl⟩ := hl <;> exact ⟨rfl, z, z, false, rfl, hzv, .inr ⟨rfl, hfk, TE.run_zero _ hz⟩⟩
                · simp only [lookRet] at hl
                  have hfk := findKey_run (w := w) K h9
                  cases ok <;> simp at hl <;> obtain ⟨rfl, rfl⟩ := hl <;> exact ⟨rfl, f.e.val, e'.val, true, rfl, h8.val, .inl ⟨_, rfl, hfk⟩⟩
            have hck := fun e => (keyable_run (w := w) K hkb hk e 9999).2
            have ret : ∀ {v v' : Value} {b : Bool}, VR ρ v v' → VR ρ (if ok then .tuple ⟨[v, .bool b]⟩ else v) (if ok then .tuple #[v', .bool b] else v') := by
              intro v v' b hv
              cases ok with
              | true => exact .tuple (.cons hv (.cons (.bool b) .nil))
              | false => exact hv
            cases o with
            | none =>
              simp only at hx
              rcases asMap_VR hm ha with ⟨_, rfl⟩ | ⟨b, im, hbb, _, _⟩
              · obtain ⟨rfl, v, v', b, rfl, hvv, hrun⟩ := inner [] #[] .nil hx
                refine ⟨rfl, Did.same hr ?_ (ret hvv)⟩
                rcases hrun with ⟨i, rfl, h5⟩ | ⟨rfl, h5, h6⟩
                · simp [Instr.lookup, T.run_u, T.isMap h7, hck, h5]
                · have h5 : (Instr.findKey ti.ky k' []).run P w = .ok none w := h5
                  simp [Instr.lookup, T.run_u, T.isMap h7, hck, h5, h6]
              · cases hbb
            | some b =>
              simp only at hx
              rcases asMap_VR hm ha with ⟨hbb, _⟩ | ⟨b, im, hbb, hb, rfl⟩
              · cases hbb
              · cases hbb
                cases hmo : mapOf (h.obj b) with
                | none => simp [hmo] at hx
                | some m =>
                  simp only [hmo] at hx
                  obtain ⟨_, _, es', g3, g4⟩ := hr.map hb hmo
                  obtain ⟨rfl, v, v', b, rfl, hvv, hrun⟩ := inner m.es es' g4 hx
                  refine ⟨rfl, Did.same hr ?_ (ret hvv)⟩
                  rcases hrun with ⟨i, rfl, h5⟩ | ⟨rfl, h5, h6⟩
                  · simp [Instr.lookup, T.run_u, T.isMap h7, MapKept.run_getObj_map g3, hck, h5]
                  · simp [Instr.lookup, T.run_u, T.isMap h7, MapKept.run_getObj_map g3, hck, h5, h6]
omit hE
theorem findB_ok {born : Nat} : ∀ (es es' : List MapEntry), MR ρ es es' → ∀ (i : Nat) (f : FE), findB born es i = some f → ∃ j e', f.i = i + j ∧ es[j]? = some f.e ∧ es'[j]? = some e' ∧ MER ρ f.e e' ∧ es'.findIdx? (fun e => (e.born : Int) == (born : Int)) = some j := by
  intro es es' hm
  induction hm with
  | nil => intro i f hf; simp [findB] at hf
  | @cons e e' l l' he hl ih =>
    intro i f hf
    have hf' : (match Nat.beq e.born born with | true => some ⟨i, e⟩ | false => findB born l (i + 1)) = some f := hf
    rw [bq] at hf'
    by_cases hb : e.born = born
    · simp [hb] at hf'
      subst hf'
      exact ⟨0, e', rfl, rfl, rfl, he, by simp [List.findIdx?_cons, he.born, hb]⟩
    · simp [hb] at hf'
      obtain ⟨j, e2, h1, h2, h3, h4, h5⟩ := ih (i + 1) f hf'
      refine ⟨j + 1, e2, by omega, by simpa using h2, by simpa using h3, h4, ?_⟩
      have : ¬ ((e'.born : Int) = (born : Int)) := by rw [he.born]; omega
      simp [List.findIdx?_cons, this, h5]
theorem aentryStore_ok {ty : TypeId} {v v' : Value} (hx : aentryStore a k v h = some h1) (hr : Rel P.cellsOf ρ h w) (ha : VR ρ a a') (hk : VR ρ k k') (hv : VR ρ v v') :
    ∃ w', (Instr.entryStore ty a' k' v').run P w = .ok () w' ∧ Step P.cellsOf ρ h w ρ h1 w' ∧ h1.ob = h.ob := by
  unfold aentryStore at hx
  cases hm : asMap a with
  | none => simp [hm] at hx
  | some o =>
    rcases asMap_VR hm ha with ⟨rfl, rfl⟩ | ⟨b, im, rfl, hb, rfl⟩
    · simp [hm] at hx
    · simp only [hm] at hx
      cases hn : asNat k with
      | none => simp [hn] at hx
      | some n =>
        obtain ⟨kk, rfl, rfl⟩ := asNat_VR hn hk
        simp only [hn] at hx
        cases hmo : mapOf (h.obj b) with
        | none => simp [hmo] at hx
        | some m =>
          simp only [hmo] at hx
          obtain ⟨g1, g2, es', g3, g4⟩ := hr.map hb hmo
          cases hf : findB n m.es 0 with
          | none => simp [hf] at hx
          | some f =>
            simp [hf] at hx
            subst hx
            obtain ⟨j, e', h2, h3, h4, h5, h6⟩ := findB_ok m.es es'.toList g4 0 f hf
            have hj : f.i = j := by omega
            subst hj
            have h6' : es'.findIdx? (fun e => (e.born : Int) == (n : Int)) = some f.i := by rw [← h6]; exact (List.findIdx?_toArray (p := fun e : MapEntry => (e.born : Int) == (n : Int)) es'.toList)
            refine ⟨_, ?_, Step.map hr hb g1 g2 g3 (es' := es'.modify f.i fun e => { e with val := v' }) ?_, rfl⟩
            · simp [Instr.entryStore, MapKept.run_getObj_map g3, Go.asInt, Go.asIntOf, h6', MapKept.run_setObj_map _ g3]
            · rw [Array.toList_modify]
              refine g4.set (e' := e') fun x' hx' => ?_
              rw [h4] at hx'
              cases hx'
              exact ⟨h5.key, hv, h5.born⟩
end
end Go.Proofs.YtkmbkejmfffafaaGreatDoor.Refl
namespace Go.Proofs.YtkmbkejmfffafaaGreatDoor.Refl
open Go
set_option linter.unusedVariables false
set_option linter.unusedSimpArgs false
section
variable {P : Program} {t : TypeId} {a a' x x' r : Value} {h h1 : AH} {ρ : Ren} {w : World} {E : Env} {n m : Nat}
theorem u8vs_eq : ∀ (l : List UInt8), u8vs l = l.map u8v
  | [] => rfl
  | b :: l => by
    show u8v b :: u8vs l = _
    rw [u8vs_eq l]; rfl
theorem srcLen_run (hx : srcLen x = some m) (hv : VR ρ x x') : (Builtin.lenOf x').run P w = .ok m w ∧ ((∃ s, x' = .string s) ∨ ∃ b n c, x' = .slice b n c) := by
  unfold srcLen at hx
  cases hs : asStr x with
  | some l =>
    obtain ⟨s, rfl, rfl, rfl⟩ := asStr_VR hs hv
    simp [hs, len_eq] at hx
    exact ⟨by simp [Builtin.lenOf, ← hx], .inl ⟨s, rfl⟩⟩
  | none =>
    simp only [hs] at hx
    cases hl : asSl x with
    | none => simp [hl] at hx
    | some s =>
      simp [hl] at hx
      rcases asSl_VR hl hv with ⟨rfl, rfl⟩ | ⟨p, im, _, _, _, _, rfl⟩ | ⟨p, im, a2, c2, _, _, _, _, rfl, _⟩
      · exact ⟨by simp [Builtin.lenOf, ← hx], .inr ⟨_, _, _, rfl⟩⟩
      · exact ⟨by simp [Builtin.lenOf, ← hx], .inr ⟨_, _, _, rfl⟩⟩
      · exact ⟨by simp [Builtin.lenOf, ← hx], .inr ⟨_, _, _, rfl⟩⟩
theorem loadCells_zero (b : Addr) : (loadCells b 0).run P w = .ok #[] w := by simp [loadCells, loadCellsFrom]
theorem first_zero {size : Nat} (hx : srcLen x = some n) (hv : VR ρ x x') (h0 : m * size = 0) (hm : size = 0 → m = 0) : (Builtin.firstCells size m x').run P w = .ok #[] w := by
  have hm0 : m = 0 := by
    rcases Nat.mul_eq_zero.1 h0 with h | h
    · exact h
    · exact hm h
  subst hm0
  rcases (srcLen_run (P := P) (w := w) hx hv).2 with ⟨s, rfl⟩ | ⟨b, n, c, rfl⟩
  · have : s.extract 0 0 = .empty := by apply ByteArray.ext; simp
    simp [Builtin.firstCells, this]
  · cases b with
    | none => simp [Builtin.firstCells]
    | some b => simp [Builtin.firstCells, loadCells_zero]
theorem srcLen_sl {s : SL} (hl : srcLen x = some n) (hs : asSl x = some s) : n = s.n := by
  unfold srcLen at hl
  cases x <;> simp [asSl] at hs
  simp [asStr, asSl, hs] at hl
  exact hl.symm
theorem srcBytes_ok {bs : List UInt8} (hl : srcLen x = some n) (hmn : m ≤ n) (hx : srcBytes x m h = some bs) (hr : Rel P.cellsOf ρ h w) (hv : VR ρ x x') :
    bs.length = m ∧ ∃ cells : Array Value, (Builtin.firstCells 1 m x').run P w = .ok cells w ∧ cells.toList = bs.map u8v := by
  unfold srcBytes at hx
  rw [bq] at hx
  by_cases h0 : m = 0
  · simp [h0] at hx
    subst hx; subst h0
    exact ⟨rfl, #[], first_zero hl hv (by omega) (by omega), rfl⟩
  · simp only [h0, decide_false] at hx
    cases hs : asStr x with
    | some l =>
      obtain ⟨s, rfl, rfl, rfl⟩ := asStr_VR hs hv
      simp only [hs] at hx
      obtain ⟨rfl, h2⟩ := tk_some _ _ _ hx
      refine ⟨by rw [List.length_take]; omega, ((s.extract 0 m).data.map fun b => .int .u8 (b.toNat : Int)), by simp [Builtin.firstCells], ?_⟩
      simp [ByteArray.data_extract]
      rfl
    | none =>
      simp only [hs] at hx
      cases hsl : asSl x with
      | none => simp [hsl] at hx
      | some s =>
        simp only [hsl] at hx
        cases hp : s.a with
        | none => simp [hp] at hx
        | some p =>
          simp only [hp] at hx
          cases hb : bytesOf (h.obj p.b) with
          | none => simp [hb] at hx
          | some l =>
            simp only [hb] at hx
            have key : ∀ (im : Im), ρ p.b = some im → bs.length = m ∧ ∃ cells : Array Value, (loadCells ⟨im.blk, im.sh + p.off, none⟩ (m * 1)).run P w = .ok cells w ∧ cells.toList = bs.map u8v := by
              intro im hi
              have hx2 : tk (SL.mk s.a m 0).n (drp p.off l) = some bs := hx
              obtain ⟨k1, k2⟩ := bytesAt_run hx2 hr hi hb
              have k1 : bs.length = m := k1
              refine ⟨k1, (bs.map u8v).toArray, ?_, by simp⟩
              have := run_loadCells_list (P := P) w ⟨im.blk, im.sh + p.off, none⟩ (bs.map u8v) (fun j v hj => by
                have hj' : j < bs.length := by simpa using (List.getElem?_eq_some_iff.1 hj).1
                rw [k2 j hj']
                simp [List.getElem?_eq_getElem hj'] at hj
                rw [← hj]; rfl)
              rw [List.length_map, k1] at this
              rw [Nat.mul_one]; exact this
            rcases asSl_VR hsl hv with ⟨rfl, rfl⟩ | ⟨p2, im, h2, hi, _, _, rfl⟩ | ⟨p2, im, a2, c2, h2, hi, _, _, rfl, h3⟩
            · simp at hp
            · rw [hp] at h2; cases h2
              obtain ⟨k1, cells, k2, k3⟩ := key im hi
              exact ⟨k1, cells, k2, k3⟩
            · rw [hp] at h2; cases h2
              rcases h3 with ⟨rfl, _⟩ | ⟨h4, _⟩
              · obtain ⟨k1, cells, k2, k3⟩ := key im hi
                exact ⟨k1, cells, k2, k3⟩
              · have := srcLen_sl hl hsl; omega
theorem srcCells_ok {cs : List Value} {size : Nat} (hsz : size ≠ 0) (hl : srcLen x = some n) (hmn : m ≤ n) (hx : srcCells x (m * size) h = some cs) (hr : Rel P.cellsOf ρ h w) (hv : VR ρ x x') :
    cs.length = m * size ∧ (∀ v ∈ cs, scalar v = true) ∧ ∃ cells : Array Value, (Builtin.firstCells size m x').run P w = .ok cells w ∧ LR ρ cs cells.toList := by
  unfold srcCells at hx
  rw [bq] at hx
  by_cases h0 : m * size = 0
  · simp [h0] at hx
    subst hx
    exact ⟨h0.symm, fun v hv => by simp at hv, #[], first_zero hl hv h0 (fun e => absurd e hsz), .nil⟩
  · simp only [h0, decide_false] at hx
    cases hsl : asSl x with
    | none => simp [hsl] at hx
    | some s =>
      simp only [hsl] at hx
      cases hp : s.a with
      | none => simp [hp] at hx
      | some p =>
        simp only [hp] at hx
        cases hb : cellsOf (h.obj p.b) with
        | none => simp [hb] at hx
        | some l =>
          simp only [hb] at hx
          have key : ∀ (im : Im), ρ p.b = some im → cs.length = m * size ∧ (∀ v ∈ cs, scalar v = true) ∧ ∃ cells : Array Value, (loadCells ⟨im.blk, im.sh + p.off, none⟩ (m * size)).run P w = .ok cells w ∧ LR ρ cs cells.toList := by
            intro im hi
            obtain ⟨k1, k2⟩ := tkdrp hx
            have hcell : ∀ (j : Nat) (v : Value), cs[j]? = some v → (h.obj p.b).cell (p.off + j) = some v := fun j v hj => by
              have hj' : j < m * size := by rw [← k1]; exact (List.getElem?_eq_some_iff.1 hj).1
              rw [cellsOf_cell hb, ← k2 j hj']; exact hj
            obtain ⟨l', k3, k4⟩ := hr.row hi cs p.off hcell
            have := run_loadCells_list (P := P) w ⟨im.blk, im.sh + p.off, none⟩ l' k4
            rw [← k3.length, k1] at this
            refine ⟨k1, fun v hv => ?_, l'.toArray, this, by simpa using k3⟩
            obtain ⟨j, hj⟩ := List.mem_iff_getElem?.1 hv
            obtain ⟨_, _, _, h5⟩ := hr.cell hi (hcell j v hj)
            exact h5
          rcases asSl_VR hsl hv with ⟨rfl, rfl⟩ | ⟨p2, im, h2, hi, _, _, rfl⟩ | ⟨p2, im, a2, c2, h2, hi, _, _, rfl, h3⟩
          · simp at hp
          · rw [hp] at h2; cases h2
            exact key im hi
          · rw [hp] at h2; cases h2
            rcases h3 with ⟨rfl, _⟩ | ⟨h4, _⟩
            · exact key im hi
            · have := srcLen_sl hl hsl
              have hm0 : m = 0 := by omega
              rw [hm0] at h0; simp at h0
theorem scalar_map (bs : List UInt8) : ∀ v ∈ bs.map u8v, scalar v = true := fun v hv => by
  obtain ⟨b, _, rfl⟩ := List.mem_map.1 hv; rfl
theorem LR.u8s (bs : List UInt8) : LR ρ (bs.map u8v) (bs.map u8v) := by
  induction bs with
  | nil => exact .nil
  | cons b bs ih => exact .cons (.int _ _) ih
theorem srcVals_ok {ei : TI} {e : TypeId} {einfo : TypeInfo} (TE : TA P e ei einfo) {cs : List Value} (hl : srcLen x = some n) (hmn : m ≤ n) (hx : srcVals ei x m h = some cs) (hr : Rel P.cellsOf ρ h w) (hv : VR ρ x x') :
    ei.size ≠ 0 ∧ cs.length = m * ei.size ∧ (∀ v ∈ cs, scalar v = true) ∧ ∃ cells : Array Value, (Builtin.firstCells ei.size m x').run P w = .ok cells w ∧ LR ρ cs cells.toList := by
  unfold srcVals at hx
  cases hu : ei.u8 with
  | true =>
    have h1 := u8_one TE hu
    simp only [hu] at hx
    cases hb : srcBytes x m h with
    | none => simp [hb, optMap] at hx
    | some bs =>
      simp [hb, optMap, u8vs_eq] at hx
      obtain ⟨k1, cells, k2, k3⟩ := srcBytes_ok hl hmn hb hr hv
      subst hx
      rw [h1]
      exact ⟨by omega, by simp [k1], scalar_map bs, cells, k2, by rw [k3]; exact LR.u8s bs⟩
  | false =>
    simp only [hu, bq] at hx
    by_cases h0 : ei.size = 0
    · simp [h0] at hx
    · simp only [h0, decide_false] at hx
      obtain ⟨k1, k2, k3⟩ := srcCells_ok h0 hl hmn hx hr hv
      exact ⟨h0, k1, k2, k3⟩
theorem joinObj_some {ei : TI} {e : TypeId} {s : Value} {fz kd : Nat} {o : AObj} (hx : joinObj ei e s x n m fz kd h = some o) :
    ∃ A B, srcVals ei s n h = some A ∧ srcVals ei x m h = some B ∧ (∀ i, o.cell i = (A ++ B)[i]?) ∧ (∀ S ρ w im, kd ≠ 0 → (∃ q, RowR S ρ w im o e fz kd q) → OR S ρ w im o) := by
  have hn : ∀ {S ρ w im o e fz kd a b}, kd ≠ 0 → RowR S ρ w im o e fz kd a → RowR S ρ w im o e fz kd b := by
    intro S ρ w im o e fz kd a b hk hq
    obtain ⟨cs', lo, hi, h1, h2, h3, h4, h5, _⟩ := hq
    exact ⟨cs', lo, hi, h1, h2, h3, h4, h5, fun h => absurd h hk⟩
  unfold joinObj at hx
  unfold srcVals
  cases hu : ei.u8 with
  | true =>
    simp only [hu] at hx
    cases ha : srcBytes s n h with
    | none => simp [ha] at hx
    | some a =>
      simp only [ha] at hx
      cases hb : srcBytes x m h with
      | none => simp [hb] at hx
      | some b =>
        simp [hb] at hx
        subst hx
        refine ⟨a.map u8v, b.map u8v, by simp [optMap, u8vs_eq], by simp [optMap, u8vs_eq], fun i => ?_, fun S ρ w im hk ⟨q, hq⟩ => hn hk hq⟩
        rw [bytesOf_cell (l := app a b) rfl, app_eq, ← List.map_append, List.getElem?_map]
  | false =>
    simp only [hu, bq] at hx ⊢
    by_cases h0 : ei.size = 0
    · simp [h0] at hx
    · simp only [h0, decide_false] at hx ⊢
      rw [show Nat.mul n ei.size = n * ei.size from rfl, show Nat.mul m ei.size = m * ei.size from rfl] at hx ⊢
      cases ha : srcCells s (n * ei.size) h with
      | none => simp [ha] at hx
      | some a =>
        simp only [ha] at hx
        cases hb : srcCells x (m * ei.size) h with
        | none => simp [hb] at hx
        | some b =>
          simp [hb] at hx
          subst hx
          refine ⟨a, b, rfl, rfl, fun i => ?_, fun S ρ w im hk ⟨q, hq⟩ => hn hk hq⟩
          rw [cellsOf_cell (cs := app a b) rfl, app_eq]
section model
variable {ts : List TypeId} {xt ty e : TypeId} {base : Option Addr} {c size : Nat} {old new : Array Value} {xd : TypeDesc} {ei : TypeInfo} {z : Value}
theorem append_in (hs : P.underlying t = some (.slice e)) (hsz : (sizeOf e).run P w = .ok size w) (hxd : P.underlying xt = some xd) (hni : xd = .string ∨ ∃ q, xd = .slice q) (hlen : (Builtin.lenOf x').run P w = .ok m w)
    (hnew : (Builtin.firstCells size m x').run P w = .ok new w) (hle : n + m ≤ c) :
    (Builtin.append_ (t :: xt :: ts).toArray ty #[.slice base n c, x']).run P w =
      ((match base with | some a => storeCells (a.add (n * size)) new.toList | none => pure () : Sem Unit).run P w).andThen fun _ w' => .ok (.slice base (n + m) c) w' := by
  rcases hni with rfl | ⟨q, rfl⟩ <;> (cases base <;> simp [Builtin.append_, run_underlying hs, run_underlying hxd, hsz, hlen, hnew, hle])
theorem append_new (hs : P.underlying t = some (.slice e)) (hsz : (sizeOf e).run P w = .ok size w) (hxd : P.underlying xt = some xd) (hni : xd = .string ∨ ∃ q, xd = .slice q) (hlen : (Builtin.lenOf x').run P w = .ok m w)
    (hi : (typeInfo e).run P w = .ok ei w) (hb : ei.bytes ≤ 256) (hnm : n + m ≤ 4294967296)
    (hlt : c < n + m)
    (hold' : (Builtin.firstCells size n (.slice base n c)).run P w.drew = .ok old w.drew) (hz' : (zeroValue e).run P w.drew = .ok z w.drew)
    (hnew' : (Builtin.firstCells size m x').run P w.drew = .ok new w.drew) (hi' : (typeInfo e).run P w.drew = .ok ei w.drew) :
    (Builtin.append_ (t :: xt :: ts).toArray ty #[.slice base n c, x']).run P w =
      .ok (.slice (some ⟨w.heap.size, 0, none⟩) (n + m) (grownCap w (n + m) c e)) (w.drew.alloc (.cells (old ++ new ++ Builtin.zeroCells z.cells (grownCap w (n + m) c e - (n + m))) e)) := by
  have h1 : ¬ (n + m ≤ c) := by omega
  have h2 : ¬ ((9223372036854775807 : Int) < (n : Int) + (m : Int)) := by omega
  have h3 : ¬ (281474976710656 < Builtin.nextslicecap (n + m) c * ei.bytes) := by
    have h4 := growslice_fits (bytes := ei.bytes) hlt (by
      have : (n + m) * ei.bytes ≤ 4294967296 * 256 := Nat.mul_le_mul hnm hb
      omega)
    omega
  have hdr : ({ heap := w.heap, tape := w.tape, drawn := w.drawn + 1, os := w.os, output := w.output } : World) = w.drew := rfl
  rcases hni with rfl | ⟨q, rfl⟩ <;> (cases base <;> simp [Builtin.append_, run_underlying hs, run_underlying hxd, hsz, hlen, h1, h2, h3, hi, hi', hold', hz', hnew', Question.forced, newRow, grownCap])
end model
end
end Go.Proofs.YtkmbkejmfffafaaGreatDoor.Refl
namespace Go.Proofs.YtkmbkejmfffafaaGreatDoor.Refl
open Go
set_option linter.unusedVariables false
set_option linter.unusedSimpArgs false
section
variable {P : Program} {t : TypeId} {s s' x x' r : Value} {h h1 h2 : AH} {ρ : Ren} {w : World} {E : Env} {n m : Nat}
theorem Did.pre {q : Sem Value} (ht : h2.t = h.t) (hn : h2.n = h.n) (hl : h2.log = h.log) (hr : Rel P.cellsOf ρ h w) (hf : Fr ρ h.n h1.n) (hd : Did P q ρ h2 w r h1) : Did P q ρ h w r h1 := by
  obtain ⟨ρ', r', w', k1, k2, k3⟩ := hd
  exact ⟨ρ', r', w', k1, k2, Step.trans hf (.same hr ht hn hl rfl (Str.refl _)) k3⟩
theorem srcLen_of {sl : SL} (hs : asSl s = some sl) : srcLen s = some sl.n := by
  unfold srcLen
  cases s <;> simp [asSl] at hs
  simp [asStr, asSl, hs]
theorem srcVals_cell {ei : TI} {e : TypeId} {einfo : TypeInfo} (TE : TA P e ei einfo) {sl : SL} {p : PA} {A : List Value} (hs : asSl s = some sl) (hp : sl.a = some p) (hx : srcVals ei s n h = some A) :
    ∀ (i : Nat) (v : Value), A[i]? = some v → (h.obj p.b).cell (p.off + i) = some v := by
  intro i v hi
  have hstr : asStr s = none := by cases s <;> simp [asSl] at hs <;> rfl
  unfold srcVals at hx
  cases hu : ei.u8 with
  | true =>
    simp only [hu] at hx
    cases hb : srcBytes s n h with
    | none => simp [hb, optMap] at hx
    | some bs =>
      simp [hb, optMap, u8vs_eq] at hx
      subst hx
      unfold srcBytes at hb
      rw [bq] at hb
      by_cases h0 : n = 0
      · simp [h0] at hb; subst hb; simp at hi
      · simp only [h0, decide_false, hstr, hs, hp] at hb
        cases hl : bytesOf (h.obj p.b) with
        | none => simp [hl] at hb
        | some l =>
          simp only [hl] at hb
          obtain ⟨k1, k2⟩ := tkdrp hb
          rw [List.getElem?_map] at hi
          cases hj : bs[i]? with
          | none => rw [hj] at hi; simp at hi
          | some b =>
            have hlt : i < n := by rw [← k1]; exact (List.getElem?_eq_some_iff.1 hj).1
            rw [bytesOf_cell hl, ← k2 i hlt]; exact hi
  | false =>
    simp only [hu, bq] at hx
    by_cases h0 : ei.size = 0
    · simp [h0] at hx
    · simp only [h0, decide_false] at hx
      unfold srcCells at hx
      rw [bq] at hx
      by_cases h00 : Nat.mul n ei.size = 0
      · simp only [h00, decide_true] at hx; simp at hx; subst hx; simp at hi
      · simp only [h00, decide_false, hs, hp] at hx
        cases hl : cellsOf (h.obj p.b) with
        | none => simp [hl] at hx
        | some l =>
          simp only [hl] at hx
          obtain ⟨k1, k2⟩ := tkdrp hx
          have hlt : i < Nat.mul n ei.size := by rw [← k1]; exact (List.getElem?_eq_some_iff.1 hi).1
          rw [cellsOf_cell hl, ← k2 i hlt]; exact hi
theorem Rel.rowOf (r : Rel P.cellsOf ρ h w) {b e : Nat} {im : Im} (hb : ρ b = some im) (he : isElem e (h.obj b) = true) :
    b < h.n ∧ h.obj b ≠ .dead ∧ ∃ kd n, (kd = 2 ↔ marks (h.obj b) = 2) ∧ RowR P.cellsOf ρ w im (h.obj b) e (fzOf (h.obj b)) kd n := by
  unfold isElem at he
  cases ho : h.obj b with
  | cells cs e2 fz kd =>
    rw [ho] at he
    simp [elemOf, bq] at he
    subst he
    have hd : h.obj b ≠ .dead := by rw [ho]; simp
    have := r.obj b im hb (r.lt hd)
    rw [ho] at this
    exact ⟨r.lt hd, by simp, kd, _, by simp [marks, bq]; by_cases hk : kd = 2 <;> simp [hk], this⟩
  | bytes cs e2 fz kd =>
    rw [ho] at he
    simp [elemOf, bq] at he
    subst he
    have hd : h.obj b ≠ .dead := by rw [ho]; simp
    have := r.obj b im hb (r.lt hd)
    rw [ho] at this
    exact ⟨r.lt hd, by simp, kd, _, by simp [marks, bq]; by_cases hk : kd = 2 <;> simp [hk], this⟩
  | dead => rw [ho] at he; simp [elemOf] at he
  | map es c => rw [ho] at he; simp [elemOf] at he
  | siter q c => rw [ho] at he; simp [elemOf] at he
theorem marks_ne (o : AObj) : marks o ≠ 0 := by
  cases o <;> simp [marks, bq] <;> (rename_i kd; by_cases hk : kd = 2 <;> simp [hk])
theorem size_zeroCells (z : Array Value) (n : Nat) : (Builtin.zeroCells z n).size = n * z.size := by simp [Builtin.zeroCells]
theorem join_alloc {e : TypeId} {o : AObj} {A B : List Value} {old new rest : Array Value} {fz kd : Nat} {w1 : World} (hw1 : w1.heap = w.heap) (hs1 : Str w w1) (hr : Rel P.cellsOf ρ h w) (h0 : ρ h.n = none) (hc : ∀ i, o.cell i = (A ++ B)[i]?)
    (ho : ∀ S ρ w im, kd ≠ 0 → (∃ q, RowR S ρ w im o e fz kd q) → OR S ρ w im o) (hkd : kd ≠ 0) (hA : LR ρ A old.toList) (hB : LR ρ B new.toList) (sA : ∀ v ∈ A, scalar v = true) (sB : ∀ v ∈ B, scalar v = true) :
    Step P.cellsOf ρ h w (upd ρ h.n ⟨w.heap.size, 0, (old ++ new ++ rest).size, P.cellsOf e⟩) (h.alloc o) (w1.alloc (.cells (old ++ new ++ rest) e)) := by
  refine .alloc (x := .cells (old ++ new ++ rest) e) hr h0 (by show (w1.heap.push _) = _; rw [hw1]) ⟨hs1.os, hs1.tape, hs1.output⟩ rfl ?_
  refine ho _ _ _ _ hkd ⟨0, old ++ new ++ rest, 0, 0, ?_, fun i v hi => ?_, fz_new _ _ _, Nat.le_refl _, rfl, fun h => absurd h hkd⟩
  · show (w1.heap.push _)[w.heap.size]? = _
    rw [hw1]; simp
  · rw [hc] at hi
    have hsc : scalar v = true := by
      rcases List.mem_append.1 (List.mem_of_getElem? hi) with hm | hm
      · exact sA v hm
      · exact sB v hm
    obtain ⟨v', h3, h4⟩ := (hA.append hB).get hi
    refine ⟨hsc, v', ?_, h4.mono (Ext.upd h0)⟩
    have hlt : i < (old.toList ++ new.toList).length := (List.getElem?_eq_some_iff.1 h3).1
    rw [Nat.zero_add, Array.getElem?_append_left (by simpa using hlt), ← Array.getElem?_toList, Array.toList_append]
    exact h3
theorem join_moved {e b off : Nat} {o2 : AObj} {im : Im} {A B : List Value} {new : Array Value} {fz kd q : Nat} (hr : Rel P.cellsOf ρ h w) (h0 : ρ h.n = none) (hb : ρ b = some im) (hlt : b < h.n) (hd : h.obj b ≠ .dead)
    (hrow : RowR P.cellsOf ρ w im (h.obj b) e fz kd q) (hA : ∀ (i : Nat) (v : Value), A[i]? = some v → (h.obj b).cell (off + i) = some v) (hc : ∀ i, o2.cell i = (A ++ B)[i]?) {kd2 : Nat} (hk0 : kd2 ≠ 0) (hk2 : kd2 ≠ 2 → kd ≠ 2)
    (ho : ∀ S ρ w im, kd2 ≠ 0 → (∃ q, RowR S ρ w im o2 e (fz - off) kd2 q) → OR S ρ w im o2) (hB : LR ρ B new.toList) (sB : ∀ v ∈ B, scalar v = true) (hfz : fz ≤ off + A.length)
    (hlim : im.sh + off + (A.length + B.length) ≤ im.lim) :
    (storeCells ⟨im.blk, im.sh + off + A.length, none⟩ new.toList).run P w = .ok () (w.setCells im.blk (im.sh + off + A.length) new.toList) ∧
    Step P.cellsOf ρ h w (upd ρ h.n ⟨im.blk, im.sh + off, im.lim, im.es⟩) ((h.write b .dead).alloc o2) (w.setCells im.blk (im.sh + off + A.length) new.toList) := by
  obtain ⟨cs', lo, hi, h1, h2, h3, h4, h5, h6⟩ := hrow
  have hBl : B.length = new.toList.length := hB.length
  have hex : ∀ j, j < new.toList.length → ∃ u, cs'[im.sh + off + A.length + j]? = some u := fun j hj => ⟨_, Array.getElem?_eq_getElem (by omega)⟩
  have hrun := run_storeCells_cells (P := P) im.blk (im.sh + off + A.length) new.toList 0 w
    (fun j hj => by obtain ⟨u, hu⟩ := hex j hj; simp [World.cell?, h1, hu])
    (fun j hj => by
      have hlt : im.sh + off + A.length + j < cs'.size := by omega
      have hfr := h3.1 (im.sh + off + A.length + j) hlt
      simp only [World.frozen?, h1, Bool.and_eq_false_iff, decide_eq_false_iff_not]
      by_cases ha : lo ≤ im.sh + off + A.length + j
      · by_cases hb : im.sh + off + A.length + j < hi
        · have := hfr ha hb; omega
        · exact .inr (by simpa using hb)
      · exact .inl (by simpa using ha))
    (fun v' hv' => by
      obtain ⟨j, hj⟩ := List.mem_iff_getElem?.1 hv'
      have hjl : j < B.length := by rw [hBl]; exact (List.getElem?_eq_some_iff.1 hj).1
      obtain ⟨u', h7, h8⟩ := hB.get (List.getElem?_eq_getElem hjl)
      rw [hj] at h7; cases h7
      exact scalar_oneCell (scalar_VR h8 (sB _ (List.getElem_mem hjl))))
  simp only [Nat.add_zero] at hrun
  obtain ⟨cs2, k1, k2, k3, k4, k5, k6⟩ := heap_setCells im.blk new.toList (im.sh + off + A.length) w cs' e (lo, hi) h1
  refine ⟨hrun, .moved (im' := ⟨im.blk, im.sh + off, im.lim, im.es⟩) hr hb hlt hd h0 k4 k5 k6 rfl (ho _ _ _ _ hk0 ⟨0, cs2, lo, hi, k1, fun i v hi' => ?_, ?_, by rw [k2]; exact h4, h5, fun h => absurd h hk0⟩)⟩
  · rw [hc] at hi'
    by_cases hia : i < A.length
    · rw [List.getElem?_append_left hia] at hi'
      obtain ⟨g1, v', g2, g3⟩ := h2 _ v (hA i v hi')
      refine ⟨g1, v', ?_, g3.mono (Ext.upd h0)⟩
      show cs2[im.sh + off + i]? = some v'
      rw [k3, if_neg (by omega), Nat.add_assoc]; exact g2
    · rw [List.getElem?_append_right (by omega)] at hi'
      obtain ⟨v', g2, g3⟩ := hB.get hi'
      refine ⟨sB v (List.mem_of_getElem? hi'), v', ?_, g3.mono (Ext.upd h0)⟩
      have hlt2 : i - A.length < new.toList.length := (List.getElem?_eq_some_iff.1 g2).1
      show cs2[im.sh + off + i]? = some v'
      rw [k3, if_pos (by omega), show im.sh + off + i - (im.sh + off + A.length) = i - A.length by omega]
      exact g2
  · rw [k2]
    refine ⟨fun j q1 q2 q3 => ?_, fun q1 => ?_⟩
    · have := h3.1 j q1 q2 q3
      show j < im.sh + off + (fz - off)
      omega
    · show lo = hi ∨ hi ≤ im.sh + off + (fz - off)
      rcases h3.2 (hk2 q1) with h | h
      · exact .inl h
      · right; omega
end
end Go.Proofs.YtkmbkejmfffafaaGreatDoor.Refl
namespace Go.Proofs.YtkmbkejmfffafaaGreatDoor.Refl
open Go
set_option linter.unusedVariables false
set_option linter.unusedSimpArgs false
section
variable {P : Program} {t xt ty : TypeId} {ts : List TypeId} {s s' x x' r : Value} {h h1 h2 : AH} {ρ : Ren} {w : World} {E : Env} {n m : Nat}
theorem storeCells_nil (a : Addr) : (storeCells a []).run P w = .ok () w := by simp [storeCells]
theorem drewStr (w : World) : Str w w.drew := ⟨rfl, rfl, rfl⟩
theorem drew_rel (hr : Rel P.cellsOf ρ h w) : Rel P.cellsOf ρ h w.drew := hr.congr rfl rfl rfl
theorem app_grow {e : TypeId} {ei : TI} {einfo : TypeInfo} {o : AObj} {fz kd c' : Nat} {base : Option Addr} {xd : TypeDesc} {z : Value} (hs : P.underlying t = some (.slice e)) (TE : TA P e ei einfo) (hz : ei.zero = some z)
    (hxd : P.underlying xt = some xd) (hni : xd = .string ∨ ∃ q, xd = .slice q) (hby : ei.bytes ≤ 256) (hnm : n + m ≤ 4294967296) (hm : m ≠ 0)
    (hlS : srcLen s = some n) (hlX : srcLen x = some m) (hvS : VR ρ s (.slice base n c')) (hvX : VR ρ x x') (hr : Rel P.cellsOf ρ h w) (hlt : c' < n + m)
    {hq : AH} (hrq : Rel P.cellsOf ρ hq w) (hnq : hq.n = h.n) (h0 : ρ h.n = none)
    (hx : joinObj ei e s x n m fz kd h = some o) (hkd : kd ≠ 0) :
    Did P (Builtin.append_ (t :: xt :: ts).toArray ty #[.slice base n c', x']) ρ hq w (slV h.n 0 (n + m) LOOSE) (hq.alloc o) := by
  obtain ⟨A, B, hA, hB, hc, ho⟩ := joinObj_some hx
  obtain ⟨g0, gl, gs, old, gold, gLR⟩ := srcVals_ok TE hlS (Nat.le_refl _) hA hr hvS
  obtain ⟨_, bl, bs, new, bnew, bLR⟩ := srcVals_ok TE hlX (Nat.le_refl _) hB hr hvX
  obtain ⟨_, _, _, old2, gold2, gLR2⟩ := srcVals_ok TE hlS (Nat.le_refl _) hA (drew_rel hr) hvS
  obtain ⟨_, _, _, new2, bnew2, bLR2⟩ := srcVals_ok TE hlX (Nat.le_refl _) hB (drew_rel hr) hvX
  have hlen := (srcLen_run (P := P) (w := w) hlX hvX).1
  have hrun := append_new (P := P) (w := w) (ts := ts) (ty := ty) hs (TE.run_size w) hxd hni hlen (TE.run_ti w) (by rw [← TE.bytes]; exact hby) hnm hlt gold2 (TE.run_zero w.drew hz) bnew2 (TE.run_ti w.drew)
  have hge := grownCap_ge w (n + m) c' e
  have hzs : z.cells.size = ei.size := by
    have hzv := vcells_VR (flat_VR ρ 5 z (TE.flat hz))
    rw [← Array.length_toList, ← hzv.length, TE.zlen hz]
  have hst := join_alloc (h := hq) (e := e) (rest := Builtin.zeroCells z.cells (grownCap w (n + m) c' e - (n + m))) (w := w) (w1 := w.drew) rfl (drewStr w) hrq (by rw [hnq]; exact h0) hc ho hkd gLR2 bLR2 gs bs
  refine ⟨_, _, _, hrun, ?_, hst⟩
  rw [hnq]
  refine .slLoose (im := ⟨w.heap.size, 0, _, P.cellsOf e⟩) rfl (upd_same _ _ _) hge (.inl ⟨⟨rfl, rfl, _, upd_same _ _ _, rfl, rfl⟩, ?_⟩)
  have e1 : old2.size = n * ei.size := by rw [← Array.length_toList, ← gLR2.length, gl]
  have e2 : new2.size = m * ei.size := by rw [← Array.length_toList, ← bLR2.length, bl]
  show 0 + grownCap w (n + m) c' e * P.cellsOf e ≤ (old2 ++ new2 ++ Builtin.zeroCells z.cells _).size
  rw [TE.cells, Array.size_append, Array.size_append, size_zeroCells, hzs, e1, e2, Nat.zero_add, ← Nat.add_mul, ← Nat.add_mul]
  exact Nat.mul_le_mul_right _ (by omega)
theorem storeAt_ob {b off : Nat} {vs : List Value} (hx : storeAt h b off vs = some h1) : h1.ob = h.ob := by
  unfold storeAt at hx
  cases ho : h.obj b <;> rw [ho] at hx <;> simp only [stCells, stBytes] at hx
  all_goals (repeat' split at hx)
  all_goals first | (cases hx; rfl) | (simp at hx; done)
theorem app2_ob {ei : TI} {e : TypeId} {sl : SL} (hx : app2 ei e s x sl m h = some (r, h1)) : h1.ob = h.ob := by
  unfold app2 appLoose appLoose1 appIn appNew retSl at hx
  repeat' split at hx
  all_goals first | (cases hx; rfl) | (simp at hx; done) | (cases hx; rename_i hst; exact storeAt_ob hst)
theorem app2_ok {e : TypeId} {ei : TI} {einfo : TypeInfo} {sl : SL} {xd : TypeDesc} {z : Value} (hs : P.underlying t = some (.slice e)) (TE : TA P e ei einfo) (hz : ei.zero = some z)
    (hxd : P.underlying xt = some xd) (hni : xd = .string ∨ ∃ q, xd = .slice q) (hby : ei.bytes ≤ 256) (hsl : asSl s = some sl) (hlX : srcLen x = some m) (hvS : VR ρ s s') (hvX : VR ρ x x')
    (hr : Rel P.cellsOf ρ h w) (hf : Fr ρ h.n h1.n) (hnm : sl.n + m ≤ 4294967296) (hx : app2 ei e s x sl m h = some (r, h1)) :
    h1.ob = h.ob ∧ Did P (Builtin.append_ (t :: xt :: ts).toArray ty #[s', x']) ρ h w r h1 := by
  have hlS := srcLen_of hsl
  have hlen := (srcLen_run (P := P) (w := w) hlX hvX).1
  unfold app2 at hx
  rw [bq] at hx
  by_cases h0 : m = 0
  · simp [h0] at hx
    obtain ⟨rfl, rfl⟩ := hx
    subst h0
    refine ⟨rfl, ?_⟩
    have hnew := first_zero (P := P) (w := w) (size := ei.size) (m := 0) hlX hvX (by omega) (by omega)
    have key : ∀ (base : Option Addr) (c' : Nat), s' = .slice base sl.n c' → sl.n ≤ c' → Did P (Builtin.append_ (t :: xt :: ts).toArray ty #[s', x']) ρ h w s h := by
      rintro base c' rfl hle
      refine Did.same hr ?_ hvS
      rw [append_in (n := sl.n) (m := 0) hs (TE.run_size w) hxd hni hlen hnew (by omega)]
      cases base <;> simp [storeCells_nil]
    rcases asSl_VR hsl hvS with ⟨rfl, rfl⟩ | ⟨p, im, _, _, _, hle, rfl⟩ | ⟨p, im, a2, c2, _, _, _, hle, rfl, _⟩
    · exact key none 0 rfl (Nat.le_refl _)
    · exact key _ _ rfl hle
    · exact key _ _ rfl hle
  · simp only [h0, decide_false, loose, ble_eq] at hx
    rcases asSl_VR hsl hvS with ⟨rfl, rfl⟩ | ⟨p, im, hp, hb, hcl, hle, rfl⟩ | ⟨p, im, a2, c2, hp, hb, hcl, hle, rfl, h3⟩
    · have hL : ¬ LOOSE ≤ 0 := by decide
      have hnle : ¬ (Nat.add 0 m ≤ 0) := by show ¬ (0 + m ≤ 0); omega
      simp only [hL, decide_false, hnle] at hx
      unfold appNew at hx
      cases hj : joinObj ei e s x 0 m 0 1 h with
      | none => simp [hj] at hx
      | some o =>
        simp [hj] at hx
        obtain ⟨rfl, rfl⟩ := hx
        have h00 : ρ h.n = none := hf h.n (Nat.le_refl _) (by rw [alloc_n]; omega)
        have hnm' : 0 + m ≤ 4294967296 := hnm
        exact ⟨rfl, by simpa using app_grow (n := 0) (m := m) hs TE hz hxd hni hby hnm' h0 hlS hlX hvS hvX hr (by omega) hr rfl h00 hj (by omega)⟩
    · have hL : ¬ LOOSE ≤ sl.c := by omega
      simp only [hL, decide_false] at hx
      by_cases hin : sl.n + m ≤ sl.c
      · have hin' : Nat.add sl.n m ≤ sl.c := hin
        simp only [hin', decide_true] at hx
        unfold appIn at hx
        simp only [hp] at hx
        cases hv : srcVals ei x m h with
        | none => simp [hv] at hx
        | some cs =>
          simp only [hv] at hx
          rw [show Nat.add p.off (Nat.mul sl.n ei.size) = p.off + sl.n * ei.size from rfl] at hx
          cases hst : storeAt h p.b (p.off + sl.n * ei.size) cs with
          | none => simp [hst, retSl] at hx
          | some h2 =>
            simp [hst, retSl] at hx
            obtain ⟨rfl, rfl⟩ := hx
            obtain ⟨_, bl, bs, new, bnew, bLR⟩ := srcVals_ok TE hlX (Nat.le_refl _) hv hr hvX
            obtain ⟨k1, k2, k3, _⟩ := storeAt_ok (P := P) hst hr hb bLR bs
            refine ⟨k3, ρ, .slice (some ⟨im.blk, im.sh + p.off, none⟩) (sl.n + m) sl.c, _, ?_, .slTight ⟨rfl, rfl, im, hb, rfl, rfl⟩ hcl hin, k2⟩
            rw [append_in (n := sl.n) (m := m) hs (TE.run_size w) hxd hni hlen bnew hin]
            have e1 : ((⟨im.blk, im.sh + p.off, none⟩ : Addr).add (sl.n * ei.size)) = ⟨im.blk, im.sh + (p.off + sl.n * ei.size), none⟩ := by
              rw [Addr.add_lit, Nat.add_assoc]
            simp only [e1, k1, Result.andThen_ok]
      · have hin' : ¬ Nat.add sl.n m ≤ sl.c := hin
        simp only [hin', decide_false] at hx
        unfold appNew at hx
        cases hj : joinObj ei e s x sl.n m 0 1 h with
        | none => simp [hj] at hx
        | some o =>
          simp [hj] at hx
          obtain ⟨rfl, rfl⟩ := hx
          have h00 : ρ h.n = none := hf h.n (Nat.le_refl _) (by rw [alloc_n]; omega)
          exact ⟨rfl, app_grow hs TE hz hxd hni hby hnm h0 hlS hlX hvS hvX hr (by omega) hr rfl h00 hj (by omega)⟩
    · have hL : LOOSE ≤ sl.c := by omega
      simp only [hL, decide_true] at hx
      unfold appLoose at hx
      simp only [hp] at hx
      cases hel : isElem e (h.obj p.b) with
      | false => simp [hel] at hx
      | true =>
        simp only [hel, appLoose1, ble_eq] at hx
        by_cases hfz : fzOf (h.obj p.b) ≤ Nat.add p.off (Nat.mul sl.n ei.size)
        · simp only [hfz, decide_true] at hx
          rw [show Nat.sub (fzOf (h.obj p.b)) p.off = fzOf (h.obj p.b) - p.off from rfl] at hx
          cases hj : joinObj ei e s x sl.n m (fzOf (h.obj p.b) - p.off) (marks (h.obj p.b)) h with
          | none => simp [hj] at hx
          | some o =>
            simp [hj] at hx
            obtain ⟨rfl, rfl⟩ := hx
            have h00 : ρ h.n = none := hf h.n (Nat.le_refl _) (by rw [alloc_n, write_n]; omega)
            obtain ⟨hlt, hd, kd, q, hkd, hrow⟩ := hr.rowOf hb hel
            refine ⟨rfl, ?_⟩
            by_cases hin : sl.n + m ≤ c2
            · rcases h3 with ⟨rfl, hlim⟩ | ⟨h4, h5⟩
              · obtain ⟨A, B, hA, hB, hc, ho⟩ := joinObj_some hj
                obtain ⟨_, al, as_, old, aold, aLR⟩ := srcVals_ok TE hlS (Nat.le_refl _) hA hr hvS
                obtain ⟨_, bl, bs, new, bnew, bLR⟩ := srcVals_ok TE hlX (Nat.le_refl _) hB hr hvX
                have hes : im.es = ei.size := by
                  obtain ⟨cs', lo, hi, g1, g2, g3, g4, g5, g6⟩ := hrow
                  rw [g5, TE.cells]
                obtain ⟨k1, k2⟩ := join_moved hr h00 hb hlt hd hrow (srcVals_cell TE hsl hp hA) hc (marks_ne _) (fun g1 g2 => g1 (hkd.1 g2)) ho bLR bs (by rw [al]; exact hfz) (by
                  rw [al, bl, ← Nat.add_mul]
                  have : (sl.n + m) * ei.size ≤ c2 * ei.size := Nat.mul_le_mul_right _ hin
                  rw [hes] at hlim
                  omega)
                refine ⟨_, .slice (some ⟨im.blk, im.sh + p.off, none⟩) (sl.n + m) c2, _, ?_, ?_, k2⟩
                · rw [append_in (n := sl.n) (m := m) hs (TE.run_size w) hxd hni hlen bnew hin]
                  have e1 : ((⟨im.blk, im.sh + p.off, none⟩ : Addr).add (sl.n * ei.size)) = ⟨im.blk, im.sh + p.off + A.length, none⟩ := by
                    rw [Addr.add_lit, al]
                  simp only [e1, k1, Result.andThen_ok]
                · exact .slLoose (im := ⟨im.blk, im.sh + p.off, im.lim, im.es⟩) rfl (upd_same _ _ _) hin (.inl ⟨⟨rfl, rfl, _, upd_same _ _ _, rfl, rfl⟩, hlim⟩)
              · omega
            · have hkill := Step.kill hr hb hlt hd
              have hdid := app_grow (t := t) (xt := xt) (ty := ty) (ts := ts) hs TE hz hxd hni hby hnm h0 hlS hlX hvS hvX hr (by omega) hkill.rel rfl h00 hj (marks_ne _)
              obtain ⟨ρ', r', w', g1, g2, g3⟩ := hdid
              exact ⟨ρ', r', w', g1, g2, Step.trans hf hkill g3⟩
        · simp only [hfz, decide_false] at hx
          simp at hx
variable (hE : EnvT P E)
include hE
theorem aappend_ok {xd : TypeDesc} (hxd : P.underlying xt = some xd) (hni : xd = .string ∨ ∃ q, xd = .slice q) (hx : aappend E t s x h = some (r, h1)) (hob : OB h1) (hr : Rel P.cellsOf ρ h w) (hf : Fr ρ h.n h1.n) (hvS : VR ρ s s') (hvX : VR ρ x x') :
    OB h ∧ Did P (Builtin.append_ (t :: xt :: ts).toArray ty #[s', x']) ρ h w r h1 := by
  unfold aappend at hx
  cases hsl : asSl s with
  | none => simp [hsl] at hx
  | some sl =>
    simp only [hsl] at hx
    cases hlX : srcLen x with
    | none => simp [hlX] at hx
    | some m =>
      simp only [hlX] at hx
      cases ht : E.ty.get t with
      | none => simp [ht] at hx
      | some ti =>
        obtain ⟨info, T⟩ := hE.at ht
        simp only [ht] at hx
        cases h5 : Nat.beq ti.kd 5 with
        | false => simp [h5] at hx
        | true =>
          simp only [h5] at hx
          cases hte : E.ty.get ti.el with
          | none => simp [hte] at hx
          | some ei =>
            obtain ⟨einfo, TE⟩ := hE.at hte
            simp only [hte, app1, ble_eq] at hx
            by_cases hby : ei.bytes ≤ 256
            · simp only [hby, decide_true] at hx
              cases hz : ei.zero with
              | none => simp [hz] at hx
              | some z =>
                simp only [hz] at hx
                rw [show Nat.add sl.n m = sl.n + m from rfl] at hx
                cases hq : h.req (decide (sl.n + m ≤ 4294967296)) with
                | none => simp [hq] at hx
                | some h2 =>
                  simp only [hq] at hx
                  obtain ⟨k1, k2, k3, k4⟩ := req_some hq
                  have hr2 : Rel P.cellsOf ρ h2 w := hr.congr k1 k2 rfl
                  have hf2 : Fr ρ h2.n h1.n := by rw [k2]; exact hf
                  have hpre : sl.n + m ≤ 4294967296 → h1.ob = h2.ob ∧ Did P (Builtin.append_ (t :: xt :: ts).toArray ty #[s', x']) ρ h2 w r h1 := fun hnm =>
                    app2_ok ((T.isSlice h5) ▸ T.hu) TE hz hxd hni hby hsl hlX hvS hvX hr2 hf2 hnm hx
                  have hob2 : OB h2 := by
                    have : h1.ob = h2.ob := app2_ob hx
                    intro b hb; exact hob b (by rw [this]; exact hb)
                  obtain ⟨k5, k6⟩ := k4 hob2
                  exact ⟨k5, Did.pre k1 k2 k3 hr hf (hpre (by simpa using k6)).2⟩
            · simp [hby] at hx
end
end Go.Proofs.YtkmbkejmfffafaaGreatDoor.Refl
namespace Go.Proofs.YtkmbkejmfffafaaGreatDoor.Refl
open Go
set_option linter.unusedVariables false
set_option linter.unusedSimpArgs false
section
variable {P : Program} {t ty : TypeId} {ts : List TypeId} {s s' x x' y y' r : Value} {h h1 h2 : AH} {ρ : Ren} {w : World} {E : Env} {n m : Nat}
theorem copyN_ok {e : TypeId} {ei : TI} {einfo : TypeInfo} {sl : SL} {k : Nat} (hs : P.underlying t = some (.slice e)) (TE : TA P e ei einfo) (hsl : asSl s = some sl) (hlX : srcLen x = some m) (hvS : VR ρ s s') (hvX : VR ρ x x')
    (hk : k = Nat.min m sl.n) (hr : Rel P.cellsOf ρ h w) (hx : copyN ei sl x k h = some (r, h1)) : h1.ob = h.ob ∧ Did P (Builtin.copy_ (t :: ts).toArray ty #[s', x']) ρ h w r h1 := by
  have hlen := (srcLen_run (P := P) (w := w) hlX hvX).1
  have hkm : k ≤ m := by rw [hk]; exact Nat.min_le_left _ _
  have hkn : k ≤ sl.n := by rw [hk]; exact Nat.min_le_right _ _
  have run : ∀ (base : Option Addr) (c' : Nat) (new : Array Value) (w' : World), s' = .slice base sl.n c' → (Builtin.firstCells ei.size k x').run P w = .ok new w →
      (match base with | some a => storeCells a new.toList | none => pure () : Sem Unit).run P w = .ok () w' → (Builtin.copy_ (t :: ts).toArray ty #[s', x']).run P w = .ok (intV k) w' := by
    rintro base c' new w' rfl hnew hst
    subst hk
    cases base with
    | none =>
      simp at hst
      subst hst
      simp [Builtin.copy_, run_underlying hs, TE.run_size, hlen, hnew]; rfl
    | some b =>
      simp at hst
      simp [Builtin.copy_, run_underlying hs, TE.run_size, hlen, hnew, hst]; rfl
  unfold copyN at hx
  rw [bq] at hx
  by_cases h0 : k = 0
  · simp [h0] at hx
    obtain ⟨rfl, rfl⟩ := hx
    rw [h0] at run
    have hnew := first_zero (P := P) (w := w) (size := ei.size) (m := 0) hlX hvX (by omega) (by omega)
    refine ⟨rfl, Did.same hr ?_ (.int _ _)⟩
    rcases asSl_VR hsl hvS with ⟨h5, rfl⟩ | ⟨p, im, _, _, _, hle, rfl⟩ | ⟨p, im, a2, c2, _, _, _, hle, rfl, _⟩
    · exact run none 0 _ _ (by rw [h5]) hnew rfl
    · exact run _ _ _ _ rfl hnew (storeCells_nil _)
    · exact run _ _ _ _ rfl hnew (storeCells_nil _)
  · simp only [h0, decide_false] at hx
    cases hp : sl.a with
    | none => simp [hp] at hx
    | some p =>
      simp only [hp] at hx
      cases hv : srcVals ei x k h with
      | none => simp [hv] at hx
      | some cs =>
        simp only [hv] at hx
        cases hst : storeAt h p.b p.off cs with
        | none => simp [hst] at hx
        | some h2 =>
          simp [hst] at hx
          obtain ⟨rfl, rfl⟩ := hx
          obtain ⟨_, bl, bs, new, bnew, bLR⟩ := srcVals_ok TE hlX hkm hv hr hvX
          rcases asSl_VR hsl hvS with ⟨h5, rfl⟩ | ⟨q, im, hq, hb, _, hle, rfl⟩ | ⟨q, im, a2, c2, hq, hb, _, hle, rfl, h6⟩
          · rw [h5] at hp; cases hp
          · rw [hp] at hq; cases hq
            obtain ⟨k1, k2, k3, _⟩ := storeAt_ok (P := P) hst hr hb bLR bs
            exact ⟨k3, ρ, _, _, run _ _ _ _ rfl bnew k1, .int _ _, k2⟩
          · rw [hp] at hq; cases hq
            rcases h6 with ⟨rfl, _⟩ | ⟨h7, _⟩
            · obtain ⟨k1, k2, k3, _⟩ := storeAt_ok (P := P) hst hr hb bLR bs
              exact ⟨k3, ρ, _, _, run _ _ _ _ rfl bnew k1, .int _ _, k2⟩
            · omega
theorem mm_ok {f : IV → IV → Value} {g : Value → Value → Sem Value} (hf : ∀ a b : IV, (g (.int a.k a.n) (.int b.k b.n)).run P w = .ok (f a b) w) (hfl : ∀ a b, VR ρ (f a b) (f a b))
    (hx : mm f x y h = some (r, h1)) (hr : Rel P.cellsOf ρ h w) (hv : VR ρ x x') (hv2 : VR ρ y y') : h1.ob = h.ob ∧ Did P (g x' y') ρ h w r h1 := by
  unfold mm at hx
  cases hi : asInt x with
  | none => simp [hi] at hx
  | some i =>
    obtain ⟨rfl, rfl⟩ := asInt_VR hi hv
    simp only [hi] at hx
    cases hj : asInt y with
    | none => simp [hj] at hx
    | some j =>
      obtain ⟨rfl, rfl⟩ := asInt_VR hj hv2
      simp only [hj] at hx
      cases hk : kEq i.k j.k with
      | false => simp [hk] at hx
      | true =>
        simp [hk] at hx
        obtain ⟨rfl, rfl⟩ := hx
        exact ⟨rfl, Did.same hr (hf i j) (hfl i j)⟩
theorem asliceData_ok (hx : asliceData x h = some (r, h1)) (hr : Rel P.cellsOf ρ h w) (hv : VR ρ x x') : h1.ob = h.ob ∧ Did P (Builtin.unsafeSliceData_ ts.toArray ty #[x']) ρ h w r h1 := by
  unfold asliceData at hx
  cases hs : asSl x with
  | none => simp [hs] at hx
  | some sl =>
    simp only [hs] at hx
    cases hp : sl.a with
    | none =>
      simp [hp] at hx
      obtain ⟨rfl, rfl⟩ := hx
      rcases asSl_VR hs hv with ⟨rfl, rfl⟩ | ⟨q, im, hq, _⟩ | ⟨q, im, a2, c2, hq, _⟩
      · exact ⟨rfl, Did.same hr (Lib.run_unsafeSliceData_nil w _ _ 0 0) .ptrNil⟩
      · rw [hp] at hq; cases hq
      · rw [hp] at hq; cases hq
    | some p =>
      simp only [hp, bq] at hx
      by_cases h0 : sl.n = 0
      · simp [h0] at hx
      · simp [h0] at hx
        obtain ⟨rfl, rfl⟩ := hx
        rcases asSl_VR hs hv with ⟨rfl, rfl⟩ | ⟨q, im, hq, hb, _, hle, rfl⟩ | ⟨q, im, a2, c2, hq, hb, _, hle, rfl, h6⟩
        · cases hp
        · rw [hp] at hq; cases hq
          have hc : sl.c ≠ 0 := by omega
          exact ⟨rfl, Did.same hr (Lib.run_unsafeSliceData_row w _ _ _ _ _ hc) (VR.ptr_mk hb)⟩
        · rw [hp] at hq; cases hq
          have hc : c2 ≠ 0 := by omega
          rcases h6 with ⟨rfl, _⟩ | ⟨h7, _⟩
          · exact ⟨rfl, Did.same hr (Lib.run_unsafeSliceData_row w _ _ _ _ _ hc) (VR.ptr_mk hb)⟩
          · omega
theorem freeze_row {im : Im} {l : List UInt8} {e fz kd off k : Nat} (hk : kd ≠ 2) (h0 : k ≠ 0) (hrow : RowR P.cellsOf ρ w im (.bytes l e fz kd) e fz kd l.length) :
    RowR P.cellsOf ρ (w.freeze ⟨im.blk, im.sh + off, none⟩ k) im (.bytes l e (max fz (off + k)) kd) e (max fz (off + k)) kd l.length ∧ (w.freeze ⟨im.blk, im.sh + off, none⟩ k).heap.size = w.heap.size ∧
    (∀ c, c ≠ im.blk → (w.freeze ⟨im.blk, im.sh + off, none⟩ k).heap[c]? = w.heap[c]?) ∧ Str w (w.freeze ⟨im.blk, im.sh + off, none⟩ k) := by
  obtain ⟨cs', lo, hi, h1, h2, h3, h4, h5, h6⟩ := hrow
  have hsame : (w.freeze ⟨im.blk, im.sh + off, none⟩ k).heap[im.blk]? = some (.cells cs' e (if lo == hi then (im.sh + off, im.sh + off + k) else (min lo (im.sh + off), max hi (im.sh + off + k)))) := by
    simp [World.freeze, h0, Array.getElem?_modify, h1]
  refine ⟨?_, by simp [World.freeze, h0], fun c hc => ?_, ⟨by simp [World.freeze, h0], by simp [World.freeze, h0], by simp [World.freeze, h0]⟩⟩
  · by_cases hlh : lo = hi
    · refine ⟨cs', im.sh + off, im.sh + off + k, ?_, h2, ⟨fun j a b c => ?_, fun _ => .inr ?_⟩, h4, h5, fun q => ⟨(h6 q).1, (h6 q).2.1, fun z => by omega⟩⟩
      · rw [hsame]; simp [hlh]
      · omega
      · omega
    · refine ⟨cs', min lo (im.sh + off), max hi (im.sh + off + k), ?_, h2, ⟨fun j a b c => ?_, fun _ => .inr ?_⟩, h4, h5, fun q => ⟨(h6 q).1, (h6 q).2.1, fun z => by omega⟩⟩
      · rw [hsame]; simp [hlh]
      · have := h3.2 hk; omega
      · have := h3.2 hk; omega
  · have : im.blk ≠ c := fun e => hc e.symm
    simp [World.freeze, h0, Array.getElem?_modify, this]
theorem unsafeString_arm (p : Option Addr) (l : Value) (f : Option Addr → Value → Sem Value) (g : Array Value → Sem Value) : Builtin.unsafeString_.match_3 (fun _ => Sem Value) #[.pointer p, l] f g = f p l := rfl
variable (hE : EnvT P E)
include hE
theorem acopy_ok (hx : acopy E t s x h = some (r, h1)) (hr : Rel P.cellsOf ρ h w) (hvS : VR ρ s s') (hvX : VR ρ x x') : h1.ob = h.ob ∧ Did P (Builtin.copy_ (t :: ts).toArray ty #[s', x']) ρ h w r h1 := by
  unfold acopy at hx
  cases hsl : asSl s with
  | none => simp [hsl] at hx
  | some sl =>
    simp only [hsl] at hx
    cases hlX : srcLen x with
    | none => simp [hlX] at hx
    | some m =>
      simp only [hlX] at hx
      cases ht : E.ty.get t with
      | none => simp [ht] at hx
      | some ti =>
        obtain ⟨info, T⟩ := hE.at ht
        simp only [ht] at hx
        cases h5 : Nat.beq ti.kd 5 with
        | false => simp [h5] at hx
        | true =>
          simp only [h5] at hx
          cases hte : E.ty.get ti.el with
          | none => simp [hte] at hx
          | some ei =>
            obtain ⟨einfo, TE⟩ := hE.at hte
            simp only [hte, ble_eq] at hx
            have hu := (T.isSlice h5) ▸ T.hu
            by_cases hle : m ≤ sl.n
            · simp only [hle, decide_true] at hx
              exact copyN_ok hu TE hsl hlX hvS hvX (by show m = min m sl.n; omega) hr hx
            · simp only [hle, decide_false] at hx
              exact copyN_ok hu TE hsl hlX hvS hvX (by show sl.n = min m sl.n; omega) hr hx
theorem alen_ok (hx : alen E t x h = some (r, h1)) (hr : Rel P.cellsOf ρ h w) (hv : VR ρ x x') : h1.ob = h.ob ∧ Did P (Builtin.len_ (t :: ts).toArray ty #[x']) ρ h w r h1 := by
  unfold alen at hx
  cases ht : E.ty.get t with
  | none => simp [ht] at hx
  | some ti =>
    obtain ⟨info, T⟩ := hE.at ht
    simp only [ht] at hx
    cases h3 : Nat.beq ti.kd 3 with
    | true =>
      simp only [h3] at hx
      cases hs : asStr x with
      | none => simp [hs] at hx
      | some l =>
        obtain ⟨q, rfl, rfl, rfl⟩ := asStr_VR hs hv
        simp [hs, len_eq] at hx
        obtain ⟨rfl, rfl⟩ := hx
        exact ⟨rfl, Did.same hr (by simp [Builtin.len_, T.run_u, T.isString h3]; rfl) (.int _ _)⟩
    | false =>
      simp only [h3] at hx
      cases h5 : Nat.beq ti.kd 5 with
      | true =>
        simp only [h5] at hx
        cases hs : asSl x with
        | none => simp [hs] at hx
        | some sl =>
          simp [hs] at hx
          obtain ⟨rfl, rfl⟩ := hx
          refine ⟨rfl, Did.same hr ?_ (.int _ _)⟩
          rcases asSl_VR hs hv with ⟨rfl, rfl⟩ | ⟨q, im, hq, hb, _, hle, rfl⟩ | ⟨q, im, a2, c2, hq, hb, _, hle, rfl, h6⟩ <;> (simp [Builtin.len_, T.run_u, T.isSlice h5]; rfl)
      | false =>
        simp only [h5] at hx
        cases h7 : Nat.beq ti.kd 7 with
        | false => simp [h7] at hx
        | true =>
          simp only [h7] at hx
          cases hm : asMap x with
          | none => simp [hm] at hx
          | some o =>
            simp only [hm] at hx
            rcases asMap_VR hm hv with ⟨rfl, rfl⟩ | ⟨b, im, rfl, hb, rfl⟩
            · simp [lenMap] at hx
              obtain ⟨rfl, rfl⟩ := hx
              exact ⟨rfl, Did.same hr (by simp [Builtin.len_, T.run_u, T.isMap h7]; rfl) (.int _ _)⟩
            · simp only [lenMap] at hx
              cases hmo : mapOf (h.obj b) with
              | none => simp [hmo] at hx
              | some mp =>
                simp [hmo, len_eq] at hx
                obtain ⟨rfl, rfl⟩ := hx
                obtain ⟨_, _, es', g3, g4⟩ := hr.map hb hmo
                refine ⟨rfl, Did.same hr ?_ (.int _ _)⟩
                simp [Builtin.len_, T.run_u, T.isMap h7, MapKept.run_getObj_map g3]
                rw [g4.length]; rfl
theorem acap_ok (hx : acap E t x h = some (r, h1)) (hr : Rel P.cellsOf ρ h w) (hv : VR ρ x x') : h1.ob = h.ob ∧ Did P (Builtin.cap_ (t :: ts).toArray ty #[x']) ρ h w r h1 := by
  unfold acap at hx
  cases hs : asSl x with
  | none => simp [hs] at hx
  | some sl =>
    simp only [hs] at hx
    cases ht : E.ty.get t with
    | none => simp [ht] at hx
    | some ti =>
      obtain ⟨info, T⟩ := hE.at ht
      simp only [ht] at hx
      cases h5 : Nat.beq ti.kd 5 with
      | false => simp [h5] at hx
      | true =>
        simp only [h5] at hx
        cases hl : loose sl.c with
        | true => simp [hl] at hx
        | false =>
          simp [hl] at hx
          obtain ⟨rfl, rfl⟩ := hx
          rw [loose, ble_eq, decide_eq_false_iff_not] at hl
          refine ⟨rfl, Did.same hr ?_ (.int _ _)⟩
          rcases asSl_VR hs hv with ⟨rfl, rfl⟩ | ⟨q, im, hq, hb, _, hle, rfl⟩ | ⟨q, im, a2, c2, hq, hb, hc, hle, rfl, h6⟩
          · simp [Builtin.cap_, T.run_u, T.isSlice h5]; rfl
          · simp [Builtin.cap_, T.run_u, T.isSlice h5]; rfl
          · omega
theorem aunsafeString_ok (hx : aunsafeString E t x y h = some (r, h1)) (hr : Rel P.cellsOf ρ h w) (hv : VR ρ x x') (hv2 : VR ρ y y') : h1.ob = h.ob ∧ Did P (Builtin.unsafeString_ (t :: ts).toArray ty #[x', y']) ρ h w r h1 := by
  unfold aunsafeString at hx
  cases hn : asNat y with
  | none => simp [hn] at hx
  | some n =>
    obtain ⟨kk, rfl, rfl⟩ := asNat_VR hn hv2
    simp only [hn] at hx
    cases ht : E.ty.get t with
    | none => simp [ht] at hx
    | some ti =>
      obtain ⟨info, T⟩ := hE.at ht
      simp only [ht] at hx
      cases h4 : Nat.beq ti.kd 4 with
      | false => simp [h4] at hx
      | true =>
        simp only [h4] at hx
        cases hte : E.ty.get ti.el with
        | none => simp [hte] at hx
        | some ui =>
          obtain ⟨uinfo, U⟩ := hE.at hte
          simp only [hte] at hx
          cases hu : ui.u8 with
          | false => simp [hu] at hx
          | true =>
            simp only [hu, bq] at hx
            have hmax : IntKind.i64.max = 9223372036854775807 := rfl
            have hneg : ¬ ((n : Int) < 0) := by omega
            by_cases h0 : n = 0
            · simp only [h0, decide_true] at hx
              cases hnp : isNilP x with
              | false => simp [hnp] at hx
              | true =>
                simp [hnp] at hx
                obtain ⟨rfl, rfl⟩ := hx
                have hx0 : x = .pointer none := by cases x <;> simp [isNilP] at hnp; rename_i a; cases a <;> simp [isNilP] at hnp; rfl
                subst hx0
                cases hv
                subst h0
                exact ⟨rfl, Did.same hr (by unfold Builtin.unsafeString_; rw [unsafeString_arm]; simp [Go.asInt, Go.asIntOf, hmax]) (.string .empty)⟩
            · simp only [h0, decide_false] at hx
              cases hp : asPtr x with
              | none => simp [hp] at hx
              | some p =>
                obtain ⟨im, hb, rfl⟩ := asPtr_VR hp hv
                simp only [hp] at hx
                cases hob : h.obj p.b with
                | bytes l e fz kd =>
                  simp only [hob, bytesO, unsStr, bq, ble_eq] at hx
                  by_cases hk2 : kd = 2
                  · simp [hk2] at hx
                  · simp only [hk2, decide_false] at hx
                    by_cases hel : e = ti.el
                    · simp only [hel, decide_true] at hx
                      by_cases hle : n ≤ 1099511627776
                      · simp only [hle, decide_true] at hx
                        cases htk : tk n (drp p.off l) with
                        | none => simp [htk] at hx
                        | some q =>
                          simp only [htk] at hx
                          rw [fin_eq _ _ _ _ (forceL_eq _ _)] at hx
                          have hx' := Option.some.inj hx
                          obtain ⟨rfl, rfl⟩ := Prod.mk.inj hx'
                          have hd : h.obj p.b ≠ .dead := by rw [hob]; simp
                          have hlt := hr.lt hd
                          have hrow := hr.obj p.b im hb hlt
                          rw [hob] at hrow
                          obtain ⟨k1, k2, k3, k4⟩ := freeze_row (off := p.off) (k := n) hk2 h0 hrow
                          have htk2 : tk (SL.mk (some p) n 0).n (drp p.off l) = some q := htk
                          obtain ⟨q1, q2⟩ := bytesAt_run (w := w) htk2 hr hb (by rw [hob]; rfl)
                          have q1 : q.length = n := q1
                          subst hel
                          refine ⟨rfl, ρ, .string ⟨q.toArray⟩, _, ?_, ?_, .write hr hb hlt hd k2 k3 k4 k1⟩
                          · obtain ⟨cs', lo, hi, h1, h2, h3, h4', h5, h6⟩ := hrow
                            have hsh : w.shape? im.blk = some (ti.el, cs'.size) := by simp [World.shape?, h1]
                            have hone : P.cellsOf ti.el = 1 := by rw [U.cells]; exact u8_one U hu
                            have hoff : im.sh + p.off + n ≤ cs'.size := by
                              have hj : n - 1 < q.length := by omega
                              have := q2 (n - 1) hj
                              rw [Addr.add_lit] at this
                              simp only [World.cell?, h1] at this
                              have hlt := (Array.getElem?_eq_some_iff.1 (by simpa using this)).1
                              omega
                            have hlies : liesAt P P.depth ti.el (cs'.size / P.cellsOf ti.el) (im.sh + p.off) ti.el n = true := by
                              have := lies_row (P := P) (e := ti.el) (s := 1) hone (by omega) (cs'.size / P.cellsOf ti.el) (im.sh + p.off) n (by rw [hone]; simpa using hoff)
                              simpa using this
                            have hlb := Lib.run_loadBytes (P := P) w q ⟨im.blk, im.sh + p.off, none⟩ .empty (fun j x hj => by
                              have hj' := (List.getElem?_eq_some_iff.1 hj)
                              obtain ⟨hjl, rfl⟩ := hj'
                              exact q2 j hjl)
                            have h63 : ¬ ((9223372036854775807 : Int) < (n : Int)) := by omega
                            rw [q1] at hlb
                            unfold Builtin.unsafeString_; rw [unsafeString_arm]; simp [Go.asInt, Go.asIntOf, hmax, h63, hneg, h0, variablesAt, hsh, Go.elemOf, T.run_u, T.isPointer h4, hlies, hlb]
                          · exact .string _
                      · simp [hle] at hx
                    · simp [hel] at hx
                | dead => simp [hob, bytesO] at hx
                | cells l e fz kd => simp [hob, bytesO] at hx
                | map es c => simp [hob, bytesO] at hx
                | siter q c => simp [hob, bytesO] at hx
end
end Go.Proofs.YtkmbkejmfffafaaGreatDoor.Refl
namespace Go.Proofs.YtkmbkejmfffafaaGreatDoor.Refl
open Go
set_option linter.unusedVariables false
set_option linter.unusedSimpArgs false
def DidN (P : Program) (s : Sem Next) (ρ : Ren) (h : AH) (w : World) (r : Value) (h1 : AH) : Prop :=
  ∃ ρ' r' w', s.run P w = .ok (.value r') w' ∧ VR ρ' r r' ∧ Step P.cellsOf ρ h w ρ' h1 w'
section
variable {P : Program} {ty : TypeId} {cs : Array Bool} {ts : List TypeId} {args args' : List Value} {r : Value} {h h1 : AH} {ρ : Ren} {w : World} {E : Env}
theorem OB.of_eq (ho : h1.ob = h.ob) (hob : OB h1) : OB h := fun b hb => hob b (by rw [ho]; exact hb)
theorem DidN.of {s : Sem Value} (hd : Did P s ρ h w r h1) : DidN P (do pure (.value (← s))) ρ h w r h1 := by
  obtain ⟨ρ', r', w', k1, k2, k3⟩ := hd
  exact ⟨ρ', r', w', by simp [k1], k2, k3⟩
theorem LR.one {x : Value} (hl : LR ρ [x] args') : ∃ x', args' = [x'] ∧ VR ρ x x' := by
  cases hl with | cons hx hl => cases hl; exact ⟨_, rfl, hx⟩
theorem LR.two {x y : Value} (hl : LR ρ [x, y] args') : ∃ x' y', args' = [x', y'] ∧ VR ρ x x' ∧ VR ρ y y' := by
  cases hl with | cons hx hl => cases hl with | cons hy hl => cases hl; exact ⟨_, _, rfl, hx, hy⟩
theorem unit_some {o : Option AH} (hx : unit o = some (r, h1)) : o = some h1 ∧ r = .tuple ⟨[]⟩ := by
  cases o <;> simp [unit] at hx
  obtain ⟨rfl, rfl⟩ := hx
  exact ⟨rfl, rfl⟩
variable (hE : EnvT P E)
include hE
theorem one_some {f : Env → TypeId → Value → AH → AR} (hx : one f E ts args h = some (r, h1)) : ∃ t rest x, ts = t :: rest ∧ args = [x] ∧ f E t x h = some (r, h1) := by
  unfold one at hx
  cases ts with
  | nil => simp at hx
  | cons t rest =>
    match args, hx with
    | [x], hx => exact ⟨t, rest, x, rfl, rfl, hx⟩
theorem pair_some {f : Env → TypeId → Value → Value → AH → AR} (hx : pair f E ts args h = some (r, h1)) : ∃ t rest x y, ts = t :: rest ∧ args = [x, y] ∧ f E t x y h = some (r, h1) := by
  unfold pair at hx
  cases ts with
  | nil => simp at hx
  | cons t rest =>
    match args, hx with
    | [x, y], hx => exact ⟨t, rest, x, y, rfl, rfl, hx⟩
theorem builtinF_ok {b : Builtin} (hx : builtinF b E ts args h = some (r, h1)) (hob : OB h1) (hr : Rel P.cellsOf ρ h w) (hf : Fr ρ h.n h1.n) (hl : LR ρ args args') :
    OB h ∧ DidN P (Go.builtin b ts.toArray ty cs args'.toArray) ρ h w r h1 := by
  have keep : ∀ {s : Sem Value}, h1.ob = h.ob ∧ Did P s ρ h w r h1 → OB h ∧ DidN P (do pure (.value (← s))) ρ h w r h1 := fun ⟨k1, k2⟩ => ⟨hob.of_eq k1, .of k2⟩
  cases b with
  | append =>
    have hx : bfAppend E ts args h = some (r, h1) := hx
    unfold bfAppend at hx
    match ts, hx with
    | t :: xt :: rest, hx =>
      simp only at hx
      cases hxt : E.ty.get xt with
      | none => simp [hxt] at hx
      | some xi =>
        obtain ⟨xinfo, X⟩ := hE.at hxt
        have go : pair aappend E (t :: xt :: rest) args h = some (r, h1) → (descOf P xinfo = .string ∨ ∃ q, descOf P xinfo = .slice q) → OB h ∧ DidN P (Go.builtin .append (t :: xt :: rest).toArray ty cs args'.toArray) ρ h w r h1 := by
          intro hp hd
          obtain ⟨t2, rest2, s, x, h2, rfl, h3⟩ := pair_some hE hp
          cases h2
          obtain ⟨s', x', rfl, hs, hxx⟩ := hl.two
          obtain ⟨k1, k2⟩ := aappend_ok hE (ts := rest) (ty := ty) X.hu hd h3 hob hr hf hs hxx
          exact ⟨k1, .of k2⟩
        simp only [hxt] at hx
        cases h5 : Nat.beq xi.kd 5 with
        | true => simp only [h5] at hx; exact go hx (.inr ⟨_, X.isSlice h5⟩)
        | false =>
          simp only [h5] at hx
          cases h3 : Nat.beq xi.kd 3 with
          | true => simp only [h3] at hx; exact go hx (.inl (X.isString h3))
          | false => simp [h3] at hx
  | copy =>
    obtain ⟨t, rest, s, x, rfl, rfl, h3⟩ := pair_some hE (f := acopy) hx
    obtain ⟨s', x', rfl, hs, hxx⟩ := hl.two
    exact keep (acopy_ok hE h3 hr hs hxx)
  | len =>
    obtain ⟨t, rest, x, rfl, rfl, h3⟩ := one_some hE (f := alen) hx
    obtain ⟨x', rfl, hxx⟩ := hl.one
    exact keep (alen_ok hE h3 hr hxx)
  | cap =>
    obtain ⟨t, rest, x, rfl, rfl, h3⟩ := one_some hE (f := acap) hx
    obtain ⟨x', rfl, hxx⟩ := hl.one
    exact keep (acap_ok hE h3 hr hxx)
  | delete =>
    obtain ⟨t, rest, x, k, rfl, rfl, h3⟩ := pair_some hE (f := fun E t m k h => unit (adelete E t m k h)) hx
    obtain ⟨x', k', rfl, hxx, hkk⟩ := hl.two
    obtain ⟨h4, rfl⟩ := unit_some h3
    obtain ⟨w', k1, k2, k3⟩ := adelete_ok hE (ts := (t :: rest).toArray) (ty := ty) (t := t) (by simp) h4 hr hxx hkk
    exact keep ⟨k3, ρ, .tuple #[], w', k1, .tuple .nil, k2⟩
  | unsafeString =>
    obtain ⟨t, rest, s, x, rfl, rfl, h3⟩ := pair_some hE (f := aunsafeString) hx
    obtain ⟨s', x', rfl, hs, hxx⟩ := hl.two
    exact keep (aunsafeString_ok hE h3 hr hs hxx)
  | unsafeSliceData =>
    have hx : bfData E ts args h = some (r, h1) := hx
    unfold bfData at hx
    match args, hx, hl with
    | [x], hx, hl =>
      obtain ⟨x', rfl, hxx⟩ := hl.one
      exact keep (asliceData_ok (ts := ts) (ty := ty) hx hr hxx)
  | max =>
    have hx : bfMax E ts args h = some (r, h1) := hx
    unfold bfMax at hx
    match args, hx, hl with
    | [x, y], hx, hl =>
      obtain ⟨x', y', rfl, hxx, hyy⟩ := hl.two
      have := mm_ok (P := P) (w := w) (g := Builtin.max2) (fun a b => by simp [Builtin.max2, maxI]) (fun _ _ => .int _ _) hx hr hxx hyy
      exact keep (s := Builtin.max_ ts.toArray ty [x', y'].toArray) ⟨this.1, by simpa [Builtin.max_] using this.2⟩
  | min =>
    have hx : bfMin E ts args h = some (r, h1) := hx
    unfold bfMin at hx
    match args, hx, hl with
    | [x, y], hx, hl =>
      obtain ⟨x', y', rfl, hxx, hyy⟩ := hl.two
      have := mm_ok (P := P) (w := w) (g := Builtin.min2) (fun a b => by simp [Builtin.min2, minI]) (fun _ _ => .int _ _) hx hr hxx hyy
      exact keep (s := Builtin.min_ ts.toArray ty [x', y'].toArray) ⟨this.1, by simpa [Builtin.min_] using this.2⟩
  | _ => simp [builtinF, bfNone] at hx
end
end Go.Proofs.YtkmbkejmfffafaaGreatDoor.Refl
