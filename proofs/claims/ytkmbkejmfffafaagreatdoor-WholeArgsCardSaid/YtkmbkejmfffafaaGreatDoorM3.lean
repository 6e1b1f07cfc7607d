/- The second reading of the model's code, part 3 of 13. -/
import Derived.Test.YtkmbkejmfffafaaGreatDoorM2
import Derived.MapKept
set_option linter.unusedSectionVars false
set_option linter.unusedVariables false
set_option linter.unusedSimpArgs false
/- The second reading against the model: maps. -/
namespace Go.Proofs.YtkmbkejmfffafaaGreatDoor.Refl
open Go
set_option linter.unusedVariables false
set_option linter.unusedSimpArgs false

section
variable {P : Program} {t : TypeId} {a a' k k' r : Value} {h h1 : AH} {ρ : Ren} {w : World} {E : Env}
theorem keyable_run {ti : TI} {info : TypeInfo} (T : TA P t ti info) (hk : keyable ti.kd k = true) (hv : VR ρ k k') (e : Bool) (n : Nat) :
    k' = k ∧ (Instr.checkKey e (n + 1) t k').run P w = .ok () w := by
  unfold keyable at hk
  cases h3 : Nat.beq ti.kd 3 with
  | true =>
    simp only [h3] at hk
    cases hs : asStr k with
    | none => simp [hs] at hk
    | some l =>
      obtain ⟨s, rfl, rfl, _⟩ := asStr_VR hs hv
      exact ⟨rfl, by unfold Instr.checkKey; simp [T.run_u, T.isString h3]⟩
  | false =>
    simp only [h3] at hk
    cases h2 : Nat.beq ti.kd 2 with
    | false => simp [h2] at hk
    | true =>
      simp only [h2] at hk
      cases hi : asInt k with
      | none => simp [hi] at hk
      | some i =>
        obtain ⟨rfl, rfl⟩ := asInt_VR hi hv
        exact ⟨rfl, by unfold Instr.checkKey; simp [T.run_u, T.isInt h2]⟩
theorem keyEq_ok {ti : TI} {info : TypeInfo} (T : TA P t ti info) {x x' : Value} {b : Bool} (hx : keyEq ti.kd k x = some b) (hk : VR ρ k k') (hv : VR ρ x x') :
    Instr.sameNow (descOf P info) k' x' = some b ∧ (b = true → x' = k' ∧ ∀ n, Instr.sameBits n x' k' = true) := by
  unfold keyEq at hx
  cases h3 : Nat.beq ti.kd 3 with
  | true =>
    simp only [h3] at hx
    cases hs : asStr k with
    | none => simp [hs] at hx
    | some l =>
      obtain ⟨s, rfl, rfl, rfl⟩ := asStr_VR hs hk
      simp only [hs] at hx
      cases hs2 : asStr x with
      | none => simp [hs2] at hx
      | some l2 =>
        obtain ⟨u, rfl, rfl, rfl⟩ := asStr_VR hs2 hv
        simp [hs2, bytesEq_eq] at hx
        have hb : (s == u) = b := by
          rw [← hx]
          by_cases e : s = u
          · subst e; simp [MapKept.bytes_beq]
          · have e2 : ¬ s.data.toList = u.data.toList := fun q => e (ByteArray.ext (Array.toList_inj.1 q))
            have e3 : (s == u) = false := by cases hq : (s == u) with
              | false => rfl
              | true => exact absurd ((MapKept.bytes_beq s u).1 hq) e
            have e4 : ¬ s.data = u.data := fun q => e (ByteArray.ext q)
            rw [e3]; simp [e4]
        refine ⟨by rw [T.isString h3]; simp [Instr.sameNow, hb], fun hbt => ?_⟩
        rw [hbt] at hb
        have := (MapKept.bytes_beq s u).1 hb
        subst this
        exact ⟨rfl, fun n => by cases n <;> simp [Instr.sameBits, hb]⟩
  | false =>
    simp only [h3] at hx
    cases h2 : Nat.beq ti.kd 2 with
    | false => simp [h2] at hx
    | true =>
      simp only [h2] at hx
      cases hi : asInt k with
      | none => simp [hi] at hx
      | some i =>
        obtain ⟨rfl, rfl⟩ := asInt_VR hi hk
        simp only [hi] at hx
        cases hj : asInt x with
        | none => simp [hj] at hx
        | some j =>
          obtain ⟨rfl, rfl⟩ := asInt_VR hj hv
          simp only [hj] at hx
          cases hke : kEq i.k j.k with
          | false => simp [hke] at hx
          | true =>
            have hkk := kEq_true hke
            simp [hke, iEq_eq] at hx
            refine ⟨by rw [T.isInt h2]; simp [Instr.sameNow, hkk, ← hx]; rfl, fun hbt => ?_⟩
            rw [hbt] at hx
            have hn : i.n = j.n := by simpa using hx
            exact ⟨by rw [hkk, hn], fun n => by cases n <;> simp [Instr.sameBits, hkk, hn]⟩
theorem MR.length {l l' : List MapEntry} (h : MR ρ l l') : l.length = l'.length := by
  induction h with
  | nil => rfl
  | cons _ _ ih => simp [ih]
theorem findK_ok {ti : TI} {info : TypeInfo} (T : TA P t ti info) (hk : VR ρ k k') : ∀ (es es' : List MapEntry), MR ρ es es' → ∀ (i : Nat) (o : Option FE), findK ti.kd k es i = some o →
    (o = none ∧ Instr.findNow (descOf P info) k' es' i = some none) ∨
    ∃ (f : FE) (e' : MapEntry) (j : Nat), o = some f ∧ f.i = i + j ∧ es[j]? = some f.e ∧ es'[j]? = some e' ∧ MER ρ f.e e' ∧ Instr.findNow (descOf P info) k' es' i = some (some (f.i, e'.val)) ∧ e'.key = k' ∧ ∀ n, Instr.sameBits n e'.key k' = true := by
  intro es es' hm
  induction hm with
  | nil => intro i o ho; simp [findK] at ho; exact .inl ⟨ho.symm, rfl⟩
  | @cons e e' l l' he hl ih =>
    intro i o ho
    have ho' : (match keyEq ti.kd k e.key with
      | none => none
      | some b => match b with
        | true => some (some ⟨i, e⟩)
        | false => findK ti.kd k l (i + 1)) = some o := ho
    cases hq : keyEq ti.kd k e.key with
    | none => simp [hq] at ho'
    | some b =>
      obtain ⟨h2, h3⟩ := keyEq_ok T hq hk he.key
      simp only [hq] at ho'
      cases b with
      | true =>
        simp at ho'
        subst ho'
        obtain ⟨h4, h5⟩ := h3 rfl
        exact .inr ⟨⟨i, e⟩, e', 0, rfl, rfl, rfl, rfl, he, by simp [Instr.findNow, h2], h4, h5⟩
      | false =>
        simp only at ho'
        rcases ih (i + 1) o ho' with ⟨h4, h5⟩ | ⟨f, e2, j, h4, h5, h6, h7, h8, h9, h10⟩
        · exact .inl ⟨h4, by simp [Instr.findNow, h2, h5]⟩
        · exact .inr ⟨f, e2, j + 1, h4, by omega, by simpa using h6, by simpa using h7, h8, by simp [Instr.findNow, h2, h9], h10⟩
theorem findKey_run {ti : TI} {info : TypeInfo} (T : TA P t ti info) {es : List MapEntry} {o : Option (Nat × Value)} (hx : Instr.findNow (descOf P info) k es 0 = some o) : (Instr.findKey t k es).run P w = .ok o w := by
  simp [Instr.findKey, T.run_u, hx]
theorem keyStays_run (hx : ∀ n, Instr.sameBits n a k = true) : (Instr.keyThatStays a k).run P w = .ok k w := by
  simp [Instr.keyThatStays, hx]
theorem MR.get {l l' : List MapEntry} (h : MR ρ l l') {i : Nat} {e : MapEntry} (hi : l[i]? = some e) : ∃ e', l'[i]? = some e' ∧ MER ρ e e' := by
  induction h generalizing i with
  | nil => simp at hi
  | cons h hl ih =>
    cases i with
    | zero => simp at hi; subst hi; exact ⟨_, rfl, h⟩
    | succ i => simpa using ih (by simpa using hi)
theorem MR.set {l l' : List MapEntry} (h : MR ρ l l') {i : Nat} {e e' : MapEntry} {f : MapEntry → MapEntry} (he : ∀ x', l'[i]? = some x' → MER ρ e (f x')) : MR ρ (setL l i e) (l'.modify i f) := by
  induction h generalizing i with
  | nil => cases i <;> simpa [setL] using MR.nil
  | @cons x x' l l' h hl ih =>
    cases i with
    | zero =>
      show MR ρ (e :: l) _
      simpa using MR.cons (he x' rfl) hl
    | succ i => simpa [setL] using MR.cons h (ih (i := i) fun y hy => he y (by simpa using hy))
theorem MR.erase {l l' : List MapEntry} (h : MR ρ l l') (i : Nat) : MR ρ (eraL l i) (l'.eraseIdx i) := by
  induction h generalizing i with
  | nil => cases i <;> simpa [eraL] using MR.nil
  | @cons x x' l l' h hl ih =>
    cases i with
    | zero =>
      show MR ρ l _
      simpa using hl
    | succ i => simpa [eraL] using MR.cons h (ih i)
theorem MR.push {l l' : List MapEntry} (h : MR ρ l l') {e e' : MapEntry} (he : MER ρ e e') : MR ρ (app l [e]) (l' ++ [e']) := by
  induction h with
  | nil => exact .cons he .nil
  | cons h hl ih => exact .cons h ih
/-- The map that a block is. -/
theorem Rel.map (r : Rel P.cellsOf ρ h w) {b : Nat} {im : Im} {m : MP} (hb : ρ b = some im) (hm : mapOf (h.obj b) = some m) :
    b < h.n ∧ h.obj b ≠ .dead ∧ ∃ es', w.heap[im.blk]? = some (.map es' m.clock) ∧ MR ρ m.es es'.toList := by
  cases ho : h.obj b with
  | map es c =>
    rw [ho] at hm
    simp [mapOf] at hm
    subst hm
    have hd : h.obj b ≠ .dead := by rw [ho]; simp
    have := r.obj b im hb (r.lt hd)
    rw [ho] at this
    obtain ⟨es', h1, h2⟩ := this
    exact ⟨r.lt hd, by simp, es', h1, h2⟩
  | _ => rw [ho] at hm; simp [mapOf] at hm
/-- A map is written over. -/
theorem Step.map (hr : Rel P.cellsOf ρ h w) {b : Nat} {im : Im} {o : Obj} (hb : ρ b = some im) (hn : b < h.n) (hd : h.obj b ≠ .dead) (ho : w.heap[im.blk]? = some o) {es : List MapEntry} {es' : Array MapEntry} {c : Nat} (hm : MR ρ es es'.toList) :
    Step P.cellsOf ρ h w ρ (h.write b (.map es c)) { w with heap := w.heap.setIfInBounds im.blk (.map es' c) } := by
  have hlt := (Array.getElem?_eq_some_iff.1 ho).1
  obtain ⟨h1, h2⟩ := set_obj w im.blk (.map es' c) hlt
  exact .write hr hb hn hd (by simp) h2 ⟨rfl, rfl, rfl⟩ ⟨es', h1, hm⟩

variable (hE : EnvT P E)
include hE
/-- What is found where a map may be written. -/
theorem mapKey_ok {q : MK} (hx : mapKey E t a k h = some q) (hr : Rel P.cellsOf ρ h w) (ha : VR ρ a a') (hk : VR ρ k k') :
    ∃ (ti ki : TI) (info kinfo : TypeInfo) (im : Im) (es' : Array MapEntry), TA P t ti info ∧ TA P ti.ky ki kinfo ∧ descOf P info = .map ti.ky ti.el ∧ q.el = ti.el ∧ ρ q.b = some im ∧ a' = .map (some im.blk) ∧
      q.b < h.n ∧ h.obj q.b ≠ .dead ∧ w.heap[im.blk]? = some (.map es' q.m.clock) ∧ MR ρ q.m.es es'.toList ∧ (∀ e n, (Instr.checkKey e (n + 1) ti.ky k').run P w = .ok () w) ∧
      ((q.f = none ∧ (Instr.findKey ti.ky k' es'.toList).run P w = .ok none w) ∨
       ∃ (f : FE) (e' : MapEntry), q.f = some f ∧ q.m.es[f.i]? = some f.e ∧ es'[f.i]? = some e' ∧ MER ρ f.e e' ∧ (Instr.findKey ti.ky k' es'.toList).run P w = .ok (some (f.i, e'.val)) w ∧ e'.key = k' ∧ (Instr.keyThatStays e'.key k').run P w = .ok k' w) := by
  unfold mapKey at hx
  cases hm : asMap a with
  | none => simp [hm] at hx
  | some o =>
    rcases asMap_VR hm ha with ⟨rfl, rfl⟩ | ⟨b, im, rfl, hb, rfl⟩
    · simp [hm] at hx
    · simp only [hm] at hx
      cases ht : E.ty.get t with
      | none => simp [ht] at hx
      | some ti =>
        obtain ⟨info, T⟩ := hE.at ht
        simp only [ht] at hx
        cases h7 : Nat.beq ti.kd 7 with
        | false => simp [h7] at hx
        | true =>
          simp only [h7] at hx
          cases hky : E.ty.get ti.ky with
          | none => simp [hky] at hx
          | some ki =>
            obtain ⟨kinfo, K⟩ := hE.at hky
            simp only [hky] at hx
            cases hkb : keyable ki.kd k with
            | false => simp [hkb] at hx
            | true =>
              simp only [hkb] at hx
              cases hmo : mapOf (h.obj b) with
              | none => simp [hmo] at hx
              | some m =>
                simp only [hmo] at hx
                cases hf : findK ki.kd k m.es 0 with
                | none => simp [hf] at hx
                | some o =>
                  simp [hf] at hx
                  subst hx
                  obtain ⟨g1, g2, es', g3, g4⟩ := hr.map hb hmo
                  refine ⟨ti, ki, info, kinfo, im, es', T, K, T.isMap h7, rfl, hb, rfl, g1, g2, g3, g4, fun e n => (keyable_run K hkb hk e n).2, ?_⟩
                  rcases findK_ok K hk m.es es'.toList g4 0 o hf with ⟨rfl, h5⟩ | ⟨f, e', j, rfl, h5, h6, h7, h8, h9, h10, h11⟩
                  · exact .inl ⟨rfl, findKey_run K h5⟩
                  · have : f.i = j := by omega
                    subst this
                    exact .inr ⟨f, e', rfl, h6, by simpa using h7, h8, findKey_run K h9, h10, keyStays_run h11⟩
theorem amapUpdate_ok {v v' : Value} (hx : amapUpdate E t a k v h = some h1) (hr : Rel P.cellsOf ρ h w) (ha : VR ρ a a') (hk : VR ρ k k') (hv : VR ρ v v') :
    ∃ w', (Instr.mapUpdate t a' k' v').run P w = .ok () w' ∧ Step P.cellsOf ρ h w ρ h1 w' ∧ h1.ob = h.ob := by
  unfold amapUpdate at hx
  cases hq : mapKey E t a k h with
  | none => simp [hq] at hx
  | some q =>
    obtain ⟨ti, ki, info, kinfo, im, es', T, K, hmd, hel, hb, rfl, g1, g2, g3, g4, g5, g6⟩ := mapKey_ok hE hq hr ha hk
    simp [hq] at hx
    subst hx
    have hck := g5 false 9999
    rcases g6 with ⟨hf, h2⟩ | ⟨f, e', hf, h2, h3, h4, h5, h6, h7⟩
    · have hob : (mapPut h q k v) = h.write q.b (.map (app q.m.es [⟨k, v, q.m.clock⟩]) (q.m.clock + 1)) := by simp [mapPut, hf]
      rw [hob]
      refine ⟨_, ?_, Step.map hr hb g1 g2 g3 (es' := es'.push ⟨k', v', q.m.clock⟩) ?_, rfl⟩
      · simp [Instr.mapUpdate, T.run_u, hmd, MapKept.run_getObj_map g3, hck, h2, MapKept.run_setObj_map _ g3]
      · rw [Array.toList_push]; exact g4.push ⟨hk, hv, rfl⟩
    · have hob : (mapPut h q k v) = h.write q.b (.map (setL q.m.es f.i ⟨k, v, f.e.born⟩) q.m.clock) := by simp [mapPut, hf]
      rw [hob]
      refine ⟨_, ?_, Step.map hr hb g1 g2 g3 (es' := es'.modify f.i fun e => { e with key := k', val := v' }) ?_, rfl⟩
      · simp [Instr.mapUpdate, T.run_u, hmd, MapKept.run_getObj_map g3, hck, h5, h3, h7, MapKept.run_setObj_map _ g3]
      · rw [Array.toList_modify]
        refine g4.set (e' := e') fun x' hx' => ?_
        rw [Array.getElem?_toList, h3] at hx'
        cases hx'
        exact ⟨hk, hv, h4.born⟩
theorem amapEntry_ok (hx : amapEntry E t a k h = some (r, h1)) (hr : Rel P.cellsOf ρ h w) (ha : VR ρ a a') (hk : VR ρ k k') : h1.ob = h.ob ∧ Did P (Instr.mapEntry t a' k') ρ h w r h1 := by
  unfold amapEntry at hx
  cases hq : mapKey E t a k h with
  | none => simp [hq] at hx
  | some q =>
    obtain ⟨ti, ki, info, kinfo, im, es', T, K, hmd, hel, hb, rfl, g1, g2, g3, g4, g5, g6⟩ := mapKey_ok hE hq hr ha hk
    simp only [hq] at hx
    have hck := g5 false 9999
    rcases g6 with ⟨hf, h2⟩ | ⟨f, e', hf, h2, h3, h4, h5, h6, h7⟩
    · simp only [hf, hel] at hx
      cases hte : E.ty.get ti.el with
      | none => simp [hte] at hx
      | some ei =>
        obtain ⟨einfo, TE⟩ := hE.at hte
        simp only [hte] at hx
        cases hz : ei.zero with
        | none => simp [hz] at hx
        | some z =>
          simp [hz] at hx
          obtain ⟨rfl, rfl⟩ := hx
          have hzv := flat_VR ρ 5 z (TE.flat hz)
          refine ⟨rfl, ρ, .tuple #[z, goInt q.m.clock], _, ?_, ?_, Step.map hr hb g1 g2 g3 (es' := es'.push ⟨k', z, q.m.clock⟩) ?_⟩
          · simp [Instr.mapEntry, T.run_u, hmd, MapKept.run_getObj_map g3, hck, h2, TE.run_zero _ hz, MapKept.run_setObj_map _ g3]
          · exact .tuple (.cons hzv (.cons (.int _ _) .nil))
          · rw [Array.toList_push]; exact g4.push ⟨hk, hzv, rfl⟩
    · simp [hf] at hx
      obtain ⟨rfl, rfl⟩ := hx
      refine ⟨rfl, ρ, .tuple #[e'.val, goInt e'.born], _, ?_, ?_, Step.map hr hb g1 g2 g3 (es' := es'.modify f.i fun e => { e with key := k' }) ?_⟩
      · simp [Instr.mapEntry, T.run_u, hmd, MapKept.run_getObj_map g3, hck, h5, h3, h7, MapKept.run_setObj_map _ g3]
      · rw [h4.born]; exact .tuple (.cons h4.val (.cons (.int _ _) .nil))
      · rw [Array.toList_modify]
        refine g4.set (e' := e') fun x' hx' => ?_
        rw [Array.getElem?_toList, h3] at hx'
        cases hx'
        exact ⟨hk, h4.val, h4.born⟩
theorem adelete_ok {ts : Array TypeId} {ty : TypeId} (ht : ts[0]? = some t) (hx : adelete E t a k h = some h1) (hr : Rel P.cellsOf ρ h w) (ha : VR ρ a a') (hk : VR ρ k k') :
    ∃ w', (Builtin.delete_ ts ty #[a', k']).run P w = .ok (.tuple #[]) w' ∧ Step P.cellsOf ρ h w ρ h1 w' ∧ h1.ob = h.ob := by
  unfold adelete at hx
  cases hq : mapKey E t a k h with
  | none => simp [hq] at hx
  | some q =>
    obtain ⟨ti, ki, info, kinfo, im, es', T, K, hmd, hel, hb, rfl, g1, g2, g3, g4, g5, g6⟩ := mapKey_ok hE hq hr ha hk
    simp only [hq] at hx
    have hck := g5 es'.isEmpty 9999
    rcases g6 with ⟨hf, h2⟩ | ⟨f, e', hf, h2, h3, h4, h5, h6, h7⟩
    · simp [hf] at hx
      subst hx
      refine ⟨_, ?_, Step.map hr hb g1 g2 g3 (es' := es') g4, rfl⟩
      simp [Builtin.delete_, ht, T.run_u, hmd, MapKept.run_getObj_map g3, hck, h2, MapKept.run_setObj_map _ g3]
    · simp [hf] at hx
      subst hx
      refine ⟨_, ?_, Step.map hr hb g1 g2 g3 (es' := es'.eraseIdxIfInBounds f.i) ?_, rfl⟩
      · simp [Builtin.delete_, ht, T.run_u, hmd, MapKept.run_getObj_map g3, hck, h5, MapKept.run_setObj_map _ g3]
      · have hlt : f.i < es'.size := (Array.getElem?_eq_some_iff.1 h3).1
        rw [Array.eraseIdxIfInBounds, dif_pos hlt, Array.toList_eraseIdx]
        exact g4.erase f.i
theorem alookup_ok {ok : Bool} (hx : alookup E t a k ok h = some (r, h1)) (hr : Rel P.cellsOf ρ h w) (ha : VR ρ a a') (hk : VR ρ k k') : h1 = h ∧ Did P (Instr.lookup t a' k' ok) ρ h w r h1 := by
  unfold alookup at hx
  cases hm : asMap a with
  | none => simp [hm] at hx
  | some o =>
    simp only [hm] at hx
    cases ht : E.ty.get t with
    | none => simp [ht] at hx
    | some ti =>
      obtain ⟨info, T⟩ := hE.at ht
      simp only [ht] at hx
      cases h7 : Nat.beq ti.kd 7 with
      | false => simp [h7] at hx
      | true =>
        simp only [h7] at hx
        cases hky : E.ty.get ti.ky with
        | none => simp [hky] at hx
        | some ki =>
          obtain ⟨kinfo, K⟩ := hE.at hky
          simp only [hky] at hx
          cases hkb : keyable ki.kd k with
          | false => simp [hkb] at hx
          | true =>
            simp only [hkb] at hx
            have inner : ∀ (es : List MapEntry) (es' : Array MapEntry), MR ρ es es'.toList → lookIn E ti ki k ok h es = some (r, h1) → h1 = h ∧ ∃ v v' b, r = (if ok then .tuple ⟨[v, .bool b]⟩ else v) ∧ VR ρ v v' ∧
                ((∃ i, b = true ∧ (Instr.findKey ti.ky k' es'.toList).run P w = .ok (some (i, v')) w) ∨ (b = false ∧ (Instr.findKey ti.ky k' es'.toList).run P w = .ok none w ∧ (zeroValue ti.el).run P w = .ok v' w)) := by
              intro es es' hmr hl
              unfold lookIn at hl
              cases hf : findK ki.kd k es 0 with
              | none => simp [hf] at hl
              | some o =>
                simp only [hf] at hl
                rcases findK_ok K hk es es'.toList hmr 0 o hf with ⟨rfl, h5⟩ | ⟨f, e', j, rfl, h5, h6, h7, h8, h9, h10, h11⟩
                · cases hte : E.ty.get ti.el with
                  | none => simp [hte] at hl
                  | some ei =>
                    obtain ⟨einfo, TE⟩ := hE.at hte
                    simp only [hte] at hl
                    cases hz : ei.zero with
                    | none => simp [hz] at hl
                    | some z =>
                      simp only [hz, lookRet] at hl
                      have hzv := flat_VR ρ 5 z (TE.flat hz)
                      have hfk := findKey_run (w := w) K h5
                      cases ok <;> simp at hl <;> obtain ⟨rfl, rfl⟩ := hl <;> exact ⟨rfl, z, z, false, rfl, hzv, .inr ⟨rfl, hfk, TE.run_zero _ hz⟩⟩
                · simp only [lookRet] at hl
                  have hfk := findKey_run (w := w) K h9
                  cases ok <;> simp at hl <;> obtain ⟨rfl, rfl⟩ := hl <;> exact ⟨rfl, f.e.val, e'.val, true, rfl, h8.val, .inl ⟨_, rfl, hfk⟩⟩
            have hck := fun e => (keyable_run (w := w) K hkb hk e 9999).2
            have ret : ∀ {v v' : Value} {b : Bool}, VR ρ v v' → VR ρ (if ok then .tuple ⟨[v, .bool b]⟩ else v) (if ok then .tuple #[v', .bool b] else v') := by
              intro v v' b hv
              cases ok with
              | true => exact .tuple (.cons hv (.cons (.bool b) .nil))
              | false => exact hv
            cases o with
            | none =>
              simp only at hx
              rcases asMap_VR hm ha with ⟨_, rfl⟩ | ⟨b, im, hbb, _, _⟩
              · obtain ⟨rfl, v, v', b, rfl, hvv, hrun⟩ := inner [] #[] .nil hx
                refine ⟨rfl, Did.same hr ?_ (ret hvv)⟩
                rcases hrun with ⟨i, rfl, h5⟩ | ⟨rfl, h5, h6⟩
                · simp [Instr.lookup, T.run_u, T.isMap h7, hck, h5]
                · have h5 : (Instr.findKey ti.ky k' []).run P w = .ok none w := h5
                  simp [Instr.lookup, T.run_u, T.isMap h7, hck, h5, h6]
              · cases hbb
            | some b =>
              simp only at hx
              rcases asMap_VR hm ha with ⟨hbb, _⟩ | ⟨b, im, hbb, hb, rfl⟩
              · cases hbb
              · cases hbb
                cases hmo : mapOf (h.obj b) with
                | none => simp [hmo] at hx
                | some m =>
                  simp only [hmo] at hx
                  obtain ⟨_, _, es', g3, g4⟩ := hr.map hb hmo
                  obtain ⟨rfl, v, v', b, rfl, hvv, hrun⟩ := inner m.es es' g4 hx
                  refine ⟨rfl, Did.same hr ?_ (ret hvv)⟩
                  rcases hrun with ⟨i, rfl, h5⟩ | ⟨rfl, h5, h6⟩
                  · simp [Instr.lookup, T.run_u, T.isMap h7, MapKept.run_getObj_map g3, hck, h5]
                  · simp [Instr.lookup, T.run_u, T.isMap h7, MapKept.run_getObj_map g3, hck, h5, h6]
omit hE
theorem findB_ok {born : Nat} : ∀ (es es' : List MapEntry), MR ρ es es' → ∀ (i : Nat) (f : FE), findB born es i = some f → ∃ j e', f.i = i + j ∧ es[j]? = some f.e ∧ es'[j]? = some e' ∧ MER ρ f.e e' ∧ es'.findIdx? (fun e => (e.born : Int) == (born : Int)) = some j := by
  intro es es' hm
  induction hm with
  | nil => intro i f hf; simp [findB] at hf
  | @cons e e' l l' he hl ih =>
    intro i f hf
    have hf' : (match Nat.beq e.born born with | true => some ⟨i, e⟩ | false => findB born l (i + 1)) = some f := hf
    rw [bq] at hf'
    by_cases hb : e.born = born
    · simp [hb] at hf'
      subst hf'
      exact ⟨0, e', rfl, rfl, rfl, he, by simp [List.findIdx?_cons, he.born, hb]⟩
    · simp [hb] at hf'
      obtain ⟨j, e2, h1, h2, h3, h4, h5⟩ := ih (i + 1) f hf'
      refine ⟨j + 1, e2, by omega, by simpa using h2, by simpa using h3, h4, ?_⟩
      have : ¬ ((e'.born : Int) = (born : Int)) := by rw [he.born]; omega
      simp [List.findIdx?_cons, this, h5]
theorem aentryStore_ok {ty : TypeId} {v v' : Value} (hx : aentryStore a k v h = some h1) (hr : Rel P.cellsOf ρ h w) (ha : VR ρ a a') (hk : VR ρ k k') (hv : VR ρ v v') :
    ∃ w', (Instr.entryStore ty a' k' v').run P w = .ok () w' ∧ Step P.cellsOf ρ h w ρ h1 w' ∧ h1.ob = h.ob := by
  unfold aentryStore at hx
  cases hm : asMap a with
  | none => simp [hm] at hx
  | some o =>
    rcases asMap_VR hm ha with ⟨rfl, rfl⟩ | ⟨b, im, rfl, hb, rfl⟩
    · simp [hm] at hx
    · simp only [hm] at hx
      cases hn : asNat k with
      | none => simp [hn] at hx
      | some n =>
        obtain ⟨kk, rfl, rfl⟩ := asNat_VR hn hk
        simp only [hn] at hx
        cases hmo : mapOf (h.obj b) with
        | none => simp [hmo] at hx
        | some m =>
          simp only [hmo] at hx
          obtain ⟨g1, g2, es', g3, g4⟩ := hr.map hb hmo
          cases hf : findB n m.es 0 with
          | none => simp [hf] at hx
          | some f =>
            simp [hf] at hx
            subst hx
            obtain ⟨j, e', h2, h3, h4, h5, h6⟩ := findB_ok m.es es'.toList g4 0 f hf
            have hj : f.i = j := by omega
            subst hj
            have h6' : es'.findIdx? (fun e => (e.born : Int) == (n : Int)) = some f.i := by rw [← h6]; exact (List.findIdx?_toArray (p := fun e : MapEntry => (e.born : Int) == (n : Int)) es'.toList)
            refine ⟨_, ?_, Step.map hr hb g1 g2 g3 (es' := es'.modify f.i fun e => { e with val := v' }) ?_, rfl⟩
            · simp [Instr.entryStore, MapKept.run_getObj_map g3, Go.asInt, Go.asIntOf, h6', MapKept.run_setObj_map _ g3]
            · rw [Array.toList_modify]
              refine g4.set (e' := e') fun x' hx' => ?_
              rw [h4] at hx'
              cases hx'
              exact ⟨h5.key, hv, h5.born⟩
end
end Go.Proofs.YtkmbkejmfffafaaGreatDoor.Refl
/- The second reading against the model: append, copy. -/
namespace Go.Proofs.YtkmbkejmfffafaaGreatDoor.Refl
open Go
set_option linter.unusedVariables false
set_option linter.unusedSimpArgs false

section
variable {P : Program} {t : TypeId} {a a' x x' r : Value} {h h1 : AH} {ρ : Ren} {w : World} {E : Env} {n m : Nat}
theorem u8vs_eq : ∀ (l : List UInt8), u8vs l = l.map u8v
  | [] => rfl
  | b :: l => by
    show u8v b :: u8vs l = _
    rw [u8vs_eq l]; rfl
theorem srcLen_run (hx : srcLen x = some m) (hv : VR ρ x x') : (Builtin.lenOf x').run P w = .ok m w ∧ ((∃ s, x' = .string s) ∨ ∃ b n c, x' = .slice b n c) := by
  unfold srcLen at hx
  cases hs : asStr x with
  | some l =>
    obtain ⟨s, rfl, rfl, rfl⟩ := asStr_VR hs hv
    simp [hs, len_eq] at hx
    exact ⟨by simp [Builtin.lenOf, ← hx], .inl ⟨s, rfl⟩⟩
  | none =>
    simp only [hs] at hx
    cases hl : asSl x with
    | none => simp [hl] at hx
    | some s =>
      simp [hl] at hx
      rcases asSl_VR hl hv with ⟨rfl, rfl⟩ | ⟨p, im, _, _, _, _, rfl⟩ | ⟨p, im, a2, c2, _, _, _, _, rfl, _⟩
      · exact ⟨by simp [Builtin.lenOf, ← hx], .inr ⟨_, _, _, rfl⟩⟩
      · exact ⟨by simp [Builtin.lenOf, ← hx], .inr ⟨_, _, _, rfl⟩⟩
      · exact ⟨by simp [Builtin.lenOf, ← hx], .inr ⟨_, _, _, rfl⟩⟩
theorem loadCells_zero (b : Addr) : (loadCells b 0).run P w = .ok #[] w := by simp [loadCells, loadCellsFrom]
theorem first_zero {size : Nat} (hx : srcLen x = some n) (hv : VR ρ x x') (h0 : m * size = 0) (hm : size = 0 → m = 0) : (Builtin.firstCells size m x').run P w = .ok #[] w := by
  have hm0 : m = 0 := by
    rcases Nat.mul_eq_zero.1 h0 with h | h
    · exact h
    · exact hm h
  subst hm0
  rcases (srcLen_run (P := P) (w := w) hx hv).2 with ⟨s, rfl⟩ | ⟨b, n, c, rfl⟩
  · have : s.extract 0 0 = .empty := by apply ByteArray.ext; simp
    simp [Builtin.firstCells, this]
  · cases b with
    | none => simp [Builtin.firstCells]
    | some b => simp [Builtin.firstCells, loadCells_zero]
theorem srcLen_sl {s : SL} (hl : srcLen x = some n) (hs : asSl x = some s) : n = s.n := by
  unfold srcLen at hl
  cases x <;> simp [asSl] at hs
  simp [asStr, asSl, hs] at hl
  exact hl.symm
theorem srcBytes_ok {bs : List UInt8} (hl : srcLen x = some n) (hmn : m ≤ n) (hx : srcBytes x m h = some bs) (hr : Rel P.cellsOf ρ h w) (hv : VR ρ x x') :
    bs.length = m ∧ ∃ cells : Array Value, (Builtin.firstCells 1 m x').run P w = .ok cells w ∧ cells.toList = bs.map u8v := by
  unfold srcBytes at hx
  rw [bq] at hx
  by_cases h0 : m = 0
  · simp [h0] at hx
    subst hx; subst h0
    exact ⟨rfl, #[], first_zero hl hv (by omega) (by omega), rfl⟩
  · simp only [h0, decide_false] at hx
    cases hs : asStr x with
    | some l =>
      obtain ⟨s, rfl, rfl, rfl⟩ := asStr_VR hs hv
      simp only [hs] at hx
      obtain ⟨rfl, h2⟩ := tk_some _ _ _ hx
      refine ⟨by rw [List.length_take]; omega, ((s.extract 0 m).data.map fun b => .int .u8 (b.toNat : Int)), by simp [Builtin.firstCells], ?_⟩
      simp [ByteArray.data_extract]
      rfl
    | none =>
      simp only [hs] at hx
      cases hsl : asSl x with
      | none => simp [hsl] at hx
      | some s =>
        simp only [hsl] at hx
        cases hp : s.a with
        | none => simp [hp] at hx
        | some p =>
          simp only [hp] at hx
          cases hb : bytesOf (h.obj p.b) with
          | none => simp [hb] at hx
          | some l =>
            simp only [hb] at hx
            have key : ∀ (im : Im), ρ p.b = some im → bs.length = m ∧ ∃ cells : Array Value, (loadCells ⟨im.blk, im.sh + p.off, none⟩ (m * 1)).run P w = .ok cells w ∧ cells.toList = bs.map u8v := by
              intro im hi
              have hx2 : tk (SL.mk s.a m 0).n (drp p.off l) = some bs := hx
              obtain ⟨k1, k2⟩ := bytesAt_run hx2 hr hi hb
              have k1 : bs.length = m := k1
              refine ⟨k1, (bs.map u8v).toArray, ?_, by simp⟩
              have := run_loadCells_list (P := P) w ⟨im.blk, im.sh + p.off, none⟩ (bs.map u8v) (fun j v hj => by
                have hj' : j < bs.length := by simpa using (List.getElem?_eq_some_iff.1 hj).1
                rw [k2 j hj']
                simp [List.getElem?_eq_getElem hj'] at hj
                rw [← hj]; rfl)
              rw [List.length_map, k1] at this
              rw [Nat.mul_one]; exact this
            rcases asSl_VR hsl hv with ⟨rfl, rfl⟩ | ⟨p2, im, h2, hi, _, _, rfl⟩ | ⟨p2, im, a2, c2, h2, hi, _, _, rfl, h3⟩
            · simp at hp
            · rw [hp] at h2; cases h2
              obtain ⟨k1, cells, k2, k3⟩ := key im hi
              exact ⟨k1, cells, k2, k3⟩
            · rw [hp] at h2; cases h2
              rcases h3 with ⟨rfl, _⟩ | ⟨h4, _⟩
              · obtain ⟨k1, cells, k2, k3⟩ := key im hi
                exact ⟨k1, cells, k2, k3⟩
              · have := srcLen_sl hl hsl; omega
theorem srcCells_ok {cs : List Value} {size : Nat} (hsz : size ≠ 0) (hl : srcLen x = some n) (hmn : m ≤ n) (hx : srcCells x (m * size) h = some cs) (hr : Rel P.cellsOf ρ h w) (hv : VR ρ x x') :
    cs.length = m * size ∧ (∀ v ∈ cs, scalar v = true) ∧ ∃ cells : Array Value, (Builtin.firstCells size m x').run P w = .ok cells w ∧ LR ρ cs cells.toList := by
  unfold srcCells at hx
  rw [bq] at hx
  by_cases h0 : m * size = 0
  · simp [h0] at hx
    subst hx
    exact ⟨h0.symm, fun v hv => by simp at hv, #[], first_zero hl hv h0 (fun e => absurd e hsz), .nil⟩
  · simp only [h0, decide_false] at hx
    cases hsl : asSl x with
    | none => simp [hsl] at hx
    | some s =>
      simp only [hsl] at hx
      cases hp : s.a with
      | none => simp [hp] at hx
      | some p =>
        simp only [hp] at hx
        cases hb : cellsOf (h.obj p.b) with
        | none => simp [hb] at hx
        | some l =>
          simp only [hb] at hx
          have key : ∀ (im : Im), ρ p.b = some im → cs.length = m * size ∧ (∀ v ∈ cs, scalar v = true) ∧ ∃ cells : Array Value, (loadCells ⟨im.blk, im.sh + p.off, none⟩ (m * size)).run P w = .ok cells w ∧ LR ρ cs cells.toList := by
            intro im hi
            obtain ⟨k1, k2⟩ := tkdrp hx
            have hcell : ∀ (j : Nat) (v : Value), cs[j]? = some v → (h.obj p.b).cell (p.off + j) = some v := fun j v hj => by
              have hj' : j < m * size := by rw [← k1]; exact (List.getElem?_eq_some_iff.1 hj).1
              rw [cellsOf_cell hb, ← k2 j hj']; exact hj
            obtain ⟨l', k3, k4⟩ := hr.row hi cs p.off hcell
            have := run_loadCells_list (P := P) w ⟨im.blk, im.sh + p.off, none⟩ l' k4
            rw [← k3.length, k1] at this
            refine ⟨k1, fun v hv => ?_, l'.toArray, this, by simpa using k3⟩
            obtain ⟨j, hj⟩ := List.mem_iff_getElem?.1 hv
            obtain ⟨_, _, _, h5⟩ := hr.cell hi (hcell j v hj)
            exact h5
          rcases asSl_VR hsl hv with ⟨rfl, rfl⟩ | ⟨p2, im, h2, hi, _, _, rfl⟩ | ⟨p2, im, a2, c2, h2, hi, _, _, rfl, h3⟩
          · simp at hp
          · rw [hp] at h2; cases h2
            exact key im hi
          · rw [hp] at h2; cases h2
            rcases h3 with ⟨rfl, _⟩ | ⟨h4, _⟩
            · exact key im hi
            · have := srcLen_sl hl hsl
              have hm0 : m = 0 := by omega
              rw [hm0] at h0; simp at h0
theorem scalar_map (bs : List UInt8) : ∀ v ∈ bs.map u8v, scalar v = true := fun v hv => by
  obtain ⟨b, _, rfl⟩ := List.mem_map.1 hv; rfl
theorem LR.u8s (bs : List UInt8) : LR ρ (bs.map u8v) (bs.map u8v) := by
  induction bs with
  | nil => exact .nil
  | cons b bs ih => exact .cons (.int _ _) ih
theorem srcVals_ok {ei : TI} {e : TypeId} {einfo : TypeInfo} (TE : TA P e ei einfo) {cs : List Value} (hl : srcLen x = some n) (hmn : m ≤ n) (hx : srcVals ei x m h = some cs) (hr : Rel P.cellsOf ρ h w) (hv : VR ρ x x') :
    ei.size ≠ 0 ∧ cs.length = m * ei.size ∧ (∀ v ∈ cs, scalar v = true) ∧ ∃ cells : Array Value, (Builtin.firstCells ei.size m x').run P w = .ok cells w ∧ LR ρ cs cells.toList := by
  unfold srcVals at hx
  cases hu : ei.u8 with
  | true =>
    have h1 := u8_one TE hu
    simp only [hu] at hx
    cases hb : srcBytes x m h with
    | none => simp [hb, optMap] at hx
    | some bs =>
      simp [hb, optMap, u8vs_eq] at hx
      obtain ⟨k1, cells, k2, k3⟩ := srcBytes_ok hl hmn hb hr hv
      subst hx
      rw [h1]
      exact ⟨by omega, by simp [k1], scalar_map bs, cells, k2, by rw [k3]; exact LR.u8s bs⟩
  | false =>
    simp only [hu, bq] at hx
    by_cases h0 : ei.size = 0
    · simp [h0] at hx
    · simp only [h0, decide_false] at hx
      obtain ⟨k1, k2, k3⟩ := srcCells_ok h0 hl hmn hx hr hv
      exact ⟨h0, k1, k2, k3⟩
/-- What a joined row is. -/
theorem joinObj_some {ei : TI} {e : TypeId} {s : Value} {fz kd : Nat} {o : AObj} (hx : joinObj ei e s x n m fz kd h = some o) :
    ∃ A B, srcVals ei s n h = some A ∧ srcVals ei x m h = some B ∧ (∀ i, o.cell i = (A ++ B)[i]?) ∧ (∀ S ρ w im, kd ≠ 0 → (∃ q, RowR S ρ w im o e fz kd q) → OR S ρ w im o) := by
  have hn : ∀ {S ρ w im o e fz kd a b}, kd ≠ 0 → RowR S ρ w im o e fz kd a → RowR S ρ w im o e fz kd b := by
    intro S ρ w im o e fz kd a b hk hq
    obtain ⟨cs', lo, hi, h1, h2, h3, h4, h5, _⟩ := hq
    exact ⟨cs', lo, hi, h1, h2, h3, h4, h5, fun h => absurd h hk⟩
  unfold joinObj at hx
  unfold srcVals
  cases hu : ei.u8 with
  | true =>
    simp only [hu] at hx
    cases ha : srcBytes s n h with
    | none => simp [ha] at hx
    | some a =>
      simp only [ha] at hx
      cases hb : srcBytes x m h with
      | none => simp [hb] at hx
      | some b =>
        simp [hb] at hx
        subst hx
        refine ⟨a.map u8v, b.map u8v, by simp [optMap, u8vs_eq], by simp [optMap, u8vs_eq], fun i => ?_, fun S ρ w im hk ⟨q, hq⟩ => hn hk hq⟩
        rw [bytesOf_cell (l := app a b) rfl, app_eq, ← List.map_append, List.getElem?_map]
  | false =>
    simp only [hu, bq] at hx ⊢
    by_cases h0 : ei.size = 0
    · simp [h0] at hx
    · simp only [h0, decide_false] at hx ⊢
      rw [show Nat.mul n ei.size = n * ei.size from rfl, show Nat.mul m ei.size = m * ei.size from rfl] at hx ⊢
      cases ha : srcCells s (n * ei.size) h with
      | none => simp [ha] at hx
      | some a =>
        simp only [ha] at hx
        cases hb : srcCells x (m * ei.size) h with
        | none => simp [hb] at hx
        | some b =>
          simp [hb] at hx
          subst hx
          refine ⟨a, b, rfl, rfl, fun i => ?_, fun S ρ w im hk ⟨q, hq⟩ => hn hk hq⟩
          rw [cellsOf_cell (cs := app a b) rfl, app_eq]
/- The model's append. -/
section model
variable {ts : List TypeId} {xt ty e : TypeId} {base : Option Addr} {c size : Nat} {old new : Array Value} {xd : TypeDesc} {ei : TypeInfo} {z : Value}
theorem append_in (hs : P.underlying t = some (.slice e)) (hsz : (sizeOf e).run P w = .ok size w) (hxd : P.underlying xt = some xd) (hni : xd = .string ∨ ∃ q, xd = .slice q) (hlen : (Builtin.lenOf x').run P w = .ok m w)
    (hnew : (Builtin.firstCells size m x').run P w = .ok new w) (hle : n + m ≤ c) :
    (Builtin.append_ (t :: xt :: ts).toArray ty #[.slice base n c, x']).run P w =
      ((match base with | some a => storeCells (a.add (n * size)) new.toList | none => pure () : Sem Unit).run P w).andThen fun _ w' => .ok (.slice base (n + m) c) w' := by
  rcases hni with rfl | ⟨q, rfl⟩ <;> (cases base <;> simp [Builtin.append_, run_underlying hs, run_underlying hxd, hsz, hlen, hnew, hle])
theorem append_new (hs : P.underlying t = some (.slice e)) (hsz : (sizeOf e).run P w = .ok size w) (hxd : P.underlying xt = some xd) (hni : xd = .string ∨ ∃ q, xd = .slice q) (hlen : (Builtin.lenOf x').run P w = .ok m w)
    (hi : (typeInfo e).run P w = .ok ei w) (hb : ei.bytes ≤ 256) (hnm : n + m ≤ 4294967296)
    (hlt : c < n + m)
    (hold' : (Builtin.firstCells size n (.slice base n c)).run P w.drew = .ok old w.drew) (hz' : (zeroValue e).run P w.drew = .ok z w.drew)
    (hnew' : (Builtin.firstCells size m x').run P w.drew = .ok new w.drew) (hi' : (typeInfo e).run P w.drew = .ok ei w.drew) :
    (Builtin.append_ (t :: xt :: ts).toArray ty #[.slice base n c, x']).run P w =
      .ok (.slice (some ⟨w.heap.size, 0, none⟩) (n + m) (grownCap w (n + m) c e)) (w.drew.alloc (.cells (old ++ new ++ Builtin.zeroCells z.cells (grownCap w (n + m) c e - (n + m))) e)) := by
  have h1 : ¬ (n + m ≤ c) := by omega
  have h2 : ¬ ((9223372036854775807 : Int) < (n : Int) + (m : Int)) := by omega
  have h3 : ¬ (281474976710656 < Builtin.nextslicecap (n + m) c * ei.bytes) := by
    have h4 := growslice_fits (bytes := ei.bytes) hlt (by
      have : (n + m) * ei.bytes ≤ 4294967296 * 256 := Nat.mul_le_mul hnm hb
      omega)
    omega
  have hdr : ({ heap := w.heap, tape := w.tape, drawn := w.drawn + 1, os := w.os, output := w.output } : World) = w.drew := rfl
  rcases hni with rfl | ⟨q, rfl⟩ <;> (cases base <;> simp [Builtin.append_, run_underlying hs, run_underlying hxd, hsz, hlen, h1, h2, h3, hi, hi', hold', hz', hnew', Question.forced, newRow, grownCap])
end model
end
end Go.Proofs.YtkmbkejmfffafaaGreatDoor.Refl
/- The second reading against the model: append. -/
namespace Go.Proofs.YtkmbkejmfffafaaGreatDoor.Refl
open Go
set_option linter.unusedVariables false
set_option linter.unusedSimpArgs false

section
variable {P : Program} {t : TypeId} {s s' x x' r : Value} {h h1 h2 : AH} {ρ : Ren} {w : World} {E : Env} {n m : Nat}
theorem Did.pre {q : Sem Value} (ht : h2.t = h.t) (hn : h2.n = h.n) (hl : h2.log = h.log) (hr : Rel P.cellsOf ρ h w) (hf : Fr ρ h.n h1.n) (hd : Did P q ρ h2 w r h1) : Did P q ρ h w r h1 := by
  obtain ⟨ρ', r', w', k1, k2, k3⟩ := hd
  exact ⟨ρ', r', w', k1, k2, Step.trans hf (.same hr ht hn hl rfl (Str.refl _)) k3⟩
theorem srcLen_of {sl : SL} (hs : asSl s = some sl) : srcLen s = some sl.n := by
  unfold srcLen
  cases s <;> simp [asSl] at hs
  simp [asStr, asSl, hs]
theorem srcVals_cell {ei : TI} {e : TypeId} {einfo : TypeInfo} (TE : TA P e ei einfo) {sl : SL} {p : PA} {A : List Value} (hs : asSl s = some sl) (hp : sl.a = some p) (hx : srcVals ei s n h = some A) :
    ∀ (i : Nat) (v : Value), A[i]? = some v → (h.obj p.b).cell (p.off + i) = some v := by
  intro i v hi
  have hstr : asStr s = none := by cases s <;> simp [asSl] at hs <;> rfl
  unfold srcVals at hx
  cases hu : ei.u8 with
  | true =>
    simp only [hu] at hx
    cases hb : srcBytes s n h with
    | none => simp [hb, optMap] at hx
    | some bs =>
      simp [hb, optMap, u8vs_eq] at hx
      subst hx
      unfold srcBytes at hb
      rw [bq] at hb
      by_cases h0 : n = 0
      · simp [h0] at hb; subst hb; simp at hi
      · simp only [h0, decide_false, hstr, hs, hp] at hb
        cases hl : bytesOf (h.obj p.b) with
        | none => simp [hl] at hb
        | some l =>
          simp only [hl] at hb
          obtain ⟨k1, k2⟩ := tkdrp hb
          rw [List.getElem?_map] at hi
          cases hj : bs[i]? with
          | none => rw [hj] at hi; simp at hi
          | some b =>
            have hlt : i < n := by rw [← k1]; exact (List.getElem?_eq_some_iff.1 hj).1
            rw [bytesOf_cell hl, ← k2 i hlt]; exact hi
  | false =>
    simp only [hu, bq] at hx
    by_cases h0 : ei.size = 0
    · simp [h0] at hx
    · simp only [h0, decide_false] at hx
      unfold srcCells at hx
      rw [bq] at hx
      by_cases h00 : Nat.mul n ei.size = 0
      · simp only [h00, decide_true] at hx; simp at hx; subst hx; simp at hi
      · simp only [h00, decide_false, hs, hp] at hx
        cases hl : cellsOf (h.obj p.b) with
        | none => simp [hl] at hx
        | some l =>
          simp only [hl] at hx
          obtain ⟨k1, k2⟩ := tkdrp hx
          have hlt : i < Nat.mul n ei.size := by rw [← k1]; exact (List.getElem?_eq_some_iff.1 hi).1
          rw [cellsOf_cell hl, ← k2 i hlt]; exact hi
/-- The row of a block that holds elements. -/
theorem Rel.rowOf (r : Rel P.cellsOf ρ h w) {b e : Nat} {im : Im} (hb : ρ b = some im) (he : isElem e (h.obj b) = true) :
    b < h.n ∧ h.obj b ≠ .dead ∧ ∃ kd n, (kd = 2 ↔ marks (h.obj b) = 2) ∧ RowR P.cellsOf ρ w im (h.obj b) e (fzOf (h.obj b)) kd n := by
  unfold isElem at he
  cases ho : h.obj b with
  | cells cs e2 fz kd =>
    rw [ho] at he
    simp [elemOf, bq] at he
    subst he
    have hd : h.obj b ≠ .dead := by rw [ho]; simp
    have := r.obj b im hb (r.lt hd)
    rw [ho] at this
    exact ⟨r.lt hd, by simp, kd, _, by simp [marks, bq]; by_cases hk : kd = 2 <;> simp [hk], this⟩
  | bytes cs e2 fz kd =>
    rw [ho] at he
    simp [elemOf, bq] at he
    subst he
    have hd : h.obj b ≠ .dead := by rw [ho]; simp
    have := r.obj b im hb (r.lt hd)
    rw [ho] at this
    exact ⟨r.lt hd, by simp, kd, _, by simp [marks, bq]; by_cases hk : kd = 2 <;> simp [hk], this⟩
  | dead => rw [ho] at he; simp [elemOf] at he
  | map es c => rw [ho] at he; simp [elemOf] at he
  | siter q c => rw [ho] at he; simp [elemOf] at he
theorem marks_ne (o : AObj) : marks o ≠ 0 := by
  cases o <;> simp [marks, bq] <;> (rename_i kd; by_cases hk : kd = 2 <;> simp [hk])
theorem size_zeroCells (z : Array Value) (n : Nat) : (Builtin.zeroCells z n).size = n * z.size := by simp [Builtin.zeroCells]
/-- A new row, joined, behind whatever dies. -/
theorem join_alloc {e : TypeId} {o : AObj} {A B : List Value} {old new rest : Array Value} {fz kd : Nat} {w1 : World} (hw1 : w1.heap = w.heap) (hs1 : Str w w1) (hr : Rel P.cellsOf ρ h w) (h0 : ρ h.n = none) (hc : ∀ i, o.cell i = (A ++ B)[i]?)
    (ho : ∀ S ρ w im, kd ≠ 0 → (∃ q, RowR S ρ w im o e fz kd q) → OR S ρ w im o) (hkd : kd ≠ 0) (hA : LR ρ A old.toList) (hB : LR ρ B new.toList) (sA : ∀ v ∈ A, scalar v = true) (sB : ∀ v ∈ B, scalar v = true) :
    Step P.cellsOf ρ h w (upd ρ h.n ⟨w.heap.size, 0, (old ++ new ++ rest).size, P.cellsOf e⟩) (h.alloc o) (w1.alloc (.cells (old ++ new ++ rest) e)) := by
  refine .alloc (x := .cells (old ++ new ++ rest) e) hr h0 (by show (w1.heap.push _) = _; rw [hw1]) ⟨hs1.os, hs1.tape, hs1.output⟩ rfl ?_
  refine ho _ _ _ _ hkd ⟨0, old ++ new ++ rest, 0, 0, ?_, fun i v hi => ?_, fz_new _ _ _, Nat.le_refl _, rfl, fun h => absurd h hkd⟩
  · show (w1.heap.push _)[w.heap.size]? = _
    rw [hw1]; simp
  · rw [hc] at hi
    have hsc : scalar v = true := by
      rcases List.mem_append.1 (List.mem_of_getElem? hi) with hm | hm
      · exact sA v hm
      · exact sB v hm
    obtain ⟨v', h3, h4⟩ := (hA.append hB).get hi
    refine ⟨hsc, v', ?_, h4.mono (Ext.upd h0)⟩
    have hlt : i < (old.toList ++ new.toList).length := (List.getElem?_eq_some_iff.1 h3).1
    rw [Nat.zero_add, Array.getElem?_append_left (by simpa using hlt), ← Array.getElem?_toList, Array.toList_append]
    exact h3
/-- A row goes on in place. -/
theorem join_moved {e b off : Nat} {o2 : AObj} {im : Im} {A B : List Value} {new : Array Value} {fz kd q : Nat} (hr : Rel P.cellsOf ρ h w) (h0 : ρ h.n = none) (hb : ρ b = some im) (hlt : b < h.n) (hd : h.obj b ≠ .dead)
    (hrow : RowR P.cellsOf ρ w im (h.obj b) e fz kd q) (hA : ∀ (i : Nat) (v : Value), A[i]? = some v → (h.obj b).cell (off + i) = some v) (hc : ∀ i, o2.cell i = (A ++ B)[i]?) {kd2 : Nat} (hk0 : kd2 ≠ 0) (hk2 : kd2 ≠ 2 → kd ≠ 2)
    (ho : ∀ S ρ w im, kd2 ≠ 0 → (∃ q, RowR S ρ w im o2 e (fz - off) kd2 q) → OR S ρ w im o2) (hB : LR ρ B new.toList) (sB : ∀ v ∈ B, scalar v = true) (hfz : fz ≤ off + A.length)
    (hlim : im.sh + off + (A.length + B.length) ≤ im.lim) :
    (storeCells ⟨im.blk, im.sh + off + A.length, none⟩ new.toList).run P w = .ok () (w.setCells im.blk (im.sh + off + A.length) new.toList) ∧
    Step P.cellsOf ρ h w (upd ρ h.n ⟨im.blk, im.sh + off, im.lim, im.es⟩) ((h.write b .dead).alloc o2) (w.setCells im.blk (im.sh + off + A.length) new.toList) := by
  obtain ⟨cs', lo, hi, h1, h2, h3, h4, h5, h6⟩ := hrow
  have hBl : B.length = new.toList.length := hB.length
  have hex : ∀ j, j < new.toList.length → ∃ u, cs'[im.sh + off + A.length + j]? = some u := fun j hj => ⟨_, Array.getElem?_eq_getElem (by omega)⟩
  have hrun := run_storeCells_cells (P := P) im.blk (im.sh + off + A.length) new.toList 0 w
    (fun j hj => by obtain ⟨u, hu⟩ := hex j hj; simp [World.cell?, h1, hu])
    (fun j hj => by
      have hlt : im.sh + off + A.length + j < cs'.size := by omega
      have hfr := h3.1 (im.sh + off + A.length + j) hlt
      simp only [World.frozen?, h1, Bool.and_eq_false_iff, decide_eq_false_iff_not]
      by_cases ha : lo ≤ im.sh + off + A.length + j
      · by_cases hb : im.sh + off + A.length + j < hi
        · have := hfr ha hb; omega
        · exact .inr (by simpa using hb)
      · exact .inl (by simpa using ha))
    (fun v' hv' => by
      obtain ⟨j, hj⟩ := List.mem_iff_getElem?.1 hv'
      have hjl : j < B.length := by rw [hBl]; exact (List.getElem?_eq_some_iff.1 hj).1
      obtain ⟨u', h7, h8⟩ := hB.get (List.getElem?_eq_getElem hjl)
      rw [hj] at h7; cases h7
      exact scalar_oneCell (scalar_VR h8 (sB _ (List.getElem_mem hjl))))
  simp only [Nat.add_zero] at hrun
  obtain ⟨cs2, k1, k2, k3, k4, k5, k6⟩ := heap_setCells im.blk new.toList (im.sh + off + A.length) w cs' e (lo, hi) h1
  refine ⟨hrun, .moved (im' := ⟨im.blk, im.sh + off, im.lim, im.es⟩) hr hb hlt hd h0 k4 k5 k6 rfl (ho _ _ _ _ hk0 ⟨0, cs2, lo, hi, k1, fun i v hi' => ?_, ?_, by rw [k2]; exact h4, h5, fun h => absurd h hk0⟩)⟩
  · rw [hc] at hi'
    by_cases hia : i < A.length
    · rw [List.getElem?_append_left hia] at hi'
      obtain ⟨g1, v', g2, g3⟩ := h2 _ v (hA i v hi')
      refine ⟨g1, v', ?_, g3.mono (Ext.upd h0)⟩
      show cs2[im.sh + off + i]? = some v'
      rw [k3, if_neg (by omega), Nat.add_assoc]; exact g2
    · rw [List.getElem?_append_right (by omega)] at hi'
      obtain ⟨v', g2, g3⟩ := hB.get hi'
      refine ⟨sB v (List.mem_of_getElem? hi'), v', ?_, g3.mono (Ext.upd h0)⟩
      have hlt2 : i - A.length < new.toList.length := (List.getElem?_eq_some_iff.1 g2).1
      show cs2[im.sh + off + i]? = some v'
      rw [k3, if_pos (by omega), show im.sh + off + i - (im.sh + off + A.length) = i - A.length by omega]
      exact g2
  · rw [k2]
    refine ⟨fun j q1 q2 q3 => ?_, fun q1 => ?_⟩
    · have := h3.1 j q1 q2 q3
      show j < im.sh + off + (fz - off)
      omega
    · show lo = hi ∨ hi ≤ im.sh + off + (fz - off)
      rcases h3.2 (hk2 q1) with h | h
      · exact .inl h
      · right; omega
end
end Go.Proofs.YtkmbkejmfffafaaGreatDoor.Refl
/- The second reading against the model: append, copy, and the other builtins. -/
namespace Go.Proofs.YtkmbkejmfffafaaGreatDoor.Refl
open Go
set_option linter.unusedVariables false
set_option linter.unusedSimpArgs false

section
variable {P : Program} {t xt ty : TypeId} {ts : List TypeId} {s s' x x' r : Value} {h h1 h2 : AH} {ρ : Ren} {w : World} {E : Env} {n m : Nat}
theorem storeCells_nil (a : Addr) : (storeCells a []).run P w = .ok () w := by simp [storeCells]
theorem drewStr (w : World) : Str w w.drew := ⟨rfl, rfl, rfl⟩
theorem drew_rel (hr : Rel P.cellsOf ρ h w) : Rel P.cellsOf ρ h w.drew := hr.congr rfl rfl rfl
/-- A joined row, in new memory. -/
theorem app_grow {e : TypeId} {ei : TI} {einfo : TypeInfo} {o : AObj} {fz kd c' : Nat} {base : Option Addr} {xd : TypeDesc} {z : Value} (hs : P.underlying t = some (.slice e)) (TE : TA P e ei einfo) (hz : ei.zero = some z)
    (hxd : P.underlying xt = some xd) (hni : xd = .string ∨ ∃ q, xd = .slice q) (hby : ei.bytes ≤ 256) (hnm : n + m ≤ 4294967296) (hm : m ≠ 0)
    (hlS : srcLen s = some n) (hlX : srcLen x = some m) (hvS : VR ρ s (.slice base n c')) (hvX : VR ρ x x') (hr : Rel P.cellsOf ρ h w) (hlt : c' < n + m)
    {hq : AH} (hrq : Rel P.cellsOf ρ hq w) (hnq : hq.n = h.n) (h0 : ρ h.n = none)
    (hx : joinObj ei e s x n m fz kd h = some o) (hkd : kd ≠ 0) :
    Did P (Builtin.append_ (t :: xt :: ts).toArray ty #[.slice base n c', x']) ρ hq w (slV h.n 0 (n + m) LOOSE) (hq.alloc o) := by
  obtain ⟨A, B, hA, hB, hc, ho⟩ := joinObj_some hx
  obtain ⟨g0, gl, gs, old, gold, gLR⟩ := srcVals_ok TE hlS (Nat.le_refl _) hA hr hvS
  obtain ⟨_, bl, bs, new, bnew, bLR⟩ := srcVals_ok TE hlX (Nat.le_refl _) hB hr hvX
  obtain ⟨_, _, _, old2, gold2, gLR2⟩ := srcVals_ok TE hlS (Nat.le_refl _) hA (drew_rel hr) hvS
  obtain ⟨_, _, _, new2, bnew2, bLR2⟩ := srcVals_ok TE hlX (Nat.le_refl _) hB (drew_rel hr) hvX
  have hlen := (srcLen_run (P := P) (w := w) hlX hvX).1
  have hrun := append_new (P := P) (w := w) (ts := ts) (ty := ty) hs (TE.run_size w) hxd hni hlen (TE.run_ti w) (by rw [← TE.bytes]; exact hby) hnm hlt gold2 (TE.run_zero w.drew hz) bnew2 (TE.run_ti w.drew)
  have hge := grownCap_ge w (n + m) c' e
  have hzs : z.cells.size = ei.size := by
    have hzv := vcells_VR (flat_VR ρ 5 z (TE.flat hz))
    rw [← Array.length_toList, ← hzv.length, TE.zlen hz]
  have hst := join_alloc (h := hq) (e := e) (rest := Builtin.zeroCells z.cells (grownCap w (n + m) c' e - (n + m))) (w := w) (w1 := w.drew) rfl (drewStr w) hrq (by rw [hnq]; exact h0) hc ho hkd gLR2 bLR2 gs bs
  refine ⟨_, _, _, hrun, ?_, hst⟩
  rw [hnq]
  refine .slLoose (im := ⟨w.heap.size, 0, _, P.cellsOf e⟩) rfl (upd_same _ _ _) hge (.inl ⟨⟨rfl, rfl, _, upd_same _ _ _, rfl, rfl⟩, ?_⟩)
  have e1 : old2.size = n * ei.size := by rw [← Array.length_toList, ← gLR2.length, gl]
  have e2 : new2.size = m * ei.size := by rw [← Array.length_toList, ← bLR2.length, bl]
  show 0 + grownCap w (n + m) c' e * P.cellsOf e ≤ (old2 ++ new2 ++ Builtin.zeroCells z.cells _).size
  rw [TE.cells, Array.size_append, Array.size_append, size_zeroCells, hzs, e1, e2, Nat.zero_add, ← Nat.add_mul, ← Nat.add_mul]
  exact Nat.mul_le_mul_right _ (by omega)
theorem storeAt_ob {b off : Nat} {vs : List Value} (hx : storeAt h b off vs = some h1) : h1.ob = h.ob := by
  unfold storeAt at hx
  cases ho : h.obj b <;> rw [ho] at hx <;> simp only [stCells, stBytes] at hx
  all_goals (repeat' split at hx)
  all_goals first | (cases hx; rfl) | (simp at hx; done)
theorem app2_ob {ei : TI} {e : TypeId} {sl : SL} (hx : app2 ei e s x sl m h = some (r, h1)) : h1.ob = h.ob := by
  unfold app2 appLoose appLoose1 appIn appNew retSl at hx
  repeat' split at hx
  all_goals first | (cases hx; rfl) | (simp at hx; done) | (cases hx; rename_i hst; exact storeAt_ob hst)
theorem app2_ok {e : TypeId} {ei : TI} {einfo : TypeInfo} {sl : SL} {xd : TypeDesc} {z : Value} (hs : P.underlying t = some (.slice e)) (TE : TA P e ei einfo) (hz : ei.zero = some z)
    (hxd : P.underlying xt = some xd) (hni : xd = .string ∨ ∃ q, xd = .slice q) (hby : ei.bytes ≤ 256) (hsl : asSl s = some sl) (hlX : srcLen x = some m) (hvS : VR ρ s s') (hvX : VR ρ x x')
    (hr : Rel P.cellsOf ρ h w) (hf : Fr ρ h.n h1.n) (hnm : sl.n + m ≤ 4294967296) (hx : app2 ei e s x sl m h = some (r, h1)) :
    h1.ob = h.ob ∧ Did P (Builtin.append_ (t :: xt :: ts).toArray ty #[s', x']) ρ h w r h1 := by
  have hlS := srcLen_of hsl
  have hlen := (srcLen_run (P := P) (w := w) hlX hvX).1
  unfold app2 at hx
  rw [bq] at hx
  by_cases h0 : m = 0
  · simp [h0] at hx
    obtain ⟨rfl, rfl⟩ := hx
    subst h0
    refine ⟨rfl, ?_⟩
    have hnew := first_zero (P := P) (w := w) (size := ei.size) (m := 0) hlX hvX (by omega) (by omega)
    have key : ∀ (base : Option Addr) (c' : Nat), s' = .slice base sl.n c' → sl.n ≤ c' → Did P (Builtin.append_ (t :: xt :: ts).toArray ty #[s', x']) ρ h w s h := by
      rintro base c' rfl hle
      refine Did.same hr ?_ hvS
      rw [append_in (n := sl.n) (m := 0) hs (TE.run_size w) hxd hni hlen hnew (by omega)]
      cases base <;> simp [storeCells_nil]
    rcases asSl_VR hsl hvS with ⟨rfl, rfl⟩ | ⟨p, im, _, _, _, hle, rfl⟩ | ⟨p, im, a2, c2, _, _, _, hle, rfl, _⟩
    · exact key none 0 rfl (Nat.le_refl _)
    · exact key _ _ rfl hle
    · exact key _ _ rfl hle
  · simp only [h0, decide_false, loose, ble_eq] at hx
    rcases asSl_VR hsl hvS with ⟨rfl, rfl⟩ | ⟨p, im, hp, hb, hcl, hle, rfl⟩ | ⟨p, im, a2, c2, hp, hb, hcl, hle, rfl, h3⟩
    · have hL : ¬ LOOSE ≤ 0 := by decide
      have hnle : ¬ (Nat.add 0 m ≤ 0) := by show ¬ (0 + m ≤ 0); omega
      simp only [hL, decide_false, hnle] at hx
      unfold appNew at hx
      cases hj : joinObj ei e s x 0 m 0 1 h with
      | none => simp [hj] at hx
      | some o =>
        simp [hj] at hx
        obtain ⟨rfl, rfl⟩ := hx
        have h00 : ρ h.n = none := hf h.n (Nat.le_refl _) (by rw [alloc_n]; omega)
        have hnm' : 0 + m ≤ 4294967296 := hnm
        exact ⟨rfl, by simpa using app_grow (n := 0) (m := m) hs TE hz hxd hni hby hnm' h0 hlS hlX hvS hvX hr (by omega) hr rfl h00 hj (by omega)⟩
    · have hL : ¬ LOOSE ≤ sl.c := by omega
      simp only [hL, decide_false] at hx
      by_cases hin : sl.n + m ≤ sl.c
      · have hin' : Nat.add sl.n m ≤ sl.c := hin
        simp only [hin', decide_true] at hx
        unfold appIn at hx
        simp only [hp] at hx
        cases hv : srcVals ei x m h with
        | none => simp [hv] at hx
        | some cs =>
          simp only [hv] at hx
          rw [show Nat.add p.off (Nat.mul sl.n ei.size) = p.off + sl.n * ei.size from rfl] at hx
          cases hst : storeAt h p.b (p.off + sl.n * ei.size) cs with
          | none => simp [hst, retSl] at hx
          | some h2 =>
            simp [hst, retSl] at hx
            obtain ⟨rfl, rfl⟩ := hx
            obtain ⟨_, bl, bs, new, bnew, bLR⟩ := srcVals_ok TE hlX (Nat.le_refl _) hv hr hvX
            obtain ⟨k1, k2, k3, _⟩ := storeAt_ok (P := P) hst hr hb bLR bs
            refine ⟨k3, ρ, .slice (some ⟨im.blk, im.sh + p.off, none⟩) (sl.n + m) sl.c, _, ?_, .slTight ⟨rfl, rfl, im, hb, rfl, rfl⟩ hcl hin, k2⟩
            rw [append_in (n := sl.n) (m := m) hs (TE.run_size w) hxd hni hlen bnew hin]
            have e1 : ((⟨im.blk, im.sh + p.off, none⟩ : Addr).add (sl.n * ei.size)) = ⟨im.blk, im.sh + (p.off + sl.n * ei.size), none⟩ := by
              rw [Addr.add_lit, Nat.add_assoc]
            simp only [e1, k1, Result.andThen_ok]
      · have hin' : ¬ Nat.add sl.n m ≤ sl.c := hin
        simp only [hin', decide_false] at hx
        unfold appNew at hx
        cases hj : joinObj ei e s x sl.n m 0 1 h with
        | none => simp [hj] at hx
        | some o =>
          simp [hj] at hx
          obtain ⟨rfl, rfl⟩ := hx
          have h00 : ρ h.n = none := hf h.n (Nat.le_refl _) (by rw [alloc_n]; omega)
          exact ⟨rfl, app_grow hs TE hz hxd hni hby hnm h0 hlS hlX hvS hvX hr (by omega) hr rfl h00 hj (by omega)⟩
    · have hL : LOOSE ≤ sl.c := by omega
      simp only [hL, decide_true] at hx
      unfold appLoose at hx
      simp only [hp] at hx
      cases hel : isElem e (h.obj p.b) with
      | false => simp [hel] at hx
      | true =>
        simp only [hel, appLoose1, ble_eq] at hx
        by_cases hfz : fzOf (h.obj p.b) ≤ Nat.add p.off (Nat.mul sl.n ei.size)
        · simp only [hfz, decide_true] at hx
          rw [show Nat.sub (fzOf (h.obj p.b)) p.off = fzOf (h.obj p.b) - p.off from rfl] at hx
          cases hj : joinObj ei e s x sl.n m (fzOf (h.obj p.b) - p.off) (marks (h.obj p.b)) h with
          | none => simp [hj] at hx
          | some o =>
            simp [hj] at hx
            obtain ⟨rfl, rfl⟩ := hx
            have h00 : ρ h.n = none := hf h.n (Nat.le_refl _) (by rw [alloc_n, write_n]; omega)
            obtain ⟨hlt, hd, kd, q, hkd, hrow⟩ := hr.rowOf hb hel
            refine ⟨rfl, ?_⟩
            by_cases hin : sl.n + m ≤ c2
            · rcases h3 with ⟨rfl, hlim⟩ | ⟨h4, h5⟩
              · obtain ⟨A, B, hA, hB, hc, ho⟩ := joinObj_some hj
                obtain ⟨_, al, as_, old, aold, aLR⟩ := srcVals_ok TE hlS (Nat.le_refl _) hA hr hvS
                obtain ⟨_, bl, bs, new, bnew, bLR⟩ := srcVals_ok TE hlX (Nat.le_refl _) hB hr hvX
                have hes : im.es = ei.size := by
                  obtain ⟨cs', lo, hi, g1, g2, g3, g4, g5, g6⟩ := hrow
                  rw [g5, TE.cells]
                obtain ⟨k1, k2⟩ := join_moved hr h00 hb hlt hd hrow (srcVals_cell TE hsl hp hA) hc (marks_ne _) (fun g1 g2 => g1 (hkd.1 g2)) ho bLR bs (by rw [al]; exact hfz) (by
                  rw [al, bl, ← Nat.add_mul]
                  have : (sl.n + m) * ei.size ≤ c2 * ei.size := Nat.mul_le_mul_right _ hin
                  rw [hes] at hlim
                  omega)
                refine ⟨_, .slice (some ⟨im.blk, im.sh + p.off, none⟩) (sl.n + m) c2, _, ?_, ?_, k2⟩
                · rw [append_in (n := sl.n) (m := m) hs (TE.run_size w) hxd hni hlen bnew hin]
                  have e1 : ((⟨im.blk, im.sh + p.off, none⟩ : Addr).add (sl.n * ei.size)) = ⟨im.blk, im.sh + p.off + A.length, none⟩ := by
                    rw [Addr.add_lit, al]
                  simp only [e1, k1, Result.andThen_ok]
                · exact .slLoose (im := ⟨im.blk, im.sh + p.off, im.lim, im.es⟩) rfl (upd_same _ _ _) hin (.inl ⟨⟨rfl, rfl, _, upd_same _ _ _, rfl, rfl⟩, hlim⟩)
              · omega
            · have hkill := Step.kill hr hb hlt hd
              have hdid := app_grow (t := t) (xt := xt) (ty := ty) (ts := ts) hs TE hz hxd hni hby hnm h0 hlS hlX hvS hvX hr (by omega) hkill.rel rfl h00 hj (marks_ne _)
              obtain ⟨ρ', r', w', g1, g2, g3⟩ := hdid
              exact ⟨ρ', r', w', g1, g2, Step.trans hf hkill g3⟩
        · simp only [hfz, decide_false] at hx
          simp at hx
variable (hE : EnvT P E)
include hE
theorem aappend_ok {xd : TypeDesc} (hxd : P.underlying xt = some xd) (hni : xd = .string ∨ ∃ q, xd = .slice q) (hx : aappend E t s x h = some (r, h1)) (hob : OB h1) (hr : Rel P.cellsOf ρ h w) (hf : Fr ρ h.n h1.n) (hvS : VR ρ s s') (hvX : VR ρ x x') :
    OB h ∧ Did P (Builtin.append_ (t :: xt :: ts).toArray ty #[s', x']) ρ h w r h1 := by
  unfold aappend at hx
  cases hsl : asSl s with
  | none => simp [hsl] at hx
  | some sl =>
    simp only [hsl] at hx
    cases hlX : srcLen x with
    | none => simp [hlX] at hx
    | some m =>
      simp only [hlX] at hx
      cases ht : E.ty.get t with
      | none => simp [ht] at hx
      | some ti =>
        obtain ⟨info, T⟩ := hE.at ht
        simp only [ht] at hx
        cases h5 : Nat.beq ti.kd 5 with
        | false => simp [h5] at hx
        | true =>
          simp only [h5] at hx
          cases hte : E.ty.get ti.el with
          | none => simp [hte] at hx
          | some ei =>
            obtain ⟨einfo, TE⟩ := hE.at hte
            simp only [hte, app1, ble_eq] at hx
            by_cases hby : ei.bytes ≤ 256
            · simp only [hby, decide_true] at hx
              cases hz : ei.zero with
              | none => simp [hz] at hx
              | some z =>
                simp only [hz] at hx
                rw [show Nat.add sl.n m = sl.n + m from rfl] at hx
                cases hq : h.req (decide (sl.n + m ≤ 4294967296)) with
                | none => simp [hq] at hx
                | some h2 =>
                  simp only [hq] at hx
                  obtain ⟨k1, k2, k3, k4⟩ := req_some hq
                  have hr2 : Rel P.cellsOf ρ h2 w := hr.congr k1 k2 rfl
                  have hf2 : Fr ρ h2.n h1.n := by rw [k2]; exact hf
                  have hpre : sl.n + m ≤ 4294967296 → h1.ob = h2.ob ∧ Did P (Builtin.append_ (t :: xt :: ts).toArray ty #[s', x']) ρ h2 w r h1 := fun hnm =>
                    app2_ok ((T.isSlice h5) ▸ T.hu) TE hz hxd hni hby hsl hlX hvS hvX hr2 hf2 hnm hx
                  have hob2 : OB h2 := by
                    have : h1.ob = h2.ob := app2_ob hx
                    intro b hb; exact hob b (by rw [this]; exact hb)
                  obtain ⟨k5, k6⟩ := k4 hob2
                  exact ⟨k5, Did.pre k1 k2 k3 hr hf (hpre (by simpa using k6)).2⟩
            · simp [hby] at hx
end
end Go.Proofs.YtkmbkejmfffafaaGreatDoor.Refl
/- The second reading against the model: the other builtins. -/
namespace Go.Proofs.YtkmbkejmfffafaaGreatDoor.Refl
open Go
set_option linter.unusedVariables false
set_option linter.unusedSimpArgs false

section
variable {P : Program} {t ty : TypeId} {ts : List TypeId} {s s' x x' y y' r : Value} {h h1 h2 : AH} {ρ : Ren} {w : World} {E : Env} {n m : Nat}
theorem copyN_ok {e : TypeId} {ei : TI} {einfo : TypeInfo} {sl : SL} {k : Nat} (hs : P.underlying t = some (.slice e)) (TE : TA P e ei einfo) (hsl : asSl s = some sl) (hlX : srcLen x = some m) (hvS : VR ρ s s') (hvX : VR ρ x x')
    (hk : k = Nat.min m sl.n) (hr : Rel P.cellsOf ρ h w) (hx : copyN ei sl x k h = some (r, h1)) : h1.ob = h.ob ∧ Did P (Builtin.copy_ (t :: ts).toArray ty #[s', x']) ρ h w r h1 := by
  have hlen := (srcLen_run (P := P) (w := w) hlX hvX).1
  have hkm : k ≤ m := by rw [hk]; exact Nat.min_le_left _ _
  have hkn : k ≤ sl.n := by rw [hk]; exact Nat.min_le_right _ _
  have run : ∀ (base : Option Addr) (c' : Nat) (new : Array Value) (w' : World), s' = .slice base sl.n c' → (Builtin.firstCells ei.size k x').run P w = .ok new w →
      (match base with | some a => storeCells a new.toList | none => pure () : Sem Unit).run P w = .ok () w' → (Builtin.copy_ (t :: ts).toArray ty #[s', x']).run P w = .ok (intV k) w' := by
    rintro base c' new w' rfl hnew hst
    subst hk
    cases base with
    | none =>
      simp at hst
      subst hst
      simp [Builtin.copy_, run_underlying hs, TE.run_size, hlen, hnew]; rfl
    | some b =>
      simp at hst
      simp [Builtin.copy_, run_underlying hs, TE.run_size, hlen, hnew, hst]; rfl
  unfold copyN at hx
  rw [bq] at hx
  by_cases h0 : k = 0
  · simp [h0] at hx
    obtain ⟨rfl, rfl⟩ := hx
    rw [h0] at run
    have hnew := first_zero (P := P) (w := w) (size := ei.size) (m := 0) hlX hvX (by omega) (by omega)
    refine ⟨rfl, Did.same hr ?_ (.int _ _)⟩
    rcases asSl_VR hsl hvS with ⟨h5, rfl⟩ | ⟨p, im, _, _, _, hle, rfl⟩ | ⟨p, im, a2, c2, _, _, _, hle, rfl, _⟩
    · exact run none 0 _ _ (by rw [h5]) hnew rfl
    · exact run _ _ _ _ rfl hnew (storeCells_nil _)
    · exact run _ _ _ _ rfl hnew (storeCells_nil _)
  · simp only [h0, decide_false] at hx
    cases hp : sl.a with
    | none => simp [hp] at hx
    | some p =>
      simp only [hp] at hx
      cases hv : srcVals ei x k h with
      | none => simp [hv] at hx
      | some cs =>
        simp only [hv] at hx
        cases hst : storeAt h p.b p.off cs with
        | none => simp [hst] at hx
        | some h2 =>
          simp [hst] at hx
          obtain ⟨rfl, rfl⟩ := hx
          obtain ⟨_, bl, bs, new, bnew, bLR⟩ := srcVals_ok TE hlX hkm hv hr hvX
          rcases asSl_VR hsl hvS with ⟨h5, rfl⟩ | ⟨q, im, hq, hb, _, hle, rfl⟩ | ⟨q, im, a2, c2, hq, hb, _, hle, rfl, h6⟩
          · rw [h5] at hp; cases hp
          · rw [hp] at hq; cases hq
            obtain ⟨k1, k2, k3, _⟩ := storeAt_ok (P := P) hst hr hb bLR bs
            exact ⟨k3, ρ, _, _, run _ _ _ _ rfl bnew k1, .int _ _, k2⟩
          · rw [hp] at hq; cases hq
            rcases h6 with ⟨rfl, _⟩ | ⟨h7, _⟩
            · obtain ⟨k1, k2, k3, _⟩ := storeAt_ok (P := P) hst hr hb bLR bs
              exact ⟨k3, ρ, _, _, run _ _ _ _ rfl bnew k1, .int _ _, k2⟩
            · omega
theorem mm_ok {f : IV → IV → Value} {g : Value → Value → Sem Value} (hf : ∀ a b : IV, (g (.int a.k a.n) (.int b.k b.n)).run P w = .ok (f a b) w) (hfl : ∀ a b, VR ρ (f a b) (f a b))
    (hx : mm f x y h = some (r, h1)) (hr : Rel P.cellsOf ρ h w) (hv : VR ρ x x') (hv2 : VR ρ y y') : h1.ob = h.ob ∧ Did P (g x' y') ρ h w r h1 := by
  unfold mm at hx
  cases hi : asInt x with
  | none => simp [hi] at hx
  | some i =>
    obtain ⟨rfl, rfl⟩ := asInt_VR hi hv
    simp only [hi] at hx
    cases hj : asInt y with
    | none => simp [hj] at hx
    | some j =>
      obtain ⟨rfl, rfl⟩ := asInt_VR hj hv2
      simp only [hj] at hx
      cases hk : kEq i.k j.k with
      | false => simp [hk] at hx
      | true =>
        simp [hk] at hx
        obtain ⟨rfl, rfl⟩ := hx
        exact ⟨rfl, Did.same hr (hf i j) (hfl i j)⟩
theorem asliceData_ok (hx : asliceData x h = some (r, h1)) (hr : Rel P.cellsOf ρ h w) (hv : VR ρ x x') : h1.ob = h.ob ∧ Did P (Builtin.unsafeSliceData_ ts.toArray ty #[x']) ρ h w r h1 := by
  unfold asliceData at hx
  cases hs : asSl x with
  | none => simp [hs] at hx
  | some sl =>
    simp only [hs] at hx
    cases hp : sl.a with
    | none =>
      simp [hp] at hx
      obtain ⟨rfl, rfl⟩ := hx
      rcases asSl_VR hs hv with ⟨rfl, rfl⟩ | ⟨q, im, hq, _⟩ | ⟨q, im, a2, c2, hq, _⟩
      · exact ⟨rfl, Did.same hr (Lib.run_unsafeSliceData_nil w _ _ 0 0) .ptrNil⟩
      · rw [hp] at hq; cases hq
      · rw [hp] at hq; cases hq
    | some p =>
      simp only [hp, bq] at hx
      by_cases h0 : sl.n = 0
      · simp [h0] at hx
      · simp [h0] at hx
        obtain ⟨rfl, rfl⟩ := hx
        rcases asSl_VR hs hv with ⟨rfl, rfl⟩ | ⟨q, im, hq, hb, _, hle, rfl⟩ | ⟨q, im, a2, c2, hq, hb, _, hle, rfl, h6⟩
        · cases hp
        · rw [hp] at hq; cases hq
          have hc : sl.c ≠ 0 := by omega
          exact ⟨rfl, Did.same hr (Lib.run_unsafeSliceData_row w _ _ _ _ _ hc) (VR.ptr_mk hb)⟩
        · rw [hp] at hq; cases hq
          have hc : c2 ≠ 0 := by omega
          rcases h6 with ⟨rfl, _⟩ | ⟨h7, _⟩
          · exact ⟨rfl, Did.same hr (Lib.run_unsafeSliceData_row w _ _ _ _ _ hc) (VR.ptr_mk hb)⟩
          · omega
/-- A row's head is frozen. -/
theorem freeze_row {im : Im} {l : List UInt8} {e fz kd off k : Nat} (hk : kd ≠ 2) (h0 : k ≠ 0) (hrow : RowR P.cellsOf ρ w im (.bytes l e fz kd) e fz kd l.length) :
    RowR P.cellsOf ρ (w.freeze ⟨im.blk, im.sh + off, none⟩ k) im (.bytes l e (max fz (off + k)) kd) e (max fz (off + k)) kd l.length ∧ (w.freeze ⟨im.blk, im.sh + off, none⟩ k).heap.size = w.heap.size ∧
    (∀ c, c ≠ im.blk → (w.freeze ⟨im.blk, im.sh + off, none⟩ k).heap[c]? = w.heap[c]?) ∧ Str w (w.freeze ⟨im.blk, im.sh + off, none⟩ k) := by
  obtain ⟨cs', lo, hi, h1, h2, h3, h4, h5, h6⟩ := hrow
  have hsame : (w.freeze ⟨im.blk, im.sh + off, none⟩ k).heap[im.blk]? = some (.cells cs' e (if lo == hi then (im.sh + off, im.sh + off + k) else (min lo (im.sh + off), max hi (im.sh + off + k)))) := by
    simp [World.freeze, h0, Array.getElem?_modify, h1]
  refine ⟨?_, by simp [World.freeze, h0], fun c hc => ?_, ⟨by simp [World.freeze, h0], by simp [World.freeze, h0], by simp [World.freeze, h0]⟩⟩
  · by_cases hlh : lo = hi
    · refine ⟨cs', im.sh + off, im.sh + off + k, ?_, h2, ⟨fun j a b c => ?_, fun _ => .inr ?_⟩, h4, h5, fun q => ⟨(h6 q).1, (h6 q).2.1, fun z => by omega⟩⟩
      · rw [hsame]; simp [hlh]
      · omega
      · omega
    · refine ⟨cs', min lo (im.sh + off), max hi (im.sh + off + k), ?_, h2, ⟨fun j a b c => ?_, fun _ => .inr ?_⟩, h4, h5, fun q => ⟨(h6 q).1, (h6 q).2.1, fun z => by omega⟩⟩
      · rw [hsame]; simp [hlh]
      · have := h3.2 hk; omega
      · have := h3.2 hk; omega
  · have : im.blk ≠ c := fun e => hc e.symm
    simp [World.freeze, h0, Array.getElem?_modify, this]
theorem unsafeString_def (ta : Array TypeId) (p : Option Addr) (l : Value) : Builtin.unsafeString_ ta ty #[.pointer p, l] = (do
    let n ← Go.asInt l
    let some pt := (ta[0]? : Option TypeId) | stuck "unsafe.String: no argument types"
    if n < 0 then runtimePanic (.error "unsafe.String: len out of range")
    if n > IntKind.i64.max then unsupported (.unsafePointer "String: a length above the largest int")
    match p with
    | none =>
      if n = 0 then pure (.string .empty)
      else runtimePanic (.error "unsafe.String: ptr is nil and len is not zero")
    | some a =>
      if n = 0 then pure (.string .empty)
      else if ← variablesAt a (← Go.elemOf pt) n.toNat then do
        let s ← loadBytes a .empty n.toNat
        freeze a n.toNat
        pure (.string s)
      else unsupported (.unsafePointer "String: not so many bytes at ptr")) := rfl
variable (hE : EnvT P E)
include hE
theorem acopy_ok (hx : acopy E t s x h = some (r, h1)) (hr : Rel P.cellsOf ρ h w) (hvS : VR ρ s s') (hvX : VR ρ x x') : h1.ob = h.ob ∧ Did P (Builtin.copy_ (t :: ts).toArray ty #[s', x']) ρ h w r h1 := by
  unfold acopy at hx
  cases hsl : asSl s with
  | none => simp [hsl] at hx
  | some sl =>
    simp only [hsl] at hx
    cases hlX : srcLen x with
    | none => simp [hlX] at hx
    | some m =>
      simp only [hlX] at hx
      cases ht : E.ty.get t with
      | none => simp [ht] at hx
      | some ti =>
        obtain ⟨info, T⟩ := hE.at ht
        simp only [ht] at hx
        cases h5 : Nat.beq ti.kd 5 with
        | false => simp [h5] at hx
        | true =>
          simp only [h5] at hx
          cases hte : E.ty.get ti.el with
          | none => simp [hte] at hx
          | some ei =>
            obtain ⟨einfo, TE⟩ := hE.at hte
            simp only [hte, ble_eq] at hx
            have hu := (T.isSlice h5) ▸ T.hu
            by_cases hle : m ≤ sl.n
            · simp only [hle, decide_true] at hx
              exact copyN_ok hu TE hsl hlX hvS hvX (by show m = min m sl.n; omega) hr hx
            · simp only [hle, decide_false] at hx
              exact copyN_ok hu TE hsl hlX hvS hvX (by show sl.n = min m sl.n; omega) hr hx
theorem alen_ok (hx : alen E t x h = some (r, h1)) (hr : Rel P.cellsOf ρ h w) (hv : VR ρ x x') : h1.ob = h.ob ∧ Did P (Builtin.len_ (t :: ts).toArray ty #[x']) ρ h w r h1 := by
  unfold alen at hx
  cases ht : E.ty.get t with
  | none => simp [ht] at hx
  | some ti =>
    obtain ⟨info, T⟩ := hE.at ht
    simp only [ht] at hx
    cases h3 : Nat.beq ti.kd 3 with
    | true =>
      simp only [h3] at hx
      cases hs : asStr x with
      | none => simp [hs] at hx
      | some l =>
        obtain ⟨q, rfl, rfl, rfl⟩ := asStr_VR hs hv
        simp [hs, len_eq] at hx
        obtain ⟨rfl, rfl⟩ := hx
        exact ⟨rfl, Did.same hr (by simp [Builtin.len_, T.run_u, T.isString h3]; rfl) (.int _ _)⟩
    | false =>
      simp only [h3] at hx
      cases h5 : Nat.beq ti.kd 5 with
      | true =>
        simp only [h5] at hx
        cases hs : asSl x with
        | none => simp [hs] at hx
        | some sl =>
          simp [hs] at hx
          obtain ⟨rfl, rfl⟩ := hx
          refine ⟨rfl, Did.same hr ?_ (.int _ _)⟩
          rcases asSl_VR hs hv with ⟨rfl, rfl⟩ | ⟨q, im, hq, hb, _, hle, rfl⟩ | ⟨q, im, a2, c2, hq, hb, _, hle, rfl, h6⟩ <;> (simp [Builtin.len_, T.run_u, T.isSlice h5]; rfl)
      | false =>
        simp only [h5] at hx
        cases h7 : Nat.beq ti.kd 7 with
        | false => simp [h7] at hx
        | true =>
          simp only [h7] at hx
          cases hm : asMap x with
          | none => simp [hm] at hx
          | some o =>
            simp only [hm] at hx
            rcases asMap_VR hm hv with ⟨rfl, rfl⟩ | ⟨b, im, rfl, hb, rfl⟩
            · simp [lenMap] at hx
              obtain ⟨rfl, rfl⟩ := hx
              exact ⟨rfl, Did.same hr (by simp [Builtin.len_, T.run_u, T.isMap h7]; rfl) (.int _ _)⟩
            · simp only [lenMap] at hx
              cases hmo : mapOf (h.obj b) with
              | none => simp [hmo] at hx
              | some mp =>
                simp [hmo, len_eq] at hx
                obtain ⟨rfl, rfl⟩ := hx
                obtain ⟨_, _, es', g3, g4⟩ := hr.map hb hmo
                refine ⟨rfl, Did.same hr ?_ (.int _ _)⟩
                simp [Builtin.len_, T.run_u, T.isMap h7, MapKept.run_getObj_map g3]
                rw [g4.length]; rfl
theorem acap_ok (hx : acap E t x h = some (r, h1)) (hr : Rel P.cellsOf ρ h w) (hv : VR ρ x x') : h1.ob = h.ob ∧ Did P (Builtin.cap_ (t :: ts).toArray ty #[x']) ρ h w r h1 := by
  unfold acap at hx
  cases hs : asSl x with
  | none => simp [hs] at hx
  | some sl =>
    simp only [hs] at hx
    cases ht : E.ty.get t with
    | none => simp [ht] at hx
    | some ti =>
      obtain ⟨info, T⟩ := hE.at ht
      simp only [ht] at hx
      cases h5 : Nat.beq ti.kd 5 with
      | false => simp [h5] at hx
      | true =>
        simp only [h5] at hx
        cases hl : loose sl.c with
        | true => simp [hl] at hx
        | false =>
          simp [hl] at hx
          obtain ⟨rfl, rfl⟩ := hx
          rw [loose, ble_eq, decide_eq_false_iff_not] at hl
          refine ⟨rfl, Did.same hr ?_ (.int _ _)⟩
          rcases asSl_VR hs hv with ⟨rfl, rfl⟩ | ⟨q, im, hq, hb, _, hle, rfl⟩ | ⟨q, im, a2, c2, hq, hb, hc, hle, rfl, h6⟩
          · simp [Builtin.cap_, T.run_u, T.isSlice h5]; rfl
          · simp [Builtin.cap_, T.run_u, T.isSlice h5]; rfl
          · omega
theorem aunsafeString_ok (hx : aunsafeString E t x y h = some (r, h1)) (hr : Rel P.cellsOf ρ h w) (hv : VR ρ x x') (hv2 : VR ρ y y') : h1.ob = h.ob ∧ Did P (Builtin.unsafeString_ (t :: ts).toArray ty #[x', y']) ρ h w r h1 := by
  unfold aunsafeString at hx
  cases hn : asNat y with
  | none => simp [hn] at hx
  | some n =>
    obtain ⟨kk, rfl, rfl⟩ := asNat_VR hn hv2
    simp only [hn] at hx
    cases ht : E.ty.get t with
    | none => simp [ht] at hx
    | some ti =>
      obtain ⟨info, T⟩ := hE.at ht
      simp only [ht] at hx
      cases h4 : Nat.beq ti.kd 4 with
      | false => simp [h4] at hx
      | true =>
        simp only [h4] at hx
        cases hte : E.ty.get ti.el with
        | none => simp [hte] at hx
        | some ui =>
          obtain ⟨uinfo, U⟩ := hE.at hte
          simp only [hte] at hx
          cases hu : ui.u8 with
          | false => simp [hu] at hx
          | true =>
            simp only [hu, bq] at hx
            have hmax : IntKind.i64.max = 9223372036854775807 := rfl
            have hneg : ¬ ((n : Int) < 0) := by omega
            by_cases h0 : n = 0
            · simp only [h0, decide_true] at hx
              cases hnp : isNilP x with
              | false => simp [hnp] at hx
              | true =>
                simp [hnp] at hx
                obtain ⟨rfl, rfl⟩ := hx
                have hx0 : x = .pointer none := by cases x <;> simp [isNilP] at hnp; rename_i a; cases a <;> simp [isNilP] at hnp; rfl
                subst hx0
                cases hv
                subst h0
                exact ⟨rfl, Did.same hr (by simp [unsafeString_def, Go.asInt, Go.asIntOf, hmax]) (.string .empty)⟩
            · simp only [h0, decide_false] at hx
              cases hp : asPtr x with
              | none => simp [hp] at hx
              | some p =>
                obtain ⟨im, hb, rfl⟩ := asPtr_VR hp hv
                simp only [hp] at hx
                cases hob : h.obj p.b with
                | bytes l e fz kd =>
                  simp only [hob, bytesO, unsStr, bq, ble_eq] at hx
                  by_cases hk2 : kd = 2
                  · simp [hk2] at hx
                  · simp only [hk2, decide_false] at hx
                    by_cases hel : e = ti.el
                    · simp only [hel, decide_true] at hx
                      by_cases hle : n ≤ 1099511627776
                      · simp only [hle, decide_true] at hx
                        cases htk : tk n (drp p.off l) with
                        | none => simp [htk] at hx
                        | some q =>
                          simp only [htk] at hx
                          rw [fin_eq _ _ _ _ (forceL_eq _ _)] at hx
                          have hx' := Option.some.inj hx
                          obtain ⟨rfl, rfl⟩ := Prod.mk.inj hx'
                          have hd : h.obj p.b ≠ .dead := by rw [hob]; simp
                          have hlt := hr.lt hd
                          have hrow := hr.obj p.b im hb hlt
                          rw [hob] at hrow
                          obtain ⟨k1, k2, k3, k4⟩ := freeze_row (off := p.off) (k := n) hk2 h0 hrow
                          have htk2 : tk (SL.mk (some p) n 0).n (drp p.off l) = some q := htk
                          obtain ⟨q1, q2⟩ := bytesAt_run (w := w) htk2 hr hb (by rw [hob]; rfl)
                          have q1 : q.length = n := q1
                          subst hel
                          refine ⟨rfl, ρ, .string ⟨q.toArray⟩, _, ?_, ?_, .write hr hb hlt hd k2 k3 k4 k1⟩
                          · obtain ⟨cs', lo, hi, h1, h2, h3, h4', h5, h6⟩ := hrow
                            have hsh : w.shape? im.blk = some (ti.el, cs'.size) := by simp [World.shape?, h1]
                            have hone : P.cellsOf ti.el = 1 := by rw [U.cells]; exact u8_one U hu
                            have hoff : im.sh + p.off + n ≤ cs'.size := by
                              have hj : n - 1 < q.length := by omega
                              have := q2 (n - 1) hj
                              rw [Addr.add_lit] at this
                              simp only [World.cell?, h1] at this
                              have hlt := (Array.getElem?_eq_some_iff.1 (by simpa using this)).1
                              omega
                            have hlies : liesAt P P.depth ti.el (cs'.size / P.cellsOf ti.el) (im.sh + p.off) ti.el n = true := by
                              have := lies_row (P := P) (e := ti.el) (s := 1) hone (by omega) (cs'.size / P.cellsOf ti.el) (im.sh + p.off) n (by rw [hone]; simpa using hoff)
                              simpa using this
                            have hlb := Lib.run_loadBytes (P := P) w q ⟨im.blk, im.sh + p.off, none⟩ .empty (fun j x hj => by
                              have hj' := (List.getElem?_eq_some_iff.1 hj)
                              obtain ⟨hjl, rfl⟩ := hj'
                              exact q2 j hjl)
                            have h63 : ¬ ((9223372036854775807 : Int) < (n : Int)) := by omega
                            rw [q1] at hlb
                            simp [unsafeString_def, Go.asInt, Go.asIntOf, hmax, h63, hneg, h0, variablesAt, hsh, Go.elemOf, T.run_u, T.isPointer h4, hlies, hlb]
                          · exact .string _
                      · simp [hle] at hx
                    · simp [hel] at hx
                | dead => simp [hob, bytesO] at hx
                | cells l e fz kd => simp [hob, bytesO] at hx
                | map es c => simp [hob, bytesO] at hx
                | siter q c => simp [hob, bytesO] at hx
end
end Go.Proofs.YtkmbkejmfffafaaGreatDoor.Refl
/- The second reading against the model: builtins as the code calls them. -/
namespace Go.Proofs.YtkmbkejmfffafaaGreatDoor.Refl
open Go
set_option linter.unusedVariables false
set_option linter.unusedSimpArgs false

def DidN (P : Program) (s : Sem Next) (ρ : Ren) (h : AH) (w : World) (r : Value) (h1 : AH) : Prop :=
  ∃ ρ' r' w', s.run P w = .ok (.value r') w' ∧ VR ρ' r r' ∧ Step P.cellsOf ρ h w ρ' h1 w'
section
variable {P : Program} {ty : TypeId} {cs : Array Bool} {ts : List TypeId} {args args' : List Value} {r : Value} {h h1 : AH} {ρ : Ren} {w : World} {E : Env}
theorem OB.of_eq (ho : h1.ob = h.ob) (hob : OB h1) : OB h := fun b hb => hob b (by rw [ho]; exact hb)
theorem DidN.of {s : Sem Value} (hd : Did P s ρ h w r h1) : DidN P (do pure (.value (← s))) ρ h w r h1 := by
  obtain ⟨ρ', r', w', k1, k2, k3⟩ := hd
  exact ⟨ρ', r', w', by simp [k1], k2, k3⟩
theorem LR.one {x : Value} (hl : LR ρ [x] args') : ∃ x', args' = [x'] ∧ VR ρ x x' := by
  cases hl with | cons hx hl => cases hl; exact ⟨_, rfl, hx⟩
theorem LR.two {x y : Value} (hl : LR ρ [x, y] args') : ∃ x' y', args' = [x', y'] ∧ VR ρ x x' ∧ VR ρ y y' := by
  cases hl with | cons hx hl => cases hl with | cons hy hl => cases hl; exact ⟨_, _, rfl, hx, hy⟩
theorem unit_some {o : Option AH} (hx : unit o = some (r, h1)) : o = some h1 ∧ r = .tuple ⟨[]⟩ := by
  cases o <;> simp [unit] at hx
  obtain ⟨rfl, rfl⟩ := hx
  exact ⟨rfl, rfl⟩
variable (hE : EnvT P E)
include hE
theorem one_some {f : Env → TypeId → Value → AH → AR} (hx : one f E ts args h = some (r, h1)) : ∃ t rest x, ts = t :: rest ∧ args = [x] ∧ f E t x h = some (r, h1) := by
  unfold one at hx
  cases ts with
  | nil => simp at hx
  | cons t rest =>
    match args, hx with
    | [x], hx => exact ⟨t, rest, x, rfl, rfl, hx⟩
theorem pair_some {f : Env → TypeId → Value → Value → AH → AR} (hx : pair f E ts args h = some (r, h1)) : ∃ t rest x y, ts = t :: rest ∧ args = [x, y] ∧ f E t x y h = some (r, h1) := by
  unfold pair at hx
  cases ts with
  | nil => simp at hx
  | cons t rest =>
    match args, hx with
    | [x, y], hx => exact ⟨t, rest, x, y, rfl, rfl, hx⟩
theorem builtinF_ok {b : Builtin} (hx : builtinF b E ts args h = some (r, h1)) (hob : OB h1) (hr : Rel P.cellsOf ρ h w) (hf : Fr ρ h.n h1.n) (hl : LR ρ args args') :
    OB h ∧ DidN P (Go.builtin b ts.toArray ty cs args'.toArray) ρ h w r h1 := by
  have keep : ∀ {s : Sem Value}, h1.ob = h.ob ∧ Did P s ρ h w r h1 → OB h ∧ DidN P (do pure (.value (← s))) ρ h w r h1 := fun ⟨k1, k2⟩ => ⟨hob.of_eq k1, .of k2⟩
  cases b with
  | append =>
    have hx : bfAppend E ts args h = some (r, h1) := hx
    unfold bfAppend at hx
    match ts, hx with
    | t :: xt :: rest, hx =>
      simp only at hx
      cases hxt : E.ty.get xt with
      | none => simp [hxt] at hx
      | some xi =>
        obtain ⟨xinfo, X⟩ := hE.at hxt
        have go : pair aappend E (t :: xt :: rest) args h = some (r, h1) → (descOf P xinfo = .string ∨ ∃ q, descOf P xinfo = .slice q) → OB h ∧ DidN P (Go.builtin .append (t :: xt :: rest).toArray ty cs args'.toArray) ρ h w r h1 := by
          intro hp hd
          obtain ⟨t2, rest2, s, x, h2, rfl, h3⟩ := pair_some hE hp
          cases h2
          obtain ⟨s', x', rfl, hs, hxx⟩ := hl.two
          obtain ⟨k1, k2⟩ := aappend_ok hE (ts := rest) (ty := ty) X.hu hd h3 hob hr hf hs hxx
          exact ⟨k1, .of k2⟩
        simp only [hxt] at hx
        cases h5 : Nat.beq xi.kd 5 with
        | true => simp only [h5] at hx; exact go hx (.inr ⟨_, X.isSlice h5⟩)
        | false =>
          simp only [h5] at hx
          cases h3 : Nat.beq xi.kd 3 with
          | true => simp only [h3] at hx; exact go hx (.inl (X.isString h3))
          | false => simp [h3] at hx
  | copy =>
    obtain ⟨t, rest, s, x, rfl, rfl, h3⟩ := pair_some hE (f := acopy) hx
    obtain ⟨s', x', rfl, hs, hxx⟩ := hl.two
    exact keep (acopy_ok hE h3 hr hs hxx)
  | len =>
    obtain ⟨t, rest, x, rfl, rfl, h3⟩ := one_some hE (f := alen) hx
    obtain ⟨x', rfl, hxx⟩ := hl.one
    exact keep (alen_ok hE h3 hr hxx)
  | cap =>
    obtain ⟨t, rest, x, rfl, rfl, h3⟩ := one_some hE (f := acap) hx
    obtain ⟨x', rfl, hxx⟩ := hl.one
    exact keep (acap_ok hE h3 hr hxx)
  | delete =>
    obtain ⟨t, rest, x, k, rfl, rfl, h3⟩ := pair_some hE (f := fun E t m k h => unit (adelete E t m k h)) hx
    obtain ⟨x', k', rfl, hxx, hkk⟩ := hl.two
    obtain ⟨h4, rfl⟩ := unit_some h3
    obtain ⟨w', k1, k2, k3⟩ := adelete_ok hE (ts := (t :: rest).toArray) (ty := ty) (t := t) (by simp) h4 hr hxx hkk
    exact keep ⟨k3, ρ, .tuple #[], w', k1, .tuple .nil, k2⟩
  | unsafeString =>
    obtain ⟨t, rest, s, x, rfl, rfl, h3⟩ := pair_some hE (f := aunsafeString) hx
    obtain ⟨s', x', rfl, hs, hxx⟩ := hl.two
    exact keep (aunsafeString_ok hE h3 hr hs hxx)
  | unsafeSliceData =>
    have hx : bfData E ts args h = some (r, h1) := hx
    unfold bfData at hx
    match args, hx, hl with
    | [x], hx, hl =>
      obtain ⟨x', rfl, hxx⟩ := hl.one
      exact keep (asliceData_ok (ts := ts) (ty := ty) hx hr hxx)
  | max =>
    have hx : bfMax E ts args h = some (r, h1) := hx
    unfold bfMax at hx
    match args, hx, hl with
    | [x, y], hx, hl =>
      obtain ⟨x', y', rfl, hxx, hyy⟩ := hl.two
      have := mm_ok (P := P) (w := w) (g := Builtin.max2) (fun a b => by simp [Builtin.max2, maxI]) (fun _ _ => .int _ _) hx hr hxx hyy
      exact keep (s := Builtin.max_ ts.toArray ty [x', y'].toArray) ⟨this.1, by simpa [Builtin.max_] using this.2⟩
  | min =>
    have hx : bfMin E ts args h = some (r, h1) := hx
    unfold bfMin at hx
    match args, hx, hl with
    | [x, y], hx, hl =>
      obtain ⟨x', y', rfl, hxx, hyy⟩ := hl.two
      have := mm_ok (P := P) (w := w) (g := Builtin.min2) (fun a b => by simp [Builtin.min2, minI]) (fun _ _ => .int _ _) hx hr hxx hyy
      exact keep (s := Builtin.min_ ts.toArray ty [x', y'].toArray) ⟨this.1, by simpa [Builtin.min_] using this.2⟩
  | _ => simp [builtinF, bfNone] at hx
end
end Go.Proofs.YtkmbkejmfffafaaGreatDoor.Refl
