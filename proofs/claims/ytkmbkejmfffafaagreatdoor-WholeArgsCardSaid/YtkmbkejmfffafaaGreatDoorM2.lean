/- The second reading of the model's code, part 2 of 13. -/
import Derived.Test.YtkmbkejmfffafaaGreatDoorM1
import Derived.Laws.Slices
import Derived.Laws.StructEq
import Derived.Laws.IdiomStrings
import Derived.Lib.UnsafeStr
import Derived.Lib.Builder
set_option linter.unusedSectionVars false
set_option linter.unusedVariables false
set_option linter.unusedSimpArgs false
/- The second reading against the model: slices of slices, strings and arrays. -/
namespace Go.Proofs.YtkmbkejmfffafaaGreatDoor.Refl
open Go
set_option linter.unusedVariables false

inductive OV (ρ : Ren) : Option Value → Option Value → Prop where
  | none : OV ρ none none
  | some {v v' : Value} (h : VR ρ v v') : OV ρ (some v) (some v')
section
variable {P : Program} {ρ : Ren} {w : World}
theorem bound_some {d top i : Nat} {v v' : Option Value} (hx : bound d top v = some i) (hv : OV ρ v v') :
    (v = none ∧ v' = none ∧ i = d) ∨ ∃ k, v'= some (.int k (i : Int)) ∧ v.isSome = true ∧ i ≤ top := by
  cases hv with
  | none => simp [bound] at hx; exact .inl ⟨rfl, rfl, hx.symm⟩
  | some h =>
    rename_i u u'
    simp only [bound] at hx
    cases hn : asNat u with
    | none => rw [hn] at hx; simp at hx
    | some n =>
      rw [hn] at hx
      simp only [ble_eq] at hx
      by_cases hle : n ≤ top
      · simp [hle] at hx
        subst hx
        obtain ⟨k, _, rfl⟩ := asNat_VR hn h
        exact .inr ⟨k, rfl, rfl, hle⟩
      · simp [hle] at hx
theorem run_bound (k : IntKind) {i y : Nat} (code : BoundsCode) (h : i ≤ y) : (Instr.sliceBound (.int k (i : Int)) y code).run P w = .ok i w := by
  have := run_sliceBound (P := P) w k (i : Int) y code (by omega) (by omega)
  simpa using this
theorem sliceBounds_ok (isSl : Bool) {n c m hiN loN c' : Nat} {lo lo' hi hi' mx mx' : Option Value} (h1 : OV ρ lo lo') (h2 : OV ρ hi hi') (h3 : OV ρ mx mx') (hm : mxOK hi mx = true)
    (b1 : bound c c mx = some m) (b2 : bound n m hi = some hiN) (b3 : bound 0 hiN lo = some loN) (hc : c ≤ c') (hcc : mx = none ∨ c' = c) :
    (Instr.sliceBounds isSl n c' lo' hi' mx').run P w = .ok (loN, hiN, if mx.isSome then m else c') w := by
  rcases bound_some b1 h3 with ⟨rfl, rfl, rfl⟩ | ⟨km, rfl, hms, hmle⟩
  · -- no third number
    rcases bound_some b2 h2 with ⟨rfl, rfl, rfl⟩ | ⟨kh, rfl, hhs, hhle⟩
    · rcases bound_some b3 h1 with ⟨rfl, rfl, rfl⟩ | ⟨kl, rfl, hls, hlle⟩
      · simp [Instr.sliceBounds]
      · simp [Instr.sliceBounds, run_bound kl _ hlle]
    · have hh' := Nat.le_trans hhle hc
      rcases bound_some b3 h1 with ⟨rfl, rfl, rfl⟩ | ⟨kl, rfl, hls, hlle⟩
      · simp [Instr.sliceBounds, run_bound kh _ hh']
      · simp [Instr.sliceBounds, run_bound kh _ hh', run_bound kl _ hlle]
  · obtain ⟨u, rfl⟩ := Option.isSome_iff_exists.1 hms
    obtain rfl : c' = c := hcc.resolve_left (by simp)
    have hhi : ∃ v, hi = some v := by
      cases hi with
      | none => simp [mxOK] at hm
      | some v => exact ⟨v, rfl⟩
    obtain ⟨v, rfl⟩ := hhi
    rcases bound_some b2 h2 with ⟨h, _⟩ | ⟨kh, rfl, hhs, hhle⟩
    · cases h
    · rcases bound_some b3 h1 with ⟨rfl, rfl, rfl⟩ | ⟨kl, rfl, hls, hlle⟩
      · simp [Instr.sliceBounds, run_bound km _ hmle, run_bound kh _ hhle]
      · simp [Instr.sliceBounds, run_bound km _ hmle, run_bound kh _ hhle, run_bound kl _ hlle]
theorem bounds_le {n c m hiN loN : Nat} {lo lo' hi hi' mx mx' : Option Value} (h1 : OV ρ lo lo') (h2 : OV ρ hi hi') (h3 : OV ρ mx mx') (hn : n ≤ c) (hm : mxOK hi mx = true)
    (b1 : bound c c mx = some m) (b2 : bound n m hi = some hiN) (b3 : bound 0 hiN lo = some loN) : loN ≤ hiN ∧ hiN ≤ m ∧ m ≤ c := by
  have k1 : m ≤ c := by rcases bound_some b1 h3 with ⟨_, _, rfl⟩ | ⟨_, _, _, h⟩ <;> omega
  have k2 : hiN ≤ m := by
    rcases bound_some b2 h2 with ⟨rfl, _, rfl⟩ | ⟨_, _, _, h⟩
    · cases mx with
      | none => simp [bound] at b1; omega
      | some v => simp [mxOK] at hm
    · exact h
  have k3 : loN ≤ hiN := by rcases bound_some b3 h1 with ⟨_, _, rfl⟩ | ⟨_, _, _, h⟩ <;> omega
  exact ⟨k3, k2, k1⟩
end
theorem extract_bytes (s : ByteArray) {l h : Nat} (hh : h ≤ s.data.toList.length) {r : List UInt8} (hr : sub8 s.data.toList l h = some r) : s.extract l h = ⟨⟨r⟩⟩ := by
  unfold sub8 at hr
  rw [drp_eq] at hr
  obtain ⟨rfl, _⟩ := tk_some _ _ _ hr
  apply ByteArray.ext
  rw [ByteArray.data_extract]
  apply Array.ext'
  rw [Array.toList_extract, List.extract_eq_take_drop]
  rfl

section
variable {P : Program} {E : Env} (hE : EnvT P E) {t : TypeId} {h h1 : AH} {ρ : Ren} {w : World} {r : Value}
include hE
theorem slice_tight {a : Option PA} {n c : Nat} {size : Nat} {lo lo' hi hi' mx mx' : Option Value} (hx : sliceTight ⟨a, n, c⟩ size lo hi mx h = some (r, h1))
    (k1 : OV ρ lo lo') (k2 : OV ρ hi hi') (k3 : OV ρ mx mx') (hn : n ≤ c) :
    h1 = h ∧ ∃ l u m : Nat, l ≤ u ∧ u ≤ m ∧ m ≤ c ∧ (∀ (isSl : Bool), (Instr.sliceBounds isSl n c lo' hi' mx').run P w = .ok (l, u, m) w) ∧
      ((m = l ∧ r = slNo a (u - l)) ∨ (m ≠ l ∧ ∃ p, a = some p ∧ r = slV p.b (p.off + l * size) (u - l) (m - l))) := by
  unfold sliceTight at hx
  cases hm : mxOK hi mx with
  | false => rw [hm] at hx; simp at hx
  | true =>
    rw [hm] at hx
    simp only [sliceTight1] at hx
    cases b1 : bound c c mx with
    | none => rw [b1] at hx; simp at hx
    | some m =>
      rw [b1] at hx
      simp only at hx
      cases b2 : bound n m hi with
      | none => rw [b2] at hx; simp at hx
      | some u =>
        rw [b2] at hx
        simp only at hx
        cases b3 : bound 0 u lo with
        | none => rw [b3] at hx; simp at hx
        | some l =>
          rw [b3] at hx
          simp only [bq] at hx
          obtain ⟨g1, g2, g3⟩ := bounds_le k1 k2 k3 hn hm b1 b2 b3
          have hrun : ∀ (isSl : Bool), (Instr.sliceBounds isSl n c lo' hi' mx').run P w = .ok (l, u, m) w := fun isSl => by
            rw [sliceBounds_ok isSl k1 k2 k3 hm b1 b2 b3 (Nat.le_refl _) (.inr rfl)]
            cases mx with
            | none => simp [bound] at b1; simp [b1]
            | some v => simp
          by_cases hml : m = l
          · simp [hml] at hx
            exact ⟨hx.2.symm, l, u, m, g1, g2, g3, hrun, .inl ⟨hml, hx.1.symm⟩⟩
          · simp only [hml, decide_false] at hx
            obtain ⟨hq, rfl⟩ := retO_some hx
            cases a with
            | none => simp [slOf] at hq
            | some p =>
              simp [slOf] at hq
              exact ⟨rfl, l, u, m, g1, g2, g3, hrun, .inr ⟨hml, p, rfl, hq.symm⟩⟩

theorem aslice_ok {x x' : Value} {lo lo' hi hi' mx mx' : Option Value} (hx : aslice E t x lo hi mx h = some (r, h1)) (hr : Rel P.cellsOf ρ h w) (hv : VR ρ x x')
    (k1 : OV ρ lo lo') (k2 : OV ρ hi hi') (k3 : OV ρ mx mx') : h1 = h ∧ Did P (Instr.sliceAt t x' lo' hi' mx') ρ h w r h1 := by
  unfold aslice at hx
  cases ht : E.ty.get t with
  | none => rw [ht] at hx; simp at hx
  | some ti =>
    rw [ht] at hx
    obtain ⟨info, T⟩ := hE.at ht
    simp only at hx
    cases h3 : Nat.beq ti.kd 3 with
    | true =>
      rw [h3] at hx
      simp only at hx
      cases hs : asStr x with
      | none => rw [hs] at hx; simp at hx
      | some l =>
        rw [hs] at hx
        obtain ⟨s, rfl, rfl, rfl⟩ := asStr_VR hs hv
        simp only [sliceStr, len_eq] at hx
        cases k3 with
        | some h => simp at hx
        | none =>
          simp only at hx
          cases b2 : bound s.data.toList.length s.data.toList.length hi with
          | none => rw [b2] at hx; simp at hx
          | some u =>
            rw [b2] at hx
            simp only at hx
            cases b3 : bound 0 u lo with
            | none => rw [b3] at hx; simp at hx
            | some l =>
              rw [b3] at hx
              simp only at hx
              obtain ⟨q, hq, rfl, rfl⟩ := retStr_some hx
              have hb := sliceBounds_ok (P := P) (w := w) false k1 k2 (OV.none (ρ := ρ)) (by simp [mxOK]) (by simp [bound] : bound s.data.toList.length s.data.toList.length none = some s.data.toList.length) b2 b3 (Nat.le_refl _) (.inl rfl)
              have hsz : s.data.toList.length = s.size := rfl
              rw [hsz] at hb b2
              obtain ⟨_, g2, _⟩ := bounds_le k1 k2 (OV.none (ρ := ρ)) (Nat.le_refl _) (by simp [mxOK]) (by simp [bound] : bound s.size s.size none = some s.size) b2 b3
              refine ⟨rfl, Did.same hr ?_ (VR.string _)⟩
              simp [Instr.sliceAt, Instr.slice, T.run_u, T.isString h3, hb, extract_bytes s g2 hq]
    | false =>
      rw [h3] at hx
      simp only at hx
      cases h5 : Nat.beq ti.kd 5 with
      | true =>
        rw [h5] at hx
        simp only at hx
        cases hs : asSl x with
        | none => rw [hs] at hx; simp at hx
        | some s =>
          rw [hs] at hx
          simp only [sliceSl] at hx
          cases hte : E.ty.get ti.el with
          | none => rw [hte] at hx; simp at hx
          | some ei =>
            rw [hte] at hx
            obtain ⟨einfo, TE⟩ := hE.at hte
            simp only at hx
            cases hl : loose s.c with
            | false =>
              rw [hl] at hx
              simp only at hx
              have hc : s.c < LOOSE := by simp only [loose, ble_eq, decide_eq_false_iff_not] at hl; omega
              rcases asSl_VR hs hv with ⟨rfl, rfl⟩ | ⟨p, im, g1, g2, g3, g4, rfl⟩ | ⟨p, im, a', c', g1, g2, g3, _⟩
              · obtain ⟨rfl, l, u, m, j1, j2, j3, hb, j4⟩ := slice_tight (P := P) (w := w) hE hx k1 k2 k3 (Nat.le_refl _)
                have hb := hb true
                obtain rfl : m = 0 := by omega
                obtain rfl : u = 0 := by omega
                obtain rfl : l = 0 := by omega
                rcases j4 with ⟨_, rfl⟩ | ⟨j5, _⟩
                · refine ⟨rfl, Did.same hr ?_ .slNil⟩
                  simp [Instr.sliceAt, Instr.slice, T.run_u, T.isSlice h5, hb, TE.run_size]
                · exact absurd rfl j5
              · obtain ⟨sa, sn, sc⟩ := s
                simp only at g1 g3 g4 hc hx
                subst g1
                obtain ⟨rfl, l, u, m, j1, j2, j3, hb, j4⟩ := slice_tight (P := P) (w := w) hE hx k1 k2 k3 g4
                have hb := hb true
                rcases j4 with ⟨rfl, rfl⟩ | ⟨j5, q, hq, rfl⟩
                · refine ⟨rfl, Did.same hr ?_ (.slTight (a' := ⟨im.blk, im.sh + p.off, none⟩) ⟨rfl, rfl, im, g2, rfl, rfl⟩ (by unfold LOOSE; omega) (by omega))⟩
                  simp [Instr.sliceAt, Instr.slice, T.run_u, T.isSlice h5, hb, TE.run_size]
                · cases hq
                  refine ⟨rfl, Did.same hr ?_ (.slTight (a' := ⟨im.blk, im.sh + (p.off + l * ei.size), none⟩) ⟨rfl, rfl, im, g2, rfl, rfl⟩ (by omega) (by omega))⟩
                  have e : im.sh + p.off + l * ei.size = im.sh + (p.off + l * ei.size) := by omega
                  simp [Instr.sliceAt, Instr.slice, T.run_u, T.isSlice h5, hb, TE.run_size, j5, Addr.add_lit, e]
              · omega
            | true =>
              rw [hl] at hx
              simp only [sliceLoose] at hx
              cases k3 with
              | some h => simp at hx
              | none =>
                simp only at hx
                cases b2 : bound s.n s.n hi with
                | none => rw [b2] at hx; simp at hx
                | some u =>
                  rw [b2] at hx
                  simp only at hx
                  cases b3 : bound 0 u lo with
                  | none => rw [b3] at hx; simp at hx
                  | some l =>
                    rw [b3] at hx
                    simp only at hx
                    cases hsa : s.a with
                    | none => rw [hsa] at hx; simp at hx
                    | some p =>
                      rw [hsa] at hx
                      simp only [isElem] at hx
                      cases he : elemOf (h.obj p.b) with
                      | none => rw [he] at hx; simp at hx
                      | some e' =>
                        rw [he] at hx
                        simp only [bq] at hx
                        by_cases hee : e' = ti.el
                        · simp [hee] at hx
                          obtain ⟨rfl, rfl⟩ := hx
                          rcases asSl_VR hs hv with ⟨rfl, rfl⟩ | ⟨q, im, g1, g2, g3, g4, rfl⟩ | ⟨q, im, a', c', g1, g2, g3, g4, rfl, g5⟩
                          · simp at hsa
                          · simp only [loose, ble_eq, decide_eq_true_eq] at hl; omega
                          · rw [g1] at hsa; cases hsa
                            have hle := bounds_le k1 k2 (OV.none (ρ := ρ)) (Nat.le_refl _) (by simp [mxOK]) (by simp [bound] : bound s.n s.n none = some s.n) b2 b3
                            have hb := sliceBounds_ok (P := P) (w := w) true k1 k2 (OV.none (ρ := ρ)) (by simp [mxOK]) (by simp [bound] : bound s.n s.n none = some s.n) b2 b3 g4 (.inl rfl)
                            simp only [Option.isSome_none] at hb
                            have hes : im.es = ei.size := by
                              have hd : h.obj p.b ≠ .dead := fun e => by rw [e] at he; simp [elemOf] at he
                              have ho := hr.obj p.b im g2 (hr.lt hd)
                              rw [← TE.cells, ← hee]
                              cases hob : h.obj p.b with
                              | dead => exact absurd hob hd
                              | cells cs e fz kd => rw [hob] at ho he; simp [elemOf] at he; subst he; obtain ⟨_, _, _, _, _, _, _, h9, _⟩ := ho; exact h9
                              | bytes cs e fz kd => rw [hob] at ho he; simp [elemOf] at he; subst he; obtain ⟨_, _, _, _, _, _, _, h9, _⟩ := ho; exact h9
                              | map es clock => rw [hob] at he; simp [elemOf] at he
                              | siter s pos => rw [hob] at he; simp [elemOf] at he
                            refine ⟨rfl, ?_⟩
                            by_cases hcl : c' = l
                            · subst hcl
                              have hz : u - c' = 0 := by omega
                              refine Did.same hr (r' := .slice (some a') (u - c') 0) ?_ (.slLoose rfl g2 (by omega) (.inr ⟨hz, rfl⟩))
                              simp [Instr.sliceAt, Instr.slice, T.run_u, T.isSlice h5, hb, TE.run_size]
                            · rcases g5 with ⟨rfl, g6⟩ | ⟨g6, g7⟩
                              · refine Did.same hr (r' := .slice (some ⟨im.blk, im.sh + (p.off + l * ei.size), none⟩) (u - l) (c' - l)) ?_ (.slLoose rfl g2 (by omega) (.inl ⟨⟨rfl, rfl, im, g2, rfl, rfl⟩, ?_⟩))
                                · have e : im.sh + p.off + l * ei.size = im.sh + (p.off + l * ei.size) := by omega
                                  simp [Instr.sliceAt, Instr.slice, T.run_u, T.isSlice h5, hb, TE.run_size, hcl, Addr.add_lit, e]
                                · have : c' = (c' - l) + l := by omega
                                  rw [this, Nat.add_mul, hes] at g6
                                  simp only [hes]
                                  omega
                              · omega
                        · simp [hee] at hx
      | false =>
        rw [h5] at hx
        simp only at hx
        cases h6 : Nat.beq ti.kd 6 with
        | false => rw [h6] at hx; simp at hx
        | true =>
          rw [h6] at hx
          simp only at hx
          cases hp : asPtr x with
          | none => rw [hp] at hx; simp at hx
          | some p =>
            rw [hp] at hx
            obtain ⟨im, hb0, rfl⟩ := asPtr_VR hp hv
            simp only [sliceArr] at hx
            cases hte : E.ty.get ti.el with
            | none => rw [hte] at hx; simp at hx
            | some ei =>
              rw [hte] at hx
              obtain ⟨einfo, TE⟩ := hE.at hte
              simp only at hx
              cases hll0 : loose ti.ln with
              | true => rw [hll0] at hx; simp at hx
              | false =>
              rw [hll0] at hx
              simp only at hx
              simp only [loose, ble_eq, decide_eq_false_iff_not] at hll0
              obtain ⟨rfl, l, u, m, j1, j2, j3, hb, j4⟩ := slice_tight (P := P) (w := w) hE hx k1 k2 k3 (Nat.le_refl _)
              have hb := hb false
              rcases j4 with ⟨rfl, rfl⟩ | ⟨j5, q, hq, rfl⟩
              · refine ⟨rfl, Did.same hr (r' := .slice (some ⟨im.blk, im.sh + p.off, none⟩) (u - m) 0) ?_ (.slTight ⟨rfl, rfl, im, hb0, rfl, rfl⟩ (by unfold LOOSE; omega) (by omega))⟩
                simp [Instr.sliceAt, T.run_u, T.isArray h6, Instr.sureAddr, hb, TE.run_size]
              · cases hq
                have hll : m - l < LOOSE := by omega
                · refine ⟨rfl, Did.same hr (r' := .slice (some ⟨im.blk, im.sh + (p.off + l * ei.size), none⟩) (u - l) (m - l)) ?_ (.slTight ⟨rfl, rfl, im, hb0, rfl, rfl⟩ hll (by omega))⟩
                  have e : im.sh + p.off + l * ei.size = im.sh + (p.off + l * ei.size) := by omega
                  simp [Instr.sliceAt, T.run_u, T.isArray h6, Instr.sureAddr, hb, TE.run_size, j5, Addr.add_lit, e]
end
end Go.Proofs.YtkmbkejmfffafaaGreatDoor.Refl
/- The second reading against the model: arithmetic, comparison. -/
namespace Go.Proofs.YtkmbkejmfffafaaGreatDoor.Refl
open Go
set_option linter.unusedVariables false

theorem kEq_true {a b : IntKind} (h : kEq a b = true) : a = b := by cases a <;> cases b <;> first | rfl | (simp [kEq] at h)
theorem iEq_eq (a b : Int) : iEq a b = decide (a = b) := by
  cases a <;> cases b <;> simp [iEq, bq] <;> omega
theorem iLt_eq (a b : Int) : iLt a b = decide (a < b) := by
  cases a with
  | ofNat m => cases b with
    | ofNat n => simp [iLt, blt_eq]
    | negSucc n => simp [iLt]; omega
  | negSucc m => cases b with
    | ofNat n => simp [iLt]; omega
    | negSucc n => simp only [iLt, blt_eq, decide_eq_decide]; omega
theorem beqB_eq (a b : Bool) : beqB a b = (a == b) := by cases a <;> cases b <;> rfl

/-- What answers an operator. -/
abbrev BinD (P : Program) (op : BinOp) (t : TypeId) (x y : Operand) (a b : Value) (ρ : Ren) (h : AH) (w : World) (r : Value) (h1 : AH) : Prop :=
  Did P (do eqGuard op t x y a b; Go.binOp op t a b) ρ h w r h1
section
variable {P : Program} {t : TypeId} {x y : Operand} {a b a' b' r : Value} {h h1 : AH} {ρ : Ren} {w : World}

theorem two_some {f : IntKind → Int → Int → Value} {i j : IV} (hx : two f i j h = some (r, h1)) : i.k = j.k ∧ r = f i.k i.n j.n ∧ h1 = h := by
  unfold two at hx
  cases hk : kEq i.k j.k with
  | false => rw [hk] at hx; simp at hx
  | true => rw [hk] at hx; simp at hx; exact ⟨kEq_true hk, hx.1.symm, hx.2.symm⟩
theorem ints_ok {op : BinOp} {f : IntKind → Int → Int → Value} (hrun : ∀ k m n, (Go.binOp op t (.int k m) (.int k n)).run P w = .ok (f k m n) w) (hfl : ∀ k m n, VR ρ (f k m n) (f k m n))
    (hx : ints f a b h = some (r, h1)) (hr : Rel P.cellsOf ρ h w) (ha : VR ρ a a') (hb : VR ρ b b') : h1 = h ∧ BinD P op t x y a' b' ρ h w r h1 := by
  unfold ints at hx
  cases hi : asInt a with
  | none => rw [hi] at hx; simp at hx
  | some i =>
    rw [hi] at hx
    obtain ⟨rfl, rfl⟩ := asInt_VR hi ha
    simp only at hx
    cases hj : asInt b with
    | none => rw [hj] at hx; simp at hx
    | some j =>
      rw [hj] at hx
      obtain ⟨rfl, rfl⟩ := asInt_VR hj hb
      obtain ⟨hk, rfl, rfl⟩ := two_some hx
      refine ⟨rfl, Did.same hr ?_ (hfl _ _ _)⟩
      rw [← hk]
      simp [eqGuard_at_int, hrun]
theorem strs_ok {op : BinOp} {g : List UInt8 → List UInt8 → AH → AR}
    (hg : ∀ (s u : ByteArray), g s.data.toList u.data.toList h = some (r, h1) → OB h1 → OB h ∧ Did P (Go.binOp op t (.string s) (.string u)) ρ h w r h1)
    (hx : strs g a b h = some (r, h1)) (hob : OB h1) (ha : VR ρ a a') (hb : VR ρ b b') : OB h ∧ BinD P op t x y a' b' ρ h w r h1 := by
  unfold strs at hx
  cases hi : asStr a with
  | none => rw [hi] at hx; simp at hx
  | some i =>
    rw [hi] at hx
    obtain ⟨s, rfl, rfl, rfl⟩ := asStr_VR hi ha
    simp only at hx
    cases hj : asStr b with
    | none => rw [hj] at hx; simp at hx
    | some j =>
      rw [hj] at hx
      obtain ⟨u, rfl, rfl, rfl⟩ := asStr_VR hj hb
      obtain ⟨k1, ρ', r', w', k2, k3⟩ := hg s u hx hob
      exact ⟨k1, ρ', r', w', by simp [eqGuard_at_string, k2], k3⟩
theorem either_ok {op : BinOp} {f : IntKind → Int → Int → Value} {g : List UInt8 → List UInt8 → AH → AR} (hrun : ∀ k m n, (Go.binOp op t (.int k m) (.int k n)).run P w = .ok (f k m n) w) (hfl : ∀ k m n, VR ρ (f k m n) (f k m n))
    (hg : ∀ (s u : ByteArray), g s.data.toList u.data.toList h = some (r, h1) → OB h1 → OB h ∧ Did P (Go.binOp op t (.string s) (.string u)) ρ h w r h1)
    (hx : either f g a b h = some (r, h1)) (hob : OB h1) (hr : Rel P.cellsOf ρ h w) (ha : VR ρ a a') (hb : VR ρ b b') : OB h ∧ BinD P op t x y a' b' ρ h w r h1 := by
  unfold either at hx
  cases hi : asInt a with
  | none => rw [hi] at hx; exact strs_ok hg hx hob ha hb
  | some i =>
    have : ints f a b h = some (r, h1) := by unfold ints; rw [hi]; rw [hi] at hx; exact hx
    obtain ⟨rfl, k⟩ := ints_ok (x := x) (y := y) hrun hfl this hr ha hb
    exact ⟨hob, k⟩
theorem req_some {c : Bool} {h2 : AH} (hx : h.req c = some h2) : h2.t = h.t ∧ h2.n = h.n ∧ h2.log = h.log ∧ (OB h2 → OB h ∧ c = true) := by
  unfold AH.req at hx
  cases hs : h.sym with
  | false =>
    rw [hs] at hx
    cases c <;> simp at hx
    subst hx
    exact ⟨rfl, rfl, rfl, fun h => ⟨h, rfl⟩⟩
  | true =>
    rw [hs] at hx
    simp at hx
    subst hx
    refine ⟨rfl, rfl, rfl, fun hob => ⟨fun b hb => hob b (List.mem_cons_of_mem _ hb), hob c (List.mem_cons_self ..)⟩⟩
theorem mk_data (s : ByteArray) : (⟨⟨s.data.toList⟩⟩ : ByteArray) = s := rfl
theorem addS_ok (s u : ByteArray) (hr : Rel P.cellsOf ρ h w) (hx : addS s.data.toList u.data.toList h = some (r, h1)) (hob : OB h1) : OB h ∧ Did P (Go.binOp .add t (.string s) (.string u)) ρ h w r h1 := by
  unfold addS at hx
  cases hq : h.req (Nat.ble (Nat.add (len s.data.toList) (len u.data.toList)) 1099511627776) with
  | none => rw [hq] at hx; simp at hx
  | some h2 =>
    rw [hq] at hx
    simp only at hx
    rw [fin_eq _ _ _ _ (forceL_eq _ _)] at hx
    simp at hx
    obtain ⟨rfl, rfl⟩ := hx
    obtain ⟨k1, k2, k3, k4⟩ := req_some hq
    obtain ⟨k5, k6⟩ := k4 hob
    refine ⟨k5, ρ, .string (s ++ u), w, ?_, ?_, .same hr k1 k2 k3 rfl (Str.refl _)⟩
    · rw [ble_eq, decide_eq_true_eq, len_eq, len_eq] at k6
      have hs : s.size + u.size ≤ 1099511627776 := k6
      have : ¬ (9223372036854775807 < (s.size : Int) + (u.size : Int)) := by omega
      simp [Go.binOp, Op.stringOp, this]
    · have : strV (app s.data.toList u.data.toList) = .string (s ++ u) := by
        unfold strV
        congr 1
        apply ByteArray.ext
        rw [ByteArray.data_append]
        apply Array.ext'
        simp [app_eq]
      rw [this]; exact .string _
theorem cmpS_ok {op : BinOp} {c : List UInt8 → List UInt8 → Bool} (s u : ByteArray) (hr : Rel P.cellsOf ρ h w) (hc : (Go.binOp op t (.string s) (.string u)).run P w = .ok (.bool (c s.data.toList u.data.toList)) w)
    (hx : (some (Value.bool (c s.data.toList u.data.toList), h) : AR) = some (r, h1)) (hob : OB h1) : OB h ∧ Did P (Go.binOp op t (.string s) (.string u)) ρ h w r h1 := by
  simp at hx
  obtain ⟨rfl, rfl⟩ := hx
  exact ⟨hob, Did.same hr hc (.bool _)⟩
theorem bytesEq_beq (l r : List UInt8) : bytesEq l r = (l == r) := by
  rw [bytesEq_eq]
  by_cases h : l = r
  · subst h; simp
  · simp [h]

theorem notZero_some (hx : notZero b = true) (hb : VR ρ b b') : ∃ k n, b' = .int k n ∧ n ≠ 0 := by
  unfold notZero at hx
  cases hj : asInt b with
  | none => rw [hj] at hx; simp at hx
  | some j =>
    rw [hj] at hx
    obtain ⟨rfl, rfl⟩ := asInt_VR hj hb
    simp only at hx
    rw [iEq_eq] at hx
    exact ⟨_, _, rfl, by simpa using hx⟩
theorem shft_ok {op : BinOp} {f : IntKind → Int → Nat → Value} (hrun : ∀ k m k2 (n : Nat), (Go.binOp op t (.int k m) (.int k2 (n : Int))).run P w = .ok (f k m n) w) (hfl : ∀ k m n, VR ρ (f k m n) (f k m n))
    (hx : shft f a b h = some (r, h1)) (hr : Rel P.cellsOf ρ h w) (ha : VR ρ a a') (hb : VR ρ b b') : h1 = h ∧ BinD P op t x y a' b' ρ h w r h1 := by
  unfold shft at hx
  cases hi : asInt a with
  | none => rw [hi] at hx; simp at hx
  | some i =>
    rw [hi] at hx
    obtain ⟨rfl, rfl⟩ := asInt_VR hi ha
    simp only at hx
    cases hj : asNat b with
    | none => rw [hj] at hx; simp at hx
    | some n =>
      rw [hj] at hx
      obtain ⟨k, rfl, rfl⟩ := asNat_VR hj hb
      simp at hx
      obtain ⟨rfl, rfl⟩ := hx
      exact ⟨rfl, Did.same hr (by simp [eqGuard_at_int, hrun]) (hfl _ _ _)⟩
end

/- Comparison of other values. -/
structure EnvQ (P : Program) (E : Env) : Prop extends EnvT P E where
  eqs : ∀ t ∈ E.eqs, P.eqGuardType P.depth t = false ∧ P.stoodInHeld t = false ∧ ∀ fs, P.underlying t = some (.struct fs) → ∀ f ∈ fs.toList, f.name ≠ "_"
section
variable {P : Program} {E : Env} (hE : EnvQ P E) {t : TypeId} {ti : TI} {info : TypeInfo} (T : TA P t ti info) {h : AH} {ρ : Ren} {w : World} {x' y y' : Value} {c : Bool}
include T
omit T in
theorem equal_of {x y : Value} {c : Bool} (hx : ∀ d, (Op.equalIn (d + 1) t x y).run P w = .ok c w) : (Op.equal t x y).run P w = .ok c w := by
  rw [Op.equal, Op.maxDepth]; exact hx 9999
theorem eqBool_ok {a : Bool} (hx : eqBool ti a y = some c) (hy : VR ρ y y') : (Op.equal t (.bool a) y').run P w = .ok c w := by
  unfold eqBool at hx
  cases hy with
  | bool b =>
    cases hk : Nat.beq ti.kd 1 with
    | false => simp [hk] at hx
    | true =>
      simp [hk] at hx
      rw [← hx, beqB_eq]
      (refine equal_of fun d => ?_; simp [Op.equalIn, T.run_u, T.isBool hk])
  | _ => simp at hx
theorem eqNilI_ok (hx : eqNilI ti y = some c) (hy : VR ρ y y') : (Op.equal t .nilIface y').run P w = .ok c w := by
  unfold eqNilI at hx
  cases hk : Nat.beq ti.kd 10 with
  | false => simp [hk] at hx
  | true =>
    rw [hk] at hx
    obtain ⟨ms, hms⟩ := T.isIface hk
    cases hy with
    | nilIface => simp at hx; subst hx; (refine equal_of fun d => ?_; simp [Op.equalIn, T.run_u, hms])
    | iface h => simp at hx; subst hx; (refine equal_of fun d => ?_; simp [Op.equalIn, T.run_u, hms])
    | _ => simp at hx
theorem eqIface_ok {d : TypeId} {v : Value} (hx : eqIface ti y = some c) (hy : VR ρ y y') : (Op.equal t (.iface d v) y').run P w = .ok c w := by
  unfold eqIface at hx
  cases hk : Nat.beq ti.kd 10 with
  | false => simp [hk] at hx
  | true =>
    rw [hk] at hx
    obtain ⟨ms, hms⟩ := T.isIface hk
    cases hy with
    | nilIface => simp at hx; subst hx; (refine equal_of fun d => ?_; simp [Op.equalIn, T.run_u, hms])
    | _ => simp at hx
theorem eqNilF_ok (hx : eqNilF ti y = some c) (hy : VR ρ y y') : (Op.equal t .nilFunc y').run P w = .ok c w := by
  unfold eqNilF at hx
  cases hk : Nat.beq ti.kd 9 with
  | false => simp [hk] at hx
  | true =>
    rw [hk] at hx
    obtain ⟨a1, a2, a3, hms⟩ := T.isFunc hk
    cases hy with
    | nilFunc => simp at hx; subst hx; (refine equal_of fun d => ?_; simp [Op.equalIn, T.run_u, hms])
    | func h1 h2 => simp at hx; subst hx; (refine equal_of fun d => ?_; simp [Op.equalIn, T.run_u, hms])
    | _ => simp at hx
theorem eqFunc_ok {fn : Fn} {a b : Array Value} (hx : eqFunc ti y = some c) (hy : VR ρ y y') : (Op.equal t (.func fn a b) y').run P w = .ok c w := by
  unfold eqFunc at hx
  cases hk : Nat.beq ti.kd 9 with
  | false => simp [hk] at hx
  | true =>
    rw [hk] at hx
    obtain ⟨a1, a2, a3, hms⟩ := T.isFunc hk
    cases hy with
    | nilFunc => simp at hx; subst hx; (refine equal_of fun d => ?_; simp [Op.equalIn, T.run_u, hms])
    | _ => simp at hx
theorem eqSl_ok {a : Option Addr} {n m : Nat} (hx : eqSl ti a y = some c) (ha : VR ρ (.slice a n m) x') (hy : VR ρ y y') : (Op.equal t x' y').run P w = .ok c w := by
  unfold eqSl at hx
  cases hk : Nat.beq ti.kd 5 with
  | false => cases hy <;> simp [hk] at hx
  | true =>
    have hs := T.isSlice hk
    cases ha <;> cases hy <;> simp [hk, isSomeP] at hx <;> subst hx <;> (refine equal_of fun d => ?_; simp [Op.equalIn, T.run_u, hs])
theorem eqMap_ok {a : Option Nat} (hx : eqMap ti a y = some c) (ha : VR ρ (.map a) x') (hy : VR ρ y y') : (Op.equal t x' y').run P w = .ok c w := by
  unfold eqMap at hx
  cases hk : Nat.beq ti.kd 7 with
  | false => cases hy <;> simp [hk] at hx
  | true =>
    have hs := T.isMap hk
    cases ha <;> cases hy <;> simp [hk, isSomeP] at hx <;> subst hx <;> (refine equal_of fun d => ?_; simp [Op.equalIn, T.run_u, hs])
include hE
theorem eqPtr_ok {a : Option Addr} (hx : eqPtr E ti a y = some c) (ha : VR ρ (.pointer a) x') (hy : VR ρ y y') : (Op.equal t x' y').run P w = .ok c w := by
  unfold eqPtr at hx
  cases hk : Nat.beq ti.kd 4 with
  | false => cases hy <;> simp [hk] at hx
  | true =>
    have hs := T.isPointer hk
    cases ha with
    | ptrNil => cases hy <;> simp [hk, isSomeP] at hx <;> subst hx <;> (refine equal_of fun d => ?_; simp [Op.equalIn, T.run_u, hs])
    | ptr h1 =>
      cases hy with
      | ptrNil => simp [hk] at hx; subst hx; (refine equal_of fun d => ?_; simp [Op.equalIn, T.run_u, hs])
      | ptr h2 =>
        simp only [hk] at hx
        cases hte : E.ty.get ti.el with
        | none => rw [hte] at hx; simp at hx
        | some ei =>
          rw [hte] at hx
          obtain ⟨einfo, TE⟩ := hE.at hte
          simp only [bq] at hx
          by_cases h0 : ei.size = 0
          · simp [h0] at hx
          · simp only [h0, decide_false, eqPP] at hx
            obtain ⟨im, g1, rfl⟩ := h1.eq
            obtain ⟨im2, g2, rfl⟩ := h2.eq
            rename_i a b
            cases hpa : asPA a with
            | none => rw [hpa] at hx; simp at hx
            | some p =>
              rw [hpa] at hx
              simp only at hx
              cases hpb : asPA b with
              | none => rw [hpb] at hx; simp at hx
              | some q =>
                rw [hpb] at hx
                have := asPA_some hpa; subst this
                have := asPA_some hpb; subst this
                simp only [bq] at hx
                by_cases hbb : p.b = q.b
                · simp [hbb] at hx
                  simp at g1 g2
                  rw [hbb, g2] at g1
                  obtain rfl := Option.some.inj g1
                  subst hx
                  have hd : (({ block := im2.blk, off := im2.sh + p.off } : Addr) == { block := im2.blk, off := im2.sh + q.off }) = decide (p.off = q.off) := by
                    rw [show (({ block := im2.blk, off := im2.sh + p.off } : Addr) == { block := im2.blk, off := im2.sh + q.off }) = decide (({ block := im2.blk, off := im2.sh + p.off } : Addr) = { block := im2.blk, off := im2.sh + q.off }) from rfl]; simp
                  (refine equal_of fun d => ?_; simp [Op.equalIn, T.run_u, hs, TE.run_size, h0, sameAddr, hd])
                · simp [hbb] at hx
      | _ => simp [hk] at hx
theorem eqFs_ok (d : Nat) {xs ys : List Value} {xs' ys' : Array Value} (hx' : LR ρ xs xs'.toList) (hy' : LR ρ ys ys'.toList) : ∀ (fs : List Field), (∀ f ∈ fs, f.type < P.types.size ∧ f.name ≠ "_") →
    ∀ c, eqFs (fs.map (fiOf P)) xs ys = some c → (Op.eqFields (d + 1) xs' ys' fs).run P w = .ok c w := by
  intro fs
  induction fs with
  | nil => intro _ c hc; simp [eqFs] at hc; subst hc; rfl
  | cons f fs ih =>
    intro hf c hc
    obtain ⟨hlt, hname⟩ := hf f (by simp)
    have ih' := ih fun g hg => hf g (by simp [hg])
    have hc' : (match nth xs (fiOf P f).off with
      | none => none
      | some x => match nth ys (fiOf P f).off with
        | none => none
        | some y => match (fiOf P f).agg with
          | true => none
          | false => match Nat.beq (fiOf P f).kd 3 with
            | true => eqStr x y (eqFs (fs.map (fiOf P)) xs ys)
            | false => match Nat.beq (fiOf P f).kd 2 with
              | true => eqInt x y (eqFs (fs.map (fiOf P)) xs ys)
              | false => none) = some c := hc
    have hty : P.types[f.type]? = some P.types[f.type] := Array.getElem?_eq_getElem hlt
    have hi := info_of_lt hty
    obtain ⟨hu, _⟩ := okType_at hE.types hty
    have hkd : (fiOf P f).kd = kdOf (descOf P P.types[f.type]) := by simp [fiOf, kdIn, hi]
    have hagg := (field_type hE.types hlt w).2
    rw [nth_eq, nth_eq] at hc'
    have hoff : (fiOf P f).off = f.offset := rfl
    rw [hoff] at hc'
    cases hxo : xs[f.offset]? with
    | none => rw [hxo] at hc'; simp at hc'
    | some u =>
      rw [hxo] at hc'
      simp only at hc'
      cases hyo : ys[f.offset]? with
      | none => rw [hyo] at hc'; simp at hc'
      | some v =>
        rw [hyo] at hc'
        simp only at hc'
        cases hag : (fiOf P f).agg with
        | true => rw [hag] at hc'; simp at hc'
        | false =>
          rw [hag] at hc' hagg
          simp only at hc'
          obtain ⟨u', k1, k2⟩ := hx'.get hxo
          obtain ⟨v', k3, k4⟩ := hy'.get hyo
          rw [Array.getElem?_toList] at k1 k3
          have hpx : (part f.type xs' f.offset).run P w = .ok u' w := by simp [part, hagg, k1]
          have hpy : (part f.type ys' f.offset).run P w = .ok v' w := by simp [part, hagg, k3]
          rw [hkd, bq, bq] at hc'
          by_cases h3 : kdOf (descOf P P.types[f.type]) = 3
          · simp only [h3, decide_true] at hc'
            have hds : descOf P P.types[f.type] = .string := by cases hd : descOf P P.types[f.type] <;> rw [hd] at h3 <;> simp [kdOf] at h3 <;> rfl
            rw [hds] at hu
            unfold eqStr at hc'
            cases hs1 : asStr u with
            | none => rw [hs1] at hc'; simp at hc'
            | some l1 =>
              rw [hs1] at hc'
              obtain ⟨s1, rfl, rfl, rfl⟩ := asStr_VR hs1 k2
              simp only at hc'
              cases hs2 : asStr v with
              | none => rw [hs2] at hc'; simp at hc'
              | some l2 =>
                rw [hs2] at hc'
                obtain ⟨s2, rfl, rfl, rfl⟩ := asStr_VR hs2 k4
                simp only [bytesEq_beq] at hc'
                have heq := run_equalIn_string (P := P) w d f.type s1 s2 hu
                rw [ByteArray.toList_eq, ByteArray.toList_eq] at heq
                cases hbe : (s1.data.toList == s2.data.toList) with
                | true =>
                  rw [hbe] at hc' heq
                  simp [Op.eqFields, hname, hpx, hpy, heq, ih' c hc']
                | false =>
                  rw [hbe] at hc' heq
                  simp at hc'; subst hc'
                  simp [Op.eqFields, hname, hpx, hpy, heq]
          · by_cases h2 : kdOf (descOf P P.types[f.type]) = 2
            · simp only [h2, decide_true] at hc'
              obtain ⟨kk, hds⟩ : ∃ kk, descOf P P.types[f.type] = .int kk := by cases hd : descOf P P.types[f.type] <;> rw [hd] at h2 <;> simp [kdOf] at h2 <;> exact ⟨_, rfl⟩
              rw [hds] at hu
              have hc2 : eqInt u v (eqFs (fs.map (fiOf P)) xs ys) = some c := by simpa using hc'
              unfold eqInt at hc2
              cases hs1 : asInt u with
              | none => rw [hs1] at hc2; simp at hc2
              | some l1 =>
                rw [hs1] at hc2
                obtain ⟨rfl, rfl⟩ := asInt_VR hs1 k2
                simp only at hc2
                cases hs2 : asInt v with
                | none => rw [hs2] at hc2; simp at hc2
                | some l2 =>
                  rw [hs2] at hc2
                  obtain ⟨rfl, rfl⟩ := asInt_VR hs2 k4
                  simp only at hc2
                  cases hke : kEq l1.k l2.k with
                  | false => rw [hke] at hc2; simp at hc2
                  | true =>
                    rw [hke] at hc2
                    have hkk := kEq_true hke
                    have heq := run_equalIn_int (P := P) w d f.type l1.k kk l1.n l2.n hu
                    rw [hkk] at heq hpx
                    simp only [iEq_eq] at hc2
                    by_cases hnn : l1.n = l2.n
                    · simp only [hnn, decide_true] at hc2
                      rw [hnn] at heq hpx
                      simp [Op.eqFields, hname, hpx, hpy, heq, ih' c hc2]
                    · simp only [hnn, decide_false] at hc2
                      simp at hc2; subst hc2
                      simp [Op.eqFields, hname, hpx, hpy, heq, hnn]
            · simp [h3, h2] at hc'
theorem eqAgg_ok {xs : List Value} {xs' : Array Value} (hx : eqAgg E t ti xs y = some c) (ha : LR ρ xs xs'.toList) (hy : VR ρ y y') : (Op.equal t (.agg xs') y').run P w = .ok c w ∧ (∀ op a b, (eqGuard op t a b (.agg xs') y').run P w = .ok () w) := by
  unfold eqAgg at hx
  cases hys : asAgg y with
  | none => rw [hys] at hx; simp at hx
  | some ys =>
    rw [hys] at hx
    obtain ⟨ys', rfl, hl⟩ := asAgg_VR hys hy
    simp only at hx
    rw [mem_eq] at hx
    by_cases hm : t ∈ E.eqs
    · simp only [hm, decide_true] at hx
      obtain ⟨q1, q2, q3⟩ := hE.eqs t hm
      cases hk : Nat.beq ti.kd 8 with
      | false => rw [hk] at hx; simp at hx
      | true =>
        rw [hk] at hx
        obtain ⟨fs, hfs⟩ := T.isStruct hk
        have hu : P.underlying t = some (.struct fs) := hfs ▸ T.hu
        have hfo : P.fieldsOf t = fs := by simp [Program.fieldsOf, hu]
        have hmap : ∀ l : List Field, mapL (fiOf P) l = l.map (fiOf P) := fun l => by induction l with
          | nil => rfl
          | cons a l ih => simp [mapL] at ih ⊢; exact ih
        have hfi : ti.fs = fs.toList.map (fiOf P) := by
          have : ti.fs = fisOf P (descOf P info) := by rw [T.e]; rfl
          rw [this, hfs]; exact hmap _
        have hd := T.hd
        rw [hfs] at hd
        rw [hfi] at hx
        refine ⟨?_, fun op a b => run_eqGuard_agg (P := P) w op t a b xs' ys' q1⟩
        have := eqFs_ok hE T (w := w) 9998 ha hl fs.toList (fun f hf => ⟨by simpa [blt_eq] using (allB_eq _ _).1 hd f hf, q3 fs hu f hf⟩) c hx
        rw [Op.equal, Op.maxDepth, run_equalIn_struct (P := P) w 9999 t xs' ys' (by rw [hfo]; exact hu) q2, hfo]
        exact this
    · simp [hm] at hx
end
end Go.Proofs.YtkmbkejmfffafaaGreatDoor.Refl
/- The second reading against the model: each operator. -/
namespace Go.Proofs.YtkmbkejmfffafaaGreatDoor.Refl
open Go
set_option linter.unusedVariables false
set_option linter.unusedSimpArgs false

section
variable {P : Program} {E : Env} (hE : EnvQ P E) {t : TypeId} {x y : Operand} {a b a' b' r : Value} {h h1 : AH} {ρ : Ren} {w : World}
theorem intCell (k : IntKind) (m : Int) : VR ρ (.int k m) (.int k m) := .int k m
theorem beq_eq_decide_int (a b : Int) : (a == b) = decide (a = b) := rfl
include hE
theorem aeq_ok {c : Bool} (hi : asInt a = none) (hs : asStr a = none) (hx : aeq E t a b = some c) (hok : eqOK x y a b = true) (ha : VR ρ a a') (hb : VR ρ b b') :
    (Op.equal t a' b').run P w = .ok c w ∧ (∀ op, (eqGuard op t x y a' b').run P w = .ok () w) ∧ (∀ op : BinOp, op = .eql ∨ op = .neq → (Go.binOp op t a' b').run P w = (Go.binOp op t a' b').run P w) := by
  unfold aeq at hx
  cases ht : E.ty.get t with
  | none => rw [ht] at hx; simp at hx
  | some ti =>
    rw [ht] at hx
    obtain ⟨info, T⟩ := hE.at ht
    have hx : aeqT E t ti a b = some c := hx
    refine ⟨?_, ?_, fun _ _ => rfl⟩
    · cases ha with
      | bool c => exact eqBool_ok T hx hb
      | int k n => simp [asInt] at hi
      | string s => simp [asStr] at hs
      | ptrNil => exact eqPtr_ok hE T (a := none) (y := b) hx .ptrNil hb
      | ptr h1 => exact eqPtr_ok hE T (a := some _) (y := b) hx (.ptr h1) hb
      | slNil => exact eqSl_ok T (a := none) (y := b) hx .slNil hb
      | slTight h1 h2 h3 => exact eqSl_ok T (a := some _) (y := b) hx (.slTight h1 h2 h3) hb
      | slLoose h1 h2 h3 h4 => exact eqSl_ok T (a := some _) (y := b) hx (.slLoose h1 h2 h3 h4) hb
      | mapNil => exact eqMap_ok T (a := none) (y := b) hx .mapNil hb
      | map h1 h2 => exact eqMap_ok T (a := some _) (y := b) hx (.map h1 h2) hb
      | func h1 h2 => exact eqFunc_ok T hx hb
      | nilFunc => exact eqNilF_ok T hx hb
      | iface h1 => exact eqIface_ok T hx hb
      | nilIface => exact eqNilI_ok T hx hb
      | agg h1 => exact (eqAgg_ok hE T hx h1 hb).1
      | tuple h1 => simp [aeqT, qNone] at hx
    · intro op
      cases ha with
      | agg h1 => exact (eqAgg_ok hE T hx h1 hb).2 op x y
      | nilIface =>
        have hx' : eqNilI ti b = some c := hx
        cases hb with
        | nilIface =>
          have hc : isConst x = true ∨ isConst y = true := by
            simp only [eqOK, isNilI] at hok
            cases hcx : isConst x with
            | true => exact .inl rfl
            | false => rw [hcx] at hok; exact .inr hok
          rcases hc with hc | hc
          · cases x <;> simp [isConst] at hc
            cases op <;> simp [eqGuard]
          · cases y <;> simp [isConst] at hc
            cases op <;> simp [eqGuard]
        | _ => cases op <;> simp [eqGuard]
      | tuple h1 => simp [aeqT, qNone] at hx
      | _ => cases op <;> simp [eqGuard]
omit hE
theorem binOp_eql (hi : asInt a = none) (hs : asStr a = none) (ha : VR ρ a a') : Go.binOp .eql t a' b' = (do pure (.bool (← Op.equal t a' b'))) := by
  cases ha <;> first | (simp [asInt] at hi; done) | (simp [asStr] at hs; done) | (cases b' <;> rfl)
theorem binOp_neq (hi : asInt a = none) (hs : asStr a = none) (ha : VR ρ a a') : Go.binOp .neq t a' b' = (do pure (.bool (!(← Op.equal t a' b')))) := by
  cases ha <;> first | (simp [asInt] at hi; done) | (simp [asStr] at hs; done) | (cases b' <;> rfl)
theorem le_iff (a b : Int) : (!iLt b a) = decide (a ≤ b) := by
  rw [iLt_eq]
  by_cases h : a ≤ b
  · have : ¬ b < a := by omega
    simp [h, this]
  · have : b < a := by omega
    simp [h, this]
theorem shl_run (k m k2) (n : Nat) : (Go.binOp .shl t (.int k m) (.int k2 (n : Int))).run P w = .ok (shlI k m n) w := by
  have : ¬ ((n : Int) < 0) := by omega
  simp [Go.binOp, Op.shift, this, shlI]
theorem shr_run (k m k2) (n : Nat) : (Go.binOp .shr t (.int k m) (.int k2 (n : Int))).run P w = .ok (shrI k m n) w := by
  have : ¬ ((n : Int) < 0) := by omega
  simp [Go.binOp, Op.shift, this, shrI]
include hE
theorem binF_ok {op : BinOp} (hx : binF op E t x y a b h = some (r, h1)) (hob : OB h1) (hr : Rel P.cellsOf ρ h w) (ha : VR ρ a a') (hb : VR ρ b b') : OB h ∧ BinD P op t x y a' b' ρ h w r h1 := by
  have keep : ∀ {op : BinOp}, h1 = h ∧ BinD P op t x y a' b' ρ h w r h1 → OB h ∧ BinD P op t x y a' b' ρ h w r h1 := fun ⟨k1, k2⟩ => ⟨k1 ▸ hob, k2⟩
  cases op with
  | add => exact either_ok (fun k m n => by simp [Go.binOp, Op.intArith, addI]) (fun _ _ _ => .int _ _) (fun s u h2 h3 => addS_ok s u hr h2 h3) hx hob hr ha hb
  | sub => exact keep (ints_ok (fun k m n => by simp [Go.binOp, Op.intArith, subI]) (fun _ _ _ => .int _ _) hx hr ha hb)
  | mul => exact keep (ints_ok (fun k m n => by simp [Go.binOp, Op.intArith, mulI]) (fun _ _ _ => .int _ _) hx hr ha hb)
  | quo =>
    have hx' : (match notZero b with | true => ints quoI a b h | false => none) = some (r, h1) := hx
    cases hz : notZero b with
    | false => rw [hz] at hx'; simp at hx'
    | true =>
      rw [hz] at hx'
      obtain ⟨k, n, hbe, hn⟩ := notZero_some hz hb
      refine keep ?_
      simp only at hx'
      unfold ints at hx'
      cases hi : asInt a with
      | none => rw [hi] at hx'; simp at hx'
      | some i =>
        rw [hi] at hx'
        obtain ⟨rfl, rfl⟩ := asInt_VR hi ha
        simp only at hx'
        cases hj : asInt b with
        | none => rw [hj] at hx'; simp at hx'
        | some j =>
          rw [hj] at hx'
          obtain ⟨rfl, rfl⟩ := asInt_VR hj hb
          obtain ⟨hk, rfl, rfl⟩ := two_some hx'
          cases hbe
          refine ⟨rfl, Did.same hr ?_ (.int _ _)⟩
          rw [← hk]
          simp [eqGuard_at_int, Go.binOp, Op.intDiv, hn, quoI]
  | rem =>
    have hx' : (match notZero b with | true => ints remI a b h | false => none) = some (r, h1) := hx
    cases hz : notZero b with
    | false => rw [hz] at hx'; simp at hx'
    | true =>
      rw [hz] at hx'
      obtain ⟨k, n, hbe, hn⟩ := notZero_some hz hb
      refine keep ?_
      simp only at hx'
      unfold ints at hx'
      cases hi : asInt a with
      | none => rw [hi] at hx'; simp at hx'
      | some i =>
        rw [hi] at hx'
        obtain ⟨rfl, rfl⟩ := asInt_VR hi ha
        simp only at hx'
        cases hj : asInt b with
        | none => rw [hj] at hx'; simp at hx'
        | some j =>
          rw [hj] at hx'
          obtain ⟨rfl, rfl⟩ := asInt_VR hj hb
          obtain ⟨hk, rfl, rfl⟩ := two_some hx'
          cases hbe
          refine ⟨rfl, Did.same hr ?_ (.int _ _)⟩
          rw [← hk]
          simp [eqGuard_at_int, Go.binOp, Op.intDiv, hn, remI]
  | and => exact keep (ints_ok (fun k m n => by simp [Go.binOp, Op.intBits, andI]) (fun _ _ _ => .int _ _) hx hr ha hb)
  | or => exact keep (ints_ok (fun k m n => by simp [Go.binOp, Op.intBits, orI]) (fun _ _ _ => .int _ _) hx hr ha hb)
  | xor => exact keep (ints_ok (fun k m n => by simp [Go.binOp, Op.intBits, xorI]) (fun _ _ _ => .int _ _) hx hr ha hb)
  | andNot => exact keep (ints_ok (fun k m n => by simp [Go.binOp, Op.intBits, andNotI]) (fun _ _ _ => .int _ _) hx hr ha hb)
  | shl => exact keep (shft_ok shl_run (fun _ _ _ => .int _ _) hx hr ha hb)
  | shr => exact keep (shft_ok shr_run (fun _ _ _ => .int _ _) hx hr ha hb)
  | lss => exact either_ok (fun k m n => by simp [Go.binOp, Op.intCmp, ltI, iLt_eq]) (fun _ _ _ => .bool _) (fun s u h2 h3 => cmpS_ok (c := fun a b => Op.bytesLess a b) s u hr (by simp [Go.binOp, Op.stringOp, ByteArray.toList_eq]) h2 h3) hx hob hr ha hb
  | leq => exact either_ok (fun k m n => by simp [Go.binOp, Op.intCmp, leI, le_iff]) (fun _ _ _ => .bool _) (fun s u h2 h3 => cmpS_ok (c := fun a b => Op.bytesLess a b || bytesEq a b) s u hr (by simp [Go.binOp, Op.stringOp, ByteArray.toList_eq, bytesEq_beq]) h2 h3) hx hob hr ha hb
  | gtr => exact either_ok (fun k m n => by simp [Go.binOp, Op.intCmp, gtI, iLt_eq]) (fun _ _ _ => .bool _) (fun s u h2 h3 => cmpS_ok (c := fun a b => !(Op.bytesLess a b || bytesEq a b)) s u hr (by simp [Go.binOp, Op.stringOp, ByteArray.toList_eq, bytesEq_beq]) h2 h3) hx hob hr ha hb
  | geq => exact either_ok (fun k m n => by simp [Go.binOp, Op.intCmp, geI, le_iff]) (fun _ _ _ => .bool _) (fun s u h2 h3 => cmpS_ok (c := fun a b => !Op.bytesLess a b) s u hr (by simp [Go.binOp, Op.stringOp, ByteArray.toList_eq]) h2 h3) hx hob hr ha hb
  | eql =>
    cases hi : asInt a with
    | some i =>
      have : ints eqI a b h = some (r, h1) := by unfold ints; rw [hi]; simpa [binF, bEql, hi] using hx
      exact keep (ints_ok (fun k m n => by simp [Go.binOp, Op.intCmp, eqI, iEq_eq, beq_eq_decide_int]) (fun _ _ _ => .bool _) this hr ha hb)
    | none =>
      cases hs : asStr a with
      | some l =>
        have : strs eqS a b h = some (r, h1) := by unfold strs; rw [hs]; simpa [binF, bEql, hi, hs] using hx
        exact strs_ok (fun s u h2 h3 => cmpS_ok (c := fun a b => bytesEq a b) s u hr (by simp [Go.binOp, Op.stringOp, ByteArray.toList_eq, bytesEq_beq]) h2 h3) this hob ha hb
      | none =>
        cases hok : eqOK x y a b with
        | false => simp [binF, bEql, hi, hs, hok] at hx
        | true =>
          cases hq : aeq E t a b with
          | none => simp [binF, bEql, hi, hs, hok, hq, retB] at hx
          | some c =>
            have hx' := hx
            simp [binF, bEql, hi, hs, hok, hq, retB] at hx'
            obtain ⟨rfl, rfl⟩ := hx'
            obtain ⟨k1, k2, _⟩ := aeq_ok hE (P := P) (w := w) hi hs hq hok ha hb
            exact ⟨hob, Did.same hr (by simp [k2, binOp_eql hi hs ha, k1]) (.bool _)⟩
  | neq =>
    cases hi : asInt a with
    | some i =>
      have : ints neI a b h = some (r, h1) := by unfold ints; rw [hi]; simpa [binF, bNeq, hi] using hx
      exact keep (ints_ok (fun k m n => by simp [Go.binOp, Op.intCmp, neI, iEq_eq, bne, beq_eq_decide_int]) (fun _ _ _ => .bool _) this hr ha hb)
    | none =>
      cases hs : asStr a with
      | some l =>
        have : strs neS a b h = some (r, h1) := by unfold strs; rw [hs]; simpa [binF, bNeq, hi, hs] using hx
        exact strs_ok (fun s u h2 h3 => cmpS_ok (c := fun a b => !bytesEq a b) s u hr (by simp [Go.binOp, Op.stringOp, ByteArray.toList_eq, bytesEq_beq]) h2 h3) this hob ha hb
      | none =>
        cases hok : eqOK x y a b with
        | false => simp [binF, bNeq, hi, hs, hok] at hx
        | true =>
          cases hq : aeq E t a b with
          | none => simp [binF, bNeq, hi, hs, hok, hq, retNB] at hx
          | some c =>
            have hx' := hx
            simp [binF, bNeq, hi, hs, hok, hq, retNB] at hx'
            obtain ⟨rfl, rfl⟩ := hx'
            obtain ⟨k1, k2, _⟩ := aeq_ok hE (P := P) (w := w) hi hs hq hok ha hb
            exact ⟨hob, Did.same hr (by simp [k2, binOp_neq hi hs ha, k1]) (.bool _)⟩
end
end Go.Proofs.YtkmbkejmfffafaaGreatDoor.Refl
/- The second reading against the model: unary operators, conversions, interfaces, iterators. -/
namespace Go.Proofs.YtkmbkejmfffafaaGreatDoor.Refl
open Go
set_option linter.unusedVariables false
set_option linter.unusedSimpArgs false

section
variable {P : Program} {t : TypeId} {a a' r : Value} {h h1 : AH} {ρ : Ren} {w : World}
theorem unF_ok {op : UnOp} (hx : unF op a h = some (r, h1)) (hr : Rel P.cellsOf ρ h w) (ha : VR ρ a a') : h1 = h ∧ Did P (Op.unary op a') ρ h w r h1 := by
  cases op with
  | plus => simp [unF] at hx
  | neg =>
    unfold unF at hx
    cases hi : asInt a with
    | none => simp [hi] at hx
    | some i =>
      obtain ⟨rfl, rfl⟩ := asInt_VR hi ha
      simp [hi, negI] at hx
      obtain ⟨rfl, rfl⟩ := hx
      exact ⟨rfl, Did.same hr (by simp [Op.unary, Op.intArith]) (.int _ _)⟩
  | xor =>
    unfold unF at hx
    cases hi : asInt a with
    | none => simp [hi] at hx
    | some i =>
      obtain ⟨rfl, rfl⟩ := asInt_VR hi ha
      simp only [hi, notI] at hx
      have hx' := Option.some.inj hx
      obtain ⟨rfl, rfl⟩ := Prod.mk.inj hx'
      exact ⟨rfl, Did.same hr (by simp [Op.unary, Op.intBits]) (.int _ _)⟩
  | not =>
    unfold unF at hx
    cases hi : asBool a with
    | none => simp [hi] at hx
    | some i =>
      obtain ⟨rfl, rfl⟩ := asBool_VR hi ha
      simp [hi] at hx
      obtain ⟨rfl, rfl⟩ := hx
      exact ⟨rfl, Did.same hr (by simp [Op.unary]) (.bool _)⟩

/- Rows that lie whole. -/
theorem lies_row {e : TypeId} {s : Nat} (hc : P.cellsOf e = s) (h0 : s ≠ 0) (count i n : Nat) (hn : i + n ≤ count) : liesAt P P.depth e count (i * s) e n = true := by
  have hd : P.depth = (2 * (P.types.size + Made.depth) + 1) + 1 := rfl
  rw [hd]
  simp only [liesAt, Bool.or_eq_true]
  left
  rw [hd]
  have h1 : i * s / s = i := Nat.mul_div_cancel i (by omega)
  simp [rowAt, hc, h0, hn, h1, sameLayout]
theorem Rel.shape (r : Rel P.cellsOf ρ h w) {b i : Nat} {im : Im} {v : Value} (hb : ρ b = some im) (hc : (h.obj b).cell i = some v) :
    ∃ e n, w.shape? im.blk = some (e, n) ∧ im.sh + i < n ∧ elemOf (h.obj b) = some e := by
  have hd : h.obj b ≠ .dead := fun e => by rw [e] at hc; simp [AObj.cell] at hc
  obtain ⟨e, fz, kd, n, ⟨cs', lo, hi, h1, h2, _⟩, h3, _⟩ := cell_row hc (r.obj b im hb (r.lt hd))
  obtain ⟨_, v', h4, _⟩ := h2 i v hc
  exact ⟨e, cs'.size, by simp [World.shape?, h1], (Array.getElem?_eq_some_iff.1 h4).1, h3⟩

/-- A byte's type has one cell. -/
theorem u8_one {t : TypeId} {ti : TI} {info : TypeInfo} (T : TA P t ti info) (hb : ti.u8 = true) : ti.size = 1 := by
  rw [T.size]
  exact T.u8 (by have := T.e; subst this; exact hb)
variable {E : Env} (hE : EnvT P E)
theorem cInt_ok {src dst : TypeId} {si di : TI} {sinfo dinfo : TypeInfo} (S : TA P src si sinfo) (D : TA P dst di dinfo) (hk : Nat.beq di.kd 2 = true) (hx : cInt di.ik a h = some (r, h1)) (hr : Rel P.cellsOf ρ h w) (ha : VR ρ a a') :
    h1 = h ∧ Did P (Go.convert src dst a') ρ h w r h1 := by
  unfold cInt at hx
  cases hi : asInt a with
  | none => simp [hi] at hx
  | some i =>
    obtain ⟨rfl, rfl⟩ := asInt_VR hi ha
    simp [hi] at hx
    obtain ⟨rfl, rfl⟩ := hx
    refine ⟨rfl, Did.same hr ?_ (.int _ _)⟩
    simp [Go.convert, S.run_u, D.run_u, D.isInt hk, Conv.intToInt]
include hE
theorem isBytesT_u {ti : TI} {t : TypeId} {info : TypeInfo} (T : TA P t ti info) (hb : isBytesT E ti = true) : P.underlying t = some (.slice ti.el) ∧ P.underlying ti.el = some (.int .u8) := by
  unfold isBytesT at hb
  cases hk : Nat.beq ti.kd 5 with
  | false => rw [hk] at hb; simp at hb
  | true =>
    rw [hk] at hb
    simp only at hb
    cases hte : E.ty.get ti.el with
    | none => rw [hte] at hb; simp at hb
    | some ei =>
      rw [hte] at hb
      obtain ⟨einfo, TE⟩ := hE.at hte
      exact ⟨(T.isSlice hk) ▸ T.hu, (TE.isU8 hb) ▸ TE.hu⟩
omit hE in
theorem bytesAt_run {q : List UInt8} {s : SL} {l : List UInt8} {p : PA} {im : Im} (hx : tk s.n (drp p.off l) = some q) (hr : Rel P.cellsOf ρ h w) (hb : ρ p.b = some im) (hl : bytesOf (h.obj p.b) = some l) :
    q.length = s.n ∧ ∀ j (hj : j < q.length), w.cell? ((⟨im.blk, im.sh + p.off, none⟩ : Addr).add j) = some (.int .u8 (q[j].toNat : Int)) := by
  obtain ⟨h2, h3⟩ := tkdrp hx
  refine ⟨h2, fun j hj => ?_⟩
  have h4 := h3 j (by omega)
  rw [List.getElem?_eq_getElem hj] at h4
  have h5 : (h.obj p.b).cell (p.off + j) = some (u8v q[j]) := by rw [bytesOf_cell hl, ← h4]; rfl
  obtain ⟨v', h6, h7, _⟩ := hr.cell hb h5
  rw [Addr.add_lit]
  rw [show im.sh + p.off + j = im.sh + (p.off + j) by omega, h6, u8v_VR h7]; rfl
theorem cStr_ok {src dst : TypeId} {si di : TI} {sinfo dinfo : TypeInfo} (S : TA P src si sinfo) (D : TA P dst di dinfo) (hk : Nat.beq di.kd 3 = true) (hx : cStr E si a h = some (r, h1)) (hr : Rel P.cellsOf ρ h w) (ha : VR ρ a a') :
    h1 = h ∧ Did P (Go.convert src dst a') ρ h w r h1 := by
  unfold cStr at hx
  have hdst := D.isString hk
  cases hs : asStr a with
  | some l =>
    obtain ⟨s, rfl, rfl, rfl⟩ := asStr_VR hs ha
    simp [hs] at hx
    obtain ⟨rfl, rfl⟩ := hx
    refine ⟨rfl, Did.same hr ?_ (.string s)⟩
    simp only [Go.convert, Sem.run_bind, S.run_u, D.run_u, Result.andThen_ok, hdst]
    cases descOf P sinfo <;> rfl
  | none =>
    cases hi : asInt a with
    | some i =>
      obtain ⟨rfl, rfl⟩ := asInt_VR hi ha
      simp only [hs, hi] at hx
      rw [fin_eq _ _ _ _ (forceL_eq _ _)] at hx
      simp at hx
      obtain ⟨rfl, rfl⟩ := hx
      refine ⟨rfl, Did.same hr ?_ (.string (Utf8.encode i.n))⟩
      simp only [Go.convert, Sem.run_bind, S.run_u, D.run_u, Result.andThen_ok, hdst]
      cases descOf P sinfo <;> rfl
    | none =>
      simp only [hs, hi] at hx
      cases hbt : isBytesT E si with
      | false => simp [hbt] at hx
      | true =>
        obtain ⟨hsu, heu⟩ := isBytesT_u hE S hbt
        have hdu : P.underlying dst = some .string := hdst ▸ D.hu
        simp only [hbt] at hx
        cases hsl : asSl a with
        | none => simp [hsl] at hx
        | some s =>
          simp only [hsl] at hx
          obtain ⟨q, hq, rfl, rfl⟩ := retStr_some hx
          refine ⟨rfl, ?_⟩
          unfold bytesAt at hq
          rw [bq] at hq
          by_cases h0 : s.n = 0
          · simp [h0] at hq
            subst hq
            refine Did.same hr ?_ (.string _)
            have hemp : (.ok (.string .empty) w : Result Value) = .ok (strV []) w := rfl
            rcases asSl_VR hsl ha with ⟨rfl, rfl⟩ | ⟨p, im, _, _, _, _, rfl⟩ | ⟨p, im, a2, c2, _, _, _, _, rfl, _⟩
            · rw [run_convert_bytes_string w src dst si.el none 0 0 hsu heu hdu]; rfl
            · have := run_convert_bytes_back (P := P) w src dst si.el ⟨im.blk, im.sh + p.off, none⟩ s.c [] hsu heu hdu (fun j hj => by simp at hj)
              rw [h0]; exact this
            · have := run_convert_bytes_back (P := P) w src dst si.el a2 c2 [] hsu heu hdu (fun j hj => by simp at hj)
              rw [h0]; exact this
          · simp only [h0, decide_false] at hq
            cases hp : s.a with
            | none => simp [hp] at hq
            | some p =>
              simp only [hp] at hq
              cases hl : bytesOf (h1.obj p.b) with
              | none => simp [hl] at hq
              | some l =>
                simp only [hl] at hq
                rcases asSl_VR hsl ha with ⟨rfl, rfl⟩ | ⟨p2, im, h2, hb, _, _, rfl⟩ | ⟨p2, im, a2, c2, h2, hb, _, _, rfl, h3⟩
                · simp at h0
                · rw [hp] at h2; cases h2
                  obtain ⟨k1, k2⟩ := bytesAt_run hq hr hb hl
                  refine Did.same hr ?_ (.string _)
                  have := run_convert_bytes_back (P := P) w src dst si.el _ s.c q hsu heu hdu k2
                  rw [k1] at this
                  exact this
                · rw [hp] at h2; cases h2
                  rcases h3 with ⟨rfl, _⟩ | ⟨h4, _⟩
                  · obtain ⟨k1, k2⟩ := bytesAt_run hq hr hb hl
                    refine Did.same hr ?_ (.string _)
                    have := run_convert_bytes_back (P := P) w src dst si.el _ c2 q hsu heu hdu k2
                    rw [k1] at this
                    exact this
                  · exact absurd h4 h0
omit hE in
theorem strV_data (s : ByteArray) : strV s.data.toList = .string s := rfl
theorem u8_cells {ti : TI} {t : TypeId} {info : TypeInfo} (T : TA P t ti info) (hb : isBytesT E ti = true) : P.cellsOf ti.el = 1 := by
  unfold isBytesT at hb
  cases hk : Nat.beq ti.kd 5 with
  | false => rw [hk] at hb; simp at hb
  | true =>
    rw [hk] at hb
    simp only at hb
    cases hte : E.ty.get ti.el with
    | none => rw [hte] at hb; simp at hb
    | some ei =>
      rw [hte] at hb
      obtain ⟨einfo, TE⟩ := hE.at hte
      rw [TE.cells]
      exact u8_one TE hb
theorem cSl_ok {src dst : TypeId} {si di : TI} {sinfo dinfo : TypeInfo} (S : TA P src si sinfo) (D : TA P dst di dinfo) (hsk : Nat.beq si.kd 3 = true) (hx : cSl E di a h = some (r, h1)) (hr : Rel P.cellsOf ρ h w) (hf : Fr ρ h.n h1.n) (ha : VR ρ a a') :
    h1.ob = h.ob ∧ Did P (Go.convert src dst a') ρ h w r h1 := by
  unfold cSl at hx
  cases hs : asStr a with
  | none => simp [hs] at hx
  | some l =>
    obtain ⟨s, rfl, rfl, rfl⟩ := asStr_VR hs ha
    simp only [hs] at hx
    cases hbt : isBytesT E di with
    | false => simp [hbt] at hx
    | true =>
      obtain ⟨hdu, heu⟩ := isBytesT_u hE D hbt
      have hc1 := u8_cells hE D hbt
      simp [hbt] at hx
      obtain ⟨rfl, rfl⟩ := hx
      have h0 : ρ h.n = none := hf h.n (Nat.le_refl _) (by rw [alloc_n]; omega)
      have hsu : P.underlying src = some .string := (S.isString hsk) ▸ S.hu
      have hrun := run_bytes_of_string (P := P) w src dst di.el s hsu hdu heu
      have hge := grownCap_ge w s.size 0 di.el
      have hsz : (bytesRow s (grownCap w s.size 0 di.el)).size = grownCap w s.size 0 di.el := by
        have : s.data.size = s.size := rfl
        simp [bytesRow, this]; omega
      refine ⟨rfl, upd ρ h.n ⟨w.heap.size, 0, grownCap w s.size 0 di.el, 1⟩, _, _, hrun, ?_, ?_⟩
      · rw [len_eq]
        refine .slLoose (im := ⟨w.heap.size, 0, grownCap w s.size 0 di.el, 1⟩) rfl (upd_same _ _ _) (by show s.size ≤ _; exact hge) (.inl ⟨⟨rfl, rfl, _, upd_same _ _ _, rfl, rfl⟩, by simp⟩)
      · refine .alloc (x := .cells (bytesRow s (grownCap w s.size 0 di.el)) di.el ((bytesRow s (grownCap w s.size 0 di.el)).size, (bytesRow s (grownCap w s.size 0 di.el)).size + 1)) hr h0 rfl ⟨rfl, rfl, rfl⟩ rfl ?_
        refine ⟨bytesRow s (grownCap w s.size 0 di.el), (bytesRow s (grownCap w s.size 0 di.el)).size, (bytesRow s (grownCap w s.size 0 di.el)).size + 1, ?_, fun i v hi => ?_, ⟨fun j h1 h2 h3 => by omega, fun h => absurd rfl h⟩, by rw [hsz]; exact Nat.le_refl _, hc1.symm, fun h => by cases h⟩
        · exact heap_alloc_new w.drew _
        · rw [bytesOf_cell (l := s.data.toList) rfl] at hi
          cases hj : s.data.toList[i]? with
          | none => rw [hj] at hi; simp at hi
          | some b =>
            rw [hj] at hi; simp at hi
            obtain ⟨hlt, he⟩ := List.getElem?_eq_some_iff.1 hj
            subst hi
            have hlt' : i < s.data.size := by simpa using hlt
            refine ⟨rfl, u8v b, ?_, .int _ _⟩
            rw [Nat.zero_add, bytesRow_at s _ i hlt']
            have : s.data[i] = b := by simpa using he
            rw [this]; rfl
end
end Go.Proofs.YtkmbkejmfffafaaGreatDoor.Refl
/- The second reading against the model: conversions, interfaces, iterators, maps. -/
namespace Go.Proofs.YtkmbkejmfffafaaGreatDoor.Refl
open Go
set_option linter.unusedVariables false
set_option linter.unusedSimpArgs false

section
variable {P : Program} {t : TypeId} {a a' r : Value} {h h1 : AH} {ρ : Ren} {w : World} {E : Env} (hE : EnvT P E)
include hE
theorem cUns_ok {src dst : TypeId} {si di : TI} {sinfo dinfo : TypeInfo} (S : TA P src si sinfo) (D : TA P dst di dinfo) (hk : Nat.beq di.kd 11 = true) (hx : cUns E si a h = some (r, h1)) (hr : Rel P.cellsOf ρ h w) (ha : VR ρ a a') :
    h1 = h ∧ Did P (Go.convert src dst a') ρ h w r h1 := by
  unfold cUns at hx
  cases hp : asPtr a with
  | none => simp [hp] at hx
  | some p =>
    obtain ⟨im, hb, rfl⟩ := asPtr_VR hp ha
    simp only [hp] at hx
    cases hk4 : Nat.beq si.kd 4 with
    | false => simp [hk4] at hx
    | true =>
      simp only [hk4] at hx
      cases hte : E.ty.get si.el with
      | none => simp [hte] at hx
      | some ui =>
        obtain ⟨uinfo, U⟩ := hE.at hte
        simp only [hte, bq] at hx
        by_cases h0 : ui.size = 0
        · simp [h0] at hx
        · simp only [h0, decide_false] at hx
          cases hc : (h.obj p.b).cell p.off with
          | none => simp [hc] at hx
          | some v =>
            simp [hc] at hx
            obtain ⟨rfl, rfl⟩ := hx
            obtain ⟨v', h2, h3, _⟩ := hr.cell hb hc
            refine ⟨rfl, Did.same hr (run_convert_to_unsafe ((S.isPointer hk4) ▸ S.hu) ((D.isUnsafe hk) ▸ D.hu) ?_ h2) (VR.ptr_mk hb)⟩
            rw [U.hi]
            have : uinfo.size ≠ 0 := by rw [← U.size]; exact h0
            simp [this]
theorem cPtr_ok {src dst : TypeId} {si di : TI} {sinfo dinfo : TypeInfo} (S : TA P src si sinfo) (D : TA P dst di dinfo) (hk : Nat.beq di.kd 4 = true) (hx : cPtr E si di a h = some (r, h1)) (hr : Rel P.cellsOf ρ h w) (ha : VR ρ a a') :
    h1 = h ∧ Did P (Go.convert src dst a') ρ h w r h1 := by
  unfold cPtr at hx
  cases hp : asPtr a with
  | none => simp [hp] at hx
  | some p =>
    obtain ⟨im, hb, rfl⟩ := asPtr_VR hp ha
    simp only [hp] at hx
    cases hk4 : Nat.beq si.kd 11 with
    | false => simp [hk4] at hx
    | true =>
      simp only [hk4, bq] at hx
      by_cases ho : p.off = 0
      · simp only [ho, decide_true] at hx
        cases hte : E.ty.get di.el with
        | none => simp [hte] at hx
        | some ui =>
          obtain ⟨uinfo, U⟩ := hE.at hte
          simp only [hte] at hx
          by_cases h0 : ui.size = 0
          · simp [h0] at hx
          · simp only [h0, decide_false] at hx
            cases ht : tightOf (h.obj p.b) di.el ui.size with
            | false => simp [ht] at hx
            | true =>
              simp [ht] at hx
              obtain ⟨rfl, rfl⟩ := hx
              cases hob : h.obj p.b with
              | cells cs e fz kd =>
                rw [hob] at ht
                simp only [tightOf, bq] at ht
                by_cases hkd : kd = 0
                · simp only [hkd, decide_true] at ht
                  by_cases hel : e = di.el
                  · simp [hel, len_eq] at ht
                    have hd : h.obj p.b ≠ .dead := by rw [hob]; simp
                    have hrow : OR P.cellsOf ρ w im (h.obj p.b) := hr.obj p.b im hb (hr.lt hd)
                    rw [hob] at hrow
                    obtain ⟨cs', lo, hi, h2, h3, h4, h5, h6, h7⟩ := hrow
                    obtain ⟨h8, h9, _⟩ := h7 hkd
                    refine ⟨rfl, Did.same hr ?_ (VR.ptr_mk hb)⟩
                    rw [h8, ho]
                    refine Go.Lib.run_from_unsafe w _ ((S.isUnsafe hk4) ▸ S.hu) ((D.isPointer hk) ▸ D.hu) U.hi (e := di.el) (cells := ui.size) ?_ ?_
                    · simp [World.shape?, h2, h9, ht, hel]
                    · have hc : P.cellsOf di.el = ui.size := U.cells
                      have := lies_row hc h0 (ui.size / P.cellsOf di.el) 0 1 (by rw [hc, Nat.div_self (by omega)]; omega)
                      simpa using this
                  · simp [hel] at ht
                · simp [hkd] at ht
              | dead => rw [hob] at ht; simp [tightOf] at ht
              | bytes l e fz kd => rw [hob] at ht; simp [tightOf] at ht
              | map es c => rw [hob] at ht; simp [tightOf] at ht
              | siter s q => rw [hob] at ht; simp [tightOf] at ht
      · simp [ho] at hx
theorem cSame_ok {src dst : TypeId} {si di : TI} {sinfo dinfo : TypeInfo} (S : TA P src si sinfo) (D : TA P dst di dinfo) (hsk : Nat.beq si.kd 5 = true) (hx : cSame E src dst di a h = some (r, h1)) (hr : Rel P.cellsOf ρ h w) (ha : VR ρ a a') :
    h1.ob = h.ob ∧ Did P (Go.convert src dst a') ρ h w r h1 := by
  unfold cSame at hx
  cases hsd : Nat.beq src dst with
  | false => simp [hsd] at hx
  | true =>
    obtain rfl := Nat.eq_of_beq_eq_true hsd
    simp only [hsd] at hx
    cases hbt : isBytesT E di with
    | false => simp [hbt] at hx
    | true =>
      obtain ⟨hdu, heu⟩ := isBytesT_u hE D hbt
      simp only [hbt] at hx
      cases hsl : asSl a with
      | none => simp [hsl] at hx
      | some s =>
        simp only [hsl] at hx
        cases hp : s.a with
        | none => simp [hp] at hx
        | some p =>
          simp only [hp] at hx
          cases hlo : loose s.c with
          | true => simp [hlo] at hx
          | false =>
          simp only [hlo] at hx
          cases ho : h.obj p.b with
          | bytes l e fz kd =>
            rw [ho] at hx
            simp only [cSame1] at hx
            cases hkd : Nat.beq kd 0 with
            | false => simp [hkd] at hx
            | true =>
              obtain rfl := Nat.eq_of_beq_eq_true hkd
              simp only [hkd] at hx
              cases hfz : Nat.beq fz 0 with
              | false => simp [hfz] at hx
              | true =>
                obtain rfl := Nat.eq_of_beq_eq_true hfz
                simp only [hfz, Option.some.injEq, Prod.mk.injEq] at hx
                obtain ⟨rfl, rfl⟩ := hx
                have hd : h.obj p.b ≠ .dead := by rw [ho]; simp
                have main : ∀ (im : Im) (off n c : Nat), ρ p.b = some im → a' = .slice (some ⟨im.blk, off, none⟩) n c → h.ob = h.ob ∧ Did P (Go.convert src src a') ρ h w a (h.write p.b (.bytes l e 0 2)) := by
                  intro im off n c hb e1
                  subst e1
                  have hlt := hr.lt hd
                  have hrow : OR P.cellsOf ρ w im (h.obj p.b) := hr.obj p.b im hb hlt
                  rw [ho] at hrow
                  obtain ⟨cs', lo, hi, h2, h3, h4, h5, h6, h7⟩ := hrow
                  obtain ⟨h8, h9, h10⟩ := h7 rfl
                  have hlh : lo = hi := h10 rfl
                  have hrun : (Go.convert src src (.slice (some ⟨im.blk, off, none⟩) n c)).run P w = .ok (.slice (some ⟨im.blk, off, none⟩) n c) (w.freeze ⟨im.blk, cs'.size, none⟩ 1) := by
                    simp [Go.convert, run_underlying hdu, run_underlying heu, markStringish, World.shape?, h2]
                  have hsame : (w.freeze ⟨im.blk, cs'.size, none⟩ 1).heap[im.blk]? = some (.cells cs' e (cs'.size, cs'.size + 1)) := by
                    simp [World.freeze, Array.getElem?_modify, h2, hlh]
                  refine ⟨rfl, ρ, _, _, hrun, ha, ?_⟩
                  refine Step.write hr hb hlt hd (by simp [World.freeze]) (fun c hc => ?_) ⟨by simp [World.freeze], by simp [World.freeze], by simp [World.freeze]⟩ ?_
                  · have : im.blk ≠ c := fun e => hc e.symm
                    simp [World.freeze, Array.getElem?_modify, this]
                  · exact ⟨cs', cs'.size, cs'.size + 1, hsame, h3, ⟨fun j h1 h2 h3 => by omega, fun h => absurd rfl h⟩, h5, h6, fun h => by cases h⟩
                rcases asSl_VR hsl ha with ⟨k, _⟩ | ⟨q, im, k1, k2, _, _, k3⟩ | ⟨q, im, a2, c2, k1, k2, hcl, _, k3, k4⟩
                · rw [k] at hp; cases hp
                · rw [k1] at hp; cases hp; exact main im _ _ _ k2 k3
                · rw [k1] at hp; cases hp
                  rw [hcl] at hlo
                  simp [loose, LOOSE] at hlo
          | _ => rw [ho] at hx; simp [cSame1] at hx
theorem aconvert_ok {src dst : TypeId} (hx : aconvert E src dst a h = some (r, h1)) (hr : Rel P.cellsOf ρ h w) (hf : Fr ρ h.n h1.n) (ha : VR ρ a a') :
    h1.ob = h.ob ∧ Did P (Go.convert src dst a') ρ h w r h1 := by
  have keep : ∀ {Q : Prop}, h1 = h ∧ Q → h1.ob = h.ob ∧ Q := fun ⟨k, q⟩ => ⟨by rw [k], q⟩
  unfold aconvert at hx
  cases hd : E.ty.get dst with
  | none => simp [hd] at hx
  | some di =>
    obtain ⟨dinfo, D⟩ := hE.at hd
    simp only [hd] at hx
    cases hs : E.ty.get src with
    | none => simp [hs] at hx
    | some si =>
      obtain ⟨sinfo, S⟩ := hE.at hs
      simp only [hs] at hx
      cases h2 : Nat.beq di.kd 2 with
      | true => simp only [h2] at hx; exact keep (cInt_ok S D h2 hx hr ha)
      | false =>
        simp only [h2] at hx
        cases h3 : Nat.beq di.kd 3 with
        | true => simp only [h3] at hx; exact keep (cStr_ok hE S D h3 hx hr ha)
        | false =>
          simp only [h3] at hx
          cases h5 : Nat.beq di.kd 5 with
          | true =>
            simp only [h5] at hx
            cases h3' : Nat.beq si.kd 3 with
            | false =>
              simp only [h3'] at hx
              cases h5' : Nat.beq si.kd 5 with
              | false => simp [h5'] at hx
              | true => simp only [h5'] at hx; exact cSame_ok hE S D h5' hx hr ha
            | true => simp only [h3'] at hx; exact cSl_ok hE S D h3' hx hr hf ha
          | false =>
            simp only [h5] at hx
            cases h11 : Nat.beq di.kd 11 with
            | true => simp only [h11] at hx; exact keep (cUns_ok hE S D h11 hx hr ha)
            | false =>
              simp only [h11] at hx
              cases h4 : Nat.beq di.kd 4 with
              | true => simp only [h4] at hx; exact keep (cPtr_ok hE S D h4 hx hr ha)
              | false => simp [h4] at hx
theorem amakeIface_ok (hx : amakeIface E t a h = some (r, h1)) (hr : Rel P.cellsOf ρ h w) (ha : VR ρ a a') : h1 = h ∧ Did P (Instr.makeInterface t a') ρ h w r h1 := by
  unfold amakeIface at hx
  cases hd : E.ty.get t with
  | none => simp [hd] at hx
  | some ti =>
    obtain ⟨info, T⟩ := hE.at hd
    simp only [hd] at hx
    cases hk : Nat.beq ti.kd 10 with
    | true => simp [hk] at hx
    | false =>
      simp [hk] at hx
      obtain ⟨rfl, rfl⟩ := hx
      refine ⟨rfl, Did.same hr ?_ (.iface ha)⟩
      rw [bq, T.kd] at hk
      simp only [Instr.makeInterface, Sem.run_bind, T.run_u, Result.andThen_ok]
      cases hdd : descOf P info <;> first | rfl | (rw [hdd] at hk; simp [kdOf] at hk)
omit hE in
theorem anilCheck_ok (hx : anilCheck a h = some (r, h1)) (ha : VR ρ a a') : h1 = h ∧ r = a ∧ ((∃ q, a' = .pointer (some q)) ∨ ∃ f x y, a' = .func (.func f) x y) := by
  unfold anilCheck at hx
  cases hp : asPtr a with
  | some p =>
    obtain ⟨im, hb, rfl⟩ := asPtr_VR hp ha
    simp [hp] at hx
    obtain ⟨rfl, rfl⟩ := hx
    exact ⟨rfl, (asPtr_some hp).symm, .inl ⟨_, rfl⟩⟩
  | none =>
    simp only [hp] at hx
    cases hfn : isFunc a with
    | false => simp [hfn] at hx
    | true =>
      simp [hfn] at hx
      obtain ⟨rfl, rfl⟩ := hx
      cases ha with
      | func h1 h2 => exact ⟨rfl, rfl, .inr ⟨_, _, _, rfl⟩⟩
      | _ => simp [isFunc] at hfn
omit hE in
theorem aextract_ok {i : Nat} (hx : (match asTup a with | some vs => retO h (nth vs i) | none => none) = some (r, h1)) (hr : Rel P.cellsOf ρ h w) (ha : VR ρ a a') : h1 = h ∧ Did P (Instr.extract a' i) ρ h w r h1 := by
  cases ht : asTup a with
  | none => simp [ht] at hx
  | some vs =>
    obtain ⟨cs', rfl, hl⟩ := asTup_VR ht ha
    simp only [ht] at hx
    obtain ⟨h2, rfl⟩ := retO_some hx
    rw [nth_eq] at h2
    obtain ⟨v', h3, h4⟩ := hl.get h2
    rw [Array.getElem?_toList] at h3
    exact ⟨rfl, Did.same hr (by simp [Instr.extract, h3]) h4⟩
omit hE in
theorem amakeMap_ok (hr : Rel P.cellsOf ρ h w) (hf : Fr ρ h.n (h.n + 1)) : Did P (Instr.makeMap t none) ρ h w (.map (some h.n)) (h.alloc (.map [] 0)) := by
  have h0 : ρ h.n = none := hf h.n (Nat.le_refl _) (by omega)
  refine ⟨upd ρ h.n ⟨w.heap.size, 0, 0, 0⟩, .map (some w.heap.size), w.alloc (.map #[] 0), ?_, .map (upd_same _ _ _) rfl, ?_⟩
  · simp [Instr.makeMap]
  · exact .alloc (x := .map #[] 0) hr h0 rfl ⟨rfl, rfl, rfl⟩ rfl ⟨#[], heap_alloc_new w _, .nil⟩
theorem arange_ok (hx : arange E t a h = some (r, h1)) (hr : Rel P.cellsOf ρ h w) (hf : Fr ρ h.n h1.n) (ha : VR ρ a a') : h1.ob = h.ob ∧ Did P (Instr.range t a') ρ h w r h1 := by
  unfold arange at hx
  cases hd : E.ty.get t with
  | none => simp [hd] at hx
  | some ti =>
    obtain ⟨info, T⟩ := hE.at hd
    simp only [hd] at hx
    cases hk : Nat.beq ti.kd 3 with
    | false => simp [hk] at hx
    | true =>
      simp only [hk] at hx
      cases hs : asStr a with
      | none => simp [hs] at hx
      | some l =>
        obtain ⟨s, rfl, rfl, rfl⟩ := asStr_VR hs ha
        simp [hs] at hx
        obtain ⟨rfl, rfl⟩ := hx
        have h0 : ρ h.n = none := hf h.n (Nat.le_refl _) (by rw [alloc_n]; omega)
        refine ⟨rfl, upd ρ h.n ⟨w.heap.size, 0, 0, 0⟩, .pointer (some ⟨w.heap.size, 0, none⟩), w.alloc (.stringIter s 0), ?_, ?_, ?_⟩
        · simp [Instr.range, T.run_u, T.isString hk]
        · exact VR.ptr_mk (im := ⟨w.heap.size, 0, 0, 0⟩) (upd_same _ _ _)
        · exact .alloc (x := .stringIter s 0) hr h0 rfl ⟨rfl, rfl, rfl⟩ rfl ⟨rfl, heap_alloc_new w _⟩
omit hE in
theorem set_obj (w : World) (b : Nat) (o : Obj) (hb : b < w.heap.size) : ({ w with heap := w.heap.setIfInBounds b o } : World).heap[b]? = some o ∧ ∀ c, c ≠ b → ({ w with heap := w.heap.setIfInBounds b o } : World).heap[c]? = w.heap[c]? := by
  refine ⟨?_, fun c hc => ?_⟩
  · show (w.heap.setIfInBounds b o)[b]? = _
    simp [Array.getElem?_setIfInBounds, hb]
  · show (w.heap.setIfInBounds b o)[c]? = _
    rw [Array.getElem?_setIfInBounds, if_neg (by omega)]
omit hE in
theorem anext_ok {ty : TypeId} (hx : anext a h = some (r, h1)) (hr : Rel P.cellsOf ρ h w) (ha : VR ρ a a') : h1.ob = h.ob ∧ Did P (Instr.next a' true ty) ρ h w r h1 := by
  unfold anext at hx
  cases hp : asPtr a with
  | none => simp [hp] at hx
  | some p =>
    obtain ⟨im, hb, rfl⟩ := asPtr_VR hp ha
    simp only [hp, bq] at hx
    by_cases ho : p.off = 0
    · simp only [ho, decide_true] at hx
      cases hob : h.obj p.b with
      | siter s pos =>
        simp only [hob, siterOf] at hx
        have hd : h.obj p.b ≠ .dead := by rw [hob]; simp
        have hlt := hr.lt hd
        have hrow := hr.obj p.b im hb hlt
        rw [hob] at hrow
        obtain ⟨hsh, hw⟩ := hrow
        have hget : (getObj im.blk).run P w = .ok (.stringIter s pos) w := by simp [getObj, Sem.run, hw]
        have hset : ∀ o, (setObj im.blk o).run P w = .ok () { w with heap := w.heap.setIfInBounds im.blk o } := fun o => by simp [setObj, Sem.run, hw]
        rw [blt_eq, len_eq] at hx
        have hls : s.data.toList.length = s.size := rfl
        rw [hls] at hx
        have h00 : im.sh + p.off = 0 := by omega
        rw [h00]
        by_cases hpos : pos < s.size
        · simp only [hpos, decide_true, nextAt] at hx
          have hx' := Option.some.inj hx
          obtain ⟨rfl, rfl⟩ := Prod.mk.inj hx'
          obtain ⟨q1, q2⟩ := set_obj w im.blk (.stringIter s (pos + (Utf8.decode s pos).2)) (Array.getElem?_eq_some_iff.1 hw).1
          refine ⟨rfl, ρ, .tuple #[.bool true, goInt pos, .int .i32 (Utf8.decode s pos).1], _, ?_, .tuple (.cons (.bool _) (.cons (.int _ _) (.cons (.int _ _) .nil))), .write hr hb hlt hd (by simp) q2 ⟨rfl, rfl, rfl⟩ ⟨hsh, q1⟩⟩
          simp [Instr.next, hget, hpos, hset]
        · simp [hpos] at hx
          obtain ⟨rfl, rfl⟩ := hx
          exact ⟨rfl, Did.same hr (by simp [Instr.next, hget, hpos]) (.tuple (.cons (.bool _) .nil))⟩
      | dead => simp [hob, siterOf] at hx
      | bytes l e fz kd => simp [hob, siterOf] at hx
      | map es c => simp [hob, siterOf] at hx
      | cells cs e fz kd => simp [hob, siterOf] at hx
    · simp [ho] at hx
end
end Go.Proofs.YtkmbkejmfffafaaGreatDoor.Refl
