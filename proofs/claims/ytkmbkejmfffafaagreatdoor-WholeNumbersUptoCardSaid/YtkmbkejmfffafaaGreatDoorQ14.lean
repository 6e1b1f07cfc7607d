/- Texts joined by this session's own program, part 14. -/
import Derived.Test.YtkmbkejmfffafaaGreatDoorQ12
import Derived.Test.YtkmbkejmfffafaaGreatDoorQ13
set_option linter.unusedSectionVars false
set_option linter.unusedVariables false
set_option linter.unusedSimpArgs false
namespace Go.Proofs.YtkmbkejmfffafaaGreatDoor.Refl
open Go Go.RowKit
set_option linter.unusedVariables false
set_option linter.unusedSimpArgs false
set_option maxRecDepth 100000
noncomputable def xIn (plug : List (Nat × XF)) (n f : Nat) : XF := fun args h => match h with
  | ⟨t, n0, log, sym, cnt, orc, ob⟩ => match acall (envT plug) n f args ⟨t, n0, log, false, 0, [], ob⟩ with
    | none => none
    | some r => match r with
      | (v, ⟨t, n0, log, _, _, _, ob⟩) => some (v, ⟨t, n0, log, sym, cnt, orc, ob⟩)
theorem xIn_some {plug : List (Nat × XF)} {n f : Nat} {args : List Value} {h h1 : AH} {r : Value} (hx : xIn plug n f args h = some (r, h1)) :
    ∃ h2 h3, h2.t = h.t ∧ h2.n = h.n ∧ h2.log = h.log ∧ h2.ob = h.ob ∧ acall (envT plug) n f args h2 = some (r, h3) ∧ h1.t = h3.t ∧ h1.n = h3.n ∧ h1.log = h3.log ∧ h1.ob = h3.ob := by
  obtain ⟨t, n0, log, sym, cnt, orc, ob⟩ := h
  unfold xIn at hx
  simp only at hx
  cases ha : acall (envT plug) n f args ⟨t, n0, log, false, 0, [], ob⟩ with
  | none => simp [ha] at hx
  | some q =>
    obtain ⟨v, t', n', log', sym', cnt', orc', ob'⟩ := q
    simp only [ha, Option.some.injEq, Prod.mk.injEq] at hx
    obtain ⟨rfl, rfl⟩ := hx
    exact ⟨⟨t, n0, log, false, 0, [], ob⟩, ⟨t', n', log', sym', cnt', orc', ob'⟩, rfl, rfl, rfl, rfl, ha, rfl, rfl, rfl, rfl⟩
theorem xIn_ok {plug : List (Nat × XF)} (hp : ∀ x ∈ plug, ExtOK Tryz.prog 12 x.1 x.2) (n f : Nat) : ExtOK Tryz.prog 12 f (xIn plug n f) where
  fwd := fun args h r h1 hx => by
    obtain ⟨h2, h3, a1, a2, a3, a4, k, b1, b2, b3, b4⟩ := xIn_some hx
    have f1 : Fwd h h2 := .same a1 a2 a3 fun q b hb => q b (by rw [a4]; exact hb)
    have f2 : Fwd h3 h1 := .same b1 b2 b3 fun q b hb => q b (by rw [b4]; exact hb)
    exact (f1.trans (acall_fwd (envT_ok hp) n f args h2 r h3 k)).trans f2
  run := fun args h r h1 hx hob ρ w args' hg hr hf hl => by
    obtain ⟨h2, h3, a1, a2, a3, a4, k, b1, b2, b3, b4⟩ := xIn_some hx
    have hr2 : Rel Tryz.prog.cellsOf ρ h2 w := hr.congr a1 a2 rfl
    have hf2 : Fr ρ h2.n h3.n := by rw [a2, ← b2]; exact hf
    have hob2 : OB h3 := fun b hb => hob b (by rw [b4]; exact hb)
    refine Ans.mono (acall_ok (envT_ok hp) n f args h2 r h3 k hob2 ρ w args' hg hr2 hf2 hl) fun v w' hq => ?_
    obtain ⟨ρ', hv, st⟩ := hq
    refine ⟨ρ', hv, ?_⟩
    have s1 : Step Tryz.prog.cellsOf ρ h w ρ h2 w := .same hr a1 a2 a3 rfl (Str.refl _)
    have s2 : Step Tryz.prog.cellsOf ρ' h3 w' ρ' h1 w' := .same st.rel b1 b2 b3 rfl (Str.refl _)
    have hf3 : Fr ρ h.n h3.n := by rw [← a2]; exact hf2
    exact Step.trans hf (Step.trans hf3 s1 st) s2
end Go.Proofs.YtkmbkejmfffafaaGreatDoor.Refl
