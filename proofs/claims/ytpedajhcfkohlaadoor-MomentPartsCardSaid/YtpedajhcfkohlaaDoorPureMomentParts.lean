import Derived.Test.YtpedajhcfkohlaaDoorMomR
/- The whole text is the day, what stands between, and the clock; any other style is the day. -/
namespace Go.Proofs.YtpedajhcfkohlaaDoor.Pure
open Go.RowKit Go.Proofs.YtpedajhcfkohlaaDoor.PMom Go.Proofs.YtpedajhcfkohlaaDoorHand Go.Proofs.YtpedajhcfkohlaaDoorW.PrintWords Go.Proofs.YtpedajhcfkohlaaDoorW.PrintLast Go.Proofs.YtpedajhcfkohlaaDoorW.PrintMore
theorem j1_true (k : Nat) (lang : ByteArray) (s odd : Int) (b : Bool) (hb : b = true ↔ (0 ≤ odd ∧ odd ≤ 2)) :
    polyglotlaw13_MomentParts.j1 (k + 1 + 1) lang s odd ⟨(dayL lang (yS s) (moS s) (dS s)).toArray⟩ ⟨(clockL lang (hS s) (mS s)).toArray⟩ ⟨(btw lang).toArray⟩ b = some true := by
  have y := yS_rng s
  have mo := moS_rng s
  have d := dS_rng s
  have h := hS_rng s
  have mi := mS_rng s
  have l1 := dayL_len lang (yS s) (moS s) (dS s) y.1 y.2 mo.1 mo.2 d.1 d.2
  have l2 := clockL_len lang (hS s) (mS s) h.1 h.2 mi.1 mi.2
  have l3 : (btw lang).length ≤ 2 := by unfold btw; split <;> decide
  rw [polyglotlaw13_MomentParts.j1]
  simp only [fmt_eq (k + 1) lang s _ (by omega), Option.bind_some, mk_app, mk_size, mk_list, List.length_append]
  by_cases hb2 : b = true
  · have ho := hb.1 hb2
    rw [if_pos hb2, if_pos (by omega), if_pos (by omega)]
    rw [wrap_id (x := odd + 3) (by omega) (by omega)]
    unfold fmtL
    rw [if_neg (show ¬ odd + 3 = 1 by omega), if_neg (show ¬ odd + 3 = 2 by omega), if_neg (show ¬ (2 : Int) = 1 by omega), if_pos rfl]
    simp
  · have ho : ¬ (0 ≤ odd ∧ odd ≤ 2) := fun h => hb2 (hb.2 h)
    rw [if_neg hb2, if_pos (by omega), if_pos (by omega)]
    unfold fmtL
    rw [if_neg (show ¬ odd = 1 by omega), if_neg (show ¬ odd = 2 by omega), if_neg (show ¬ (2 : Int) = 1 by omega), if_pos rfl]
    simp
theorem MomentParts : polyglotlaw13_MomentParts.Pure := by
  intro lang s odd _ _ _
  refine ⟨4, ?_⟩
  unfold polyglotlaw13_MomentParts.f
  rw [head_true 4 (by decide), fmt_eq 4 _ _ 0 (by decide), fmt_eq 4 _ _ 1 (by decide)]
  simp only [Option.bind_some, if_true]
  have e0 : fmtL lang (yS s) (moS s) (dS s) (hS s) (mS s) 0 = dayL lang (yS s) (moS s) (dS s) := rfl
  have e1 : fmtL lang (yS s) (moS s) (dS s) (hS s) (mS s) 1 = clockL lang (hS s) (mS s) := rfl
  rw [e0, e1]
  have j : polyglotlaw13_MomentParts.j0 4 lang s odd ⟨(dayL lang (yS s) (moS s) (dS s)).toArray⟩ ⟨(clockL lang (hS s) (mS s)).toArray⟩ ⟨(btw lang).toArray⟩ = some true := by
    rw [polyglotlaw13_MomentParts.j0]
    by_cases h : odd ≥ 0
    · rw [if_pos h]; exact j1_true 1 lang s odd _ (by rw [decide_eq_true_eq]; omega)
    · rw [if_neg h]; exact j1_true 1 lang s odd _ ⟨fun e => by simp at e, fun e => by omega⟩
  by_cases hl : lang.toList = ([101, 110] : List UInt8)
  · rw [if_pos hl]
    unfold btw at j
    rw [if_pos hl] at j
    exact j
  · rw [if_neg hl]
    unfold btw at j
    rw [if_neg hl] at j
    exact j
end Go.Proofs.YtpedajhcfkohlaaDoor.Pure
