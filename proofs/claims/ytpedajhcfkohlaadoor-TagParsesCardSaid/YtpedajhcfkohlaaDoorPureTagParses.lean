import Derived.Test.YtpedajhcfkohlaaDoorTagE
import Derived.Test.YtpedajhcfkohlaaDoorPTParx1
/- Whatever text: the tag that it tells, in its form, or none. -/
namespace Go.Proofs.YtpedajhcfkohlaaDoor.Pure
open Go.RowKit Go.Proofs.YtpedajhcfkohlaaDoor.PTPar Go.Proofs.YtpedajhcfkohlaaDoorHand Go.Proofs.YtpedajhcfkohlaaDoorW.PrintWords Go.Proofs.YtpedajhcfkohlaaDoorW.PrintLast Go.Proofs.YtpedajhcfkohlaaDoorW.PrintMore
set_option linter.unusedSimpArgs false
set_option linter.unusedVariables false
theorem str_f (l s g : ByteArray) (vs : List ByteArray) (h : Fine l s g vs) : tag_Str.f l s g vs = some (textL (partsL l s g vs)) := by
  obtain ⟨_, ⟨h1, h2, h3, h4⟩, h5⟩ := h
  unfold tag_Str.f
  rw [if_pos]
  refine ⟨⟨?_, ?_, ?_, fun v hv => ?_⟩, by omega⟩
  · exact Nat.le_trans h1.2 (by omega)
  · exact Nat.le_trans h2.2 (by omega)
  · exact Nat.le_trans h3.2 (by omega)
  · exact Nat.le_trans (h4 v hv).2 (by omega)
theorem TagParses : polyglotlaw03_TagParses.Pure := by
  intro a0 _
  unfold polyglotlaw03_TagParses.f law03_head.f
  rw [Option.bind_some, if_pos rfl]
  by_cases hs : (a0.size : Int) > 100
  · rw [if_pos hs]
  · have hn : pcs a0 ≠ [] := List.length_pos_iff.1 (pcs_length a0).1
    rw [if_neg hs, parse_eq2 _ (by omega), Option.bind_some]
    unfold law03_Parse.f
    rw [if_pos (by omega), Option.bind_some]
    rcases P0_said (pcs a0) hn with ⟨e1, e2⟩ | ⟨l, s, g, vs, e1, hN, e2⟩
    · rw [e1, e2]; unfold notTold noL
      simp only [bne_self_eq_false, Bool.false_eq_true, if_false]
      have e0 : (⟨#[]⟩ : ByteArray).toList = ([] : List UInt8) := tl _
      simp [e0]
    · rcases fine_said a0 (by omega) with e | ⟨l', s', g', vs', e, h⟩
      · rw [e1] at e
        unfold notTold at e
        injection e with _ e
        injection e with _ e
        injection e with _ e
        injection e with _ e
        cases e
      · rw [e1] at e
        injection e with e3 e
        injection e with e4 e
        injection e with e5 e
        injection e with e6 _
        subst e3 e4 e5 e6
        have ht := fine_text l s g vs h
        rw [e1, e2]
        simp only [bne_self_eq_false, Bool.false_eq_true, if_false, if_true]
        rw [str_f _ _ _ _ h, Option.bind_some, parse_eq2 _ (by have := ht.2.1; omega), ht.2.2, Option.bind_some]
        simp only [Option.bind_some, if_true]
        rw [str_f _ _ _ _ h]
        simp
end Go.Proofs.YtpedajhcfkohlaaDoor.Pure
