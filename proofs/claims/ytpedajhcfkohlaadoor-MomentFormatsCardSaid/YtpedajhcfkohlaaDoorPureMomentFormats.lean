import Derived.Test.YtpedajhcfkohlaaDoorMomR
/- The program's text of a moment is the statement's own. -/
namespace Go.Proofs.YtpedajhcfkohlaaDoor.Pure
open Go.RowKit Go.Proofs.YtpedajhcfkohlaaDoor.PMom Go.Proofs.YtpedajhcfkohlaaDoorHand Go.Proofs.YtpedajhcfkohlaaDoorW.PrintWords Go.Proofs.YtpedajhcfkohlaaDoorW.PrintLast Go.Proofs.YtpedajhcfkohlaaDoorW.PrintMore
theorem MomentFormats : polyglotlaw13_MomentFormats.Pure := by
  intro lang s style _ _ _
  refine ⟨700, ?_⟩
  unfold polyglotlaw13_MomentFormats.f
  rw [head_true 700 (by decide)]
  simp only [Option.bind_some, if_true]
  rw [fmt_eq 700 _ _ _ (by decide), lfmt_eq 700 _ _ _ (by decide)]
  simp only [Option.bind_some, beq_self_eq_true]
end Go.Proofs.YtpedajhcfkohlaaDoor.Pure
