import Derived.Test.YtajcpdiobkkcmaaPDatex5
import Derived.Test.YtajcpdiobkkcmaaDateQ
/- Whatever year and month: date.Leap and date.Days tell what the statement's own leap and days tell. -/
namespace Go.Proofs.Ytajcpdiobkkcmaa.Pure
open Go.RowKit Go.Proofs.Ytajcpdiobkkcmaa.PDate Go.Proofs.YtajcpdiobkkcmaaHand Go.Proofs.YtajcpdiobkkcmaaW.PrintWords Go.Proofs.YtajcpdiobkkcmaaW.PrintLast
theorem DateDays : polyglotlaw05_DateDays.Pure := by
  intro y m _ _
  refine ⟨1, ?_⟩
  unfold polyglotlaw05_DateDays.f
  rw [head_true]
  simp only [Option.bind_some, if_true]
  rw [Leap_eq, leap_eq, Days_eq 1 y m (by omega)]
  simp only [Option.bind_some, beq_self_eq_true, if_true]
  by_cases h : 1 ≤ m ∧ m ≤ 12
  · rw [days_in 1 y m (by omega) h.1 h.2, if_pos h]; simp
  · rw [days_out 1 y m (by omega) (by omega), if_neg h]; simp
end Go.Proofs.Ytajcpdiobkkcmaa.Pure
