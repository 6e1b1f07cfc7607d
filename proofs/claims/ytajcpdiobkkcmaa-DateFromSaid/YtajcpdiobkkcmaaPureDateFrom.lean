import Derived.Test.YtajcpdiobkkcmaaPDatex3
import Derived.Test.YtajcpdiobkkcmaaDateF
/- Any moment by the calendar is what counting years and months tells, and back. -/
namespace Go.Proofs.Ytajcpdiobkkcmaa.Pure
open Go.RowKit Go.Proofs.Ytajcpdiobkkcmaa.PDate Go.Proofs.YtajcpdiobkkcmaaHand Go.Proofs.YtajcpdiobkkcmaaW.PrintWords Go.Proofs.YtajcpdiobkkcmaaW.PrintLast
theorem To_civil (c wk : Int) (h1 : -9007199254740992 ≤ c) (h2 : c ≤ 9007199254740992) :
    date_To.f (cyear (c / 86400)) (cmon (c / 86400)) (cday (c / 86400)) (c % 86400 / 3600) (c % 86400 / 60 % 60) (c % 60) wk = some c := by
  have m := mon_rng (c / 86400)
  have d := day_rng (c / 86400)
  have dd := dim_rng (cyear (c / 86400)) (cmon (c / 86400))
  have yy : -10000000000 ≤ cyear (c / 86400) ∧ cyear (c / 86400) ≤ 10000000000 := by
    have := yo_rng (cD (c / 86400)) (cD_rng (c / 86400)).1 (cD_rng (c / 86400)).2
    unfold cyear; split <;> omega
  rw [To_eq _ _ _ _ _ _ _ yy.1 yy.2 m.1 m.2 d.1 (by omega) (by omega) (by omega) (by omega) (by omega) (by omega) (by omega), num_civil]
  congr 1; omega
theorem DateFrom : polyglotlaw05_DateFrom.Pure := by
  intro a _
  refine ⟨600, ?_⟩
  unfold polyglotlaw05_DateFrom.f
  rw [head_true, lawFrom_eq a 600 (by omega)]
  simp only [Option.bind_some, if_true, date_From.f]
  have hc := clamp_rng a
  have hT := To_civil (clamp a) 9 hc.1 hc.2
  unfold civil
  simp only [beq_self_eq_true, Bool.not_true, Bool.or_false, Bool.false_eq_true, if_false]
  rw [hT]
  simp only [Option.bind_some]
  unfold clamp
  by_cases g : a > 9007199254740992
  · rw [if_pos g]; simp [g]
  · rw [if_neg g]
    by_cases g2 : a < -9007199254740992
    · rw [if_pos g2]; simp [g, g2]
    · rw [if_neg g2]; simp [g, g2]
end Go.Proofs.Ytajcpdiobkkcmaa.Pure
