import Derived.Test.YtajcpdiobkkcmaaPDatex4
import Derived.Test.YtajcpdiobkkcmaaDateQ
/- A day later it is the next day. -/
namespace Go.Proofs.Ytajcpdiobkkcmaa.Pure
open Go.RowKit Go.Proofs.Ytajcpdiobkkcmaa.PDate Go.Proofs.YtajcpdiobkkcmaaHand Go.Proofs.YtajcpdiobkkcmaaW.PrintWords Go.Proofs.YtajcpdiobkkcmaaW.PrintLast
/-- The day behind a day. -/
theorem next_day (n : Int) : (cday n < dim (cyear n) (cmon n) ∧ cyear (n + 1) = cyear n ∧ cmon (n + 1) = cmon n ∧ cday (n + 1) = cday n + 1) ∨
    (cday n = dim (cyear n) (cmon n) ∧ cmon n < 12 ∧ cyear (n + 1) = cyear n ∧ cmon (n + 1) = cmon n + 1 ∧ cday (n + 1) = 1) ∨
    (cday n = 31 ∧ cmon n = 12 ∧ cyear (n + 1) = cyear n + 1 ∧ cmon (n + 1) = 1 ∧ cday (n + 1) = 1) := by
  have m := mon_rng n
  have d := day_rng n
  have e := num_civil n
  generalize cyear n = y at *
  generalize cmon n = M at *
  generalize cday n = D at *
  by_cases h : D < dim y M
  · have k := civil_num y M (D + 1) m.1 m.2 (by omega) (by omega)
    have e2 : num y M (D + 1) = n + 1 := by rw [num_eq _ _ _ m.1 m.2] at *; omega
    rw [e2] at k
    exact .inl ⟨h, k.1, k.2.1, k.2.2⟩
  · have hD : D = dim y M := by omega
    by_cases h12 : M < 12
    · have k := civil_num y (M + 1) 1 (by omega) (by omega) (by omega) (by unfold dim; split <;> (try split) <;> omega)
      have e2 : num y (M + 1) 1 = n + 1 := by
        rw [num_eq _ _ _ (by omega) (by omega)]
        rw [num_eq _ _ _ m.1 m.2] at e
        have c : cum y (M + 1) = cum y M + dim y M := by
          have h : M = 1 ∨ M = 2 ∨ M = 3 ∨ M = 4 ∨ M = 5 ∨ M = 6 ∨ M = 7 ∨ M = 8 ∨ M = 9 ∨ M = 10 ∨ M = 11 := by omega
          unfold cum dim
          cases hl : lp y <;> rcases h with rfl | rfl | rfl | rfl | rfl | rfl | rfl | rfl | rfl | rfl | rfl <;> simp
        omega
      rw [e2] at k
      exact .inr (.inl ⟨hD, h12, k.1, k.2.1, k.2.2⟩)
    · obtain rfl : M = 12 := by omega
      have h31 : D = 31 := by rw [hD]; unfold dim; simp
      have k := civil_num (y + 1) 1 1 (by omega) (by omega) (by omega) (by unfold dim; simp)
      have e2 : num (y + 1) 1 1 = n + 1 := by
        rw [num_eq _ _ _ (by omega) (by omega), jan_succ]
        rw [num_eq _ _ _ (by omega) (by omega)] at e
        have c1 : cum (y + 1) 1 = 0 := by unfold cum; simp
        have c2 : cum y 12 = 334 + (if lp y then 1 else 0) := by unfold cum; cases lp y <;> simp
        omega
      rw [e2] at k
      exact .inr (.inr ⟨h31, rfl, k.1, k.2.1, k.2.2⟩)
theorem DateNext : polyglotlaw05_DateNext.Pure := by
  intro a _
  refine ⟨2, ?_⟩
  have t1 : -4503599627370496 ≤ a.tmod 4503599627370496 := by
    have q := tdivmod a 4503599627370496 (by decide)
    have e0 := Int.emod_nonneg a (show (4503599627370496 : Int) ≠ 0 by decide)
    generalize a.tmod 4503599627370496 = z at *
    by_cases h : z < 0
    · have r := (q.1 h).2; omega
    · omega
  have t2 : a.tmod 4503599627370496 < 4503599627370496 := Int.tmod_lt_of_pos a (by omega)
  unfold polyglotlaw05_DateNext.f
  rw [head_true]
  simp only [Option.bind_some, if_true]
  generalize a.tmod 4503599627370496 = s at *
  rw [wrap_id (x := s + 86400) (by omega) (by omega)]
  have c1 : clamp s = s := by unfold clamp; omega
  have c2 : clamp (s + 86400) = s + 86400 := by unfold clamp; omega
  simp only [date_From.f, c1, c2, Option.bind_some]
  unfold civil
  have e0 : (s + 86400) / 86400 = s / 86400 + 1 := by omega
  have e1 : (s + 86400) % 86400 = s % 86400 := by omega
  have e2 : (s + 86400) % 60 = s % 60 := by omega
  simp only [e0, e1, e2, if_true]
  have w1 : wrap64 ((s / 86400 + 4) % 7 + 1) = (s / 86400 + 4) % 7 + 1 := wrap_id (by omega) (by omega)
  have w2 : ((s / 86400 + 4) % 7 + 1).tmod 7 = (s / 86400 + 1 + 4) % 7 := by rw [tmod_pos (by omega)]; omega
  rw [w1, w2]
  have w3 : ((s / 86400 + 1 + 4) % 7 != (s / 86400 + 1 + 4) % 7) = false := by simp
  rw [w3]
  have b1 : -60000000000 ≤ s / 86400 := by omega
  have b2 : s / 86400 ≤ 60000000000 := by omega
  generalize s / 86400 = n at *
  have m := mon_rng n
  have d := day_rng n
  have dd : dim (cyear n) (cmon n) ≤ 31 := by unfold dim; split <;> (try split) <;> omega
  have yy : -1000000000 ≤ cyear n ∧ cyear n ≤ 1000000000 := by
    have := yo_rng (cD n) (cD_rng n).1 (cD_rng n).2
    unfold cyear; split <;> omega
  simp only [polyglotlaw05_DateNext.j0]
  rw [if_neg (by simp)]
  have hd := Days_eq 1 (cyear n) (cmon n) (by omega)
  rw [if_pos m] at hd
  rw [hd]
  simp only [Option.bind_some]
  rcases next_day n with ⟨h, k1, k2, k3⟩ | ⟨h, h12, k1, k2, k3⟩ | ⟨h, h12, k1, k2, k3⟩
  · rw [k1, k2, k3, if_pos (by omega), wrap_id (x := cday n + 1) (by omega) (by omega), if_pos rfl, if_pos rfl, if_pos rfl]
    simp; omega
  · rw [k1, k2, k3, if_neg (by omega), if_pos (by omega), if_pos h, wrap_id (x := cmon n + 1) (by omega) (by omega), if_pos rfl]
    simp
  · rw [k1, k2, k3, if_neg (by omega), if_neg (by omega), if_pos h, if_pos h12, wrap_id (x := cyear n + 1) (by omega) (by omega)]
    simp
end Go.Proofs.Ytajcpdiobkkcmaa.Pure
