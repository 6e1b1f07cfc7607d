import Derived.Test.YtajcpdiobkkcmaaDateP
import Derived.Test.YtajcpdiobkkcmaaPDatex3
/- What date.Leap and date.Days come to, in plain numbers. -/
namespace Go.Proofs.Ytajcpdiobkkcmaa.Pure
open Go.RowKit Go.Proofs.Ytajcpdiobkkcmaa.PDate Go.Proofs.YtajcpdiobkkcmaaHand Go.Proofs.YtajcpdiobkkcmaaW.PrintWords Go.Proofs.YtajcpdiobkkcmaaW.PrintLast
theorem Leap_eq (y : Int) : date_Leap.f y = some (lp y) := by
  unfold date_Leap.f lp
  by_cases h1 : y % 4 = 0
  · rw [if_pos ((tmod_zero _ _).2 h1)]
    by_cases h2 : y % 100 = 0
    · rw [if_pos ((tmod_zero _ _).2 h2)]
      congr 1
      by_cases h4 : y % 400 = 0
      · rw [(tmod_zero _ _).2 h4]; simp [h1, h4]
      · have h3 : y.tmod 400 ≠ 0 := fun h => h4 ((tmod_zero _ _).1 h)
        simp [h1, h2, h4, h3]
    · rw [if_neg (fun h => h2 ((tmod_zero _ _).1 h))]
      simp [h1, h2]
  · rw [if_neg (fun h => h1 ((tmod_zero _ _).1 h))]
    simp [h1]
theorem Days_eq (k : Nat) (y m : Int) (hk : 0 < k) : date_Days.f k y m = some (if 1 ≤ m ∧ m ≤ 12 then dim y m else 0) := by
  obtain ⟨k, rfl⟩ : ∃ j, k = j + 1 := ⟨k - 1, by omega⟩
  unfold date_Days.f
  simp only [date_Days.j0, Leap_eq, Option.bind_some]
  by_cases h : 1 ≤ m ∧ m ≤ 12
  · rw [if_pos h]
    unfold dim
    have h : m = 1 ∨ m = 2 ∨ m = 3 ∨ m = 4 ∨ m = 5 ∨ m = 6 ∨ m = 7 ∨ m = 8 ∨ m = 9 ∨ m = 10 ∨ m = 11 ∨ m = 12 := by omega
    cases lp y <;> rcases h with rfl | rfl | rfl | rfl | rfl | rfl | rfl | rfl | rfl | rfl | rfl | rfl <;> rfl
  · rw [if_neg h, if_neg (by omega), if_neg (by omega), if_neg (by omega), if_neg (by omega)]
    have e : (m == 11) = false := by simp; omega
    rw [e, if_neg (by simp), if_neg (by omega), if_neg (by omega), if_neg (by omega), if_neg (by omega), if_neg (by omega), if_neg (by omega), if_neg (by omega)]
end Go.Proofs.Ytajcpdiobkkcmaa.Pure
