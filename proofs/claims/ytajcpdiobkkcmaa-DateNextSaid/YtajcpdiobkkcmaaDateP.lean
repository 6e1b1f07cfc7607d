import Derived.Test.YtajcpdiobkkcmaaPDatex2
/- What the small functions of the calendar's statements come to, in plain numbers. -/
namespace Go.Proofs.Ytajcpdiobkkcmaa.Pure
open Go.RowKit Go.Proofs.Ytajcpdiobkkcmaa.PDate Go.Proofs.YtajcpdiobkkcmaaHand Go.Proofs.YtajcpdiobkkcmaaW.PrintWords Go.Proofs.YtajcpdiobkkcmaaW.PrintLast
theorem head_true : polyglotlaw05_head.f = some true := by kernel_rfl
theorem tmod_zero (a b : Int) : a.tmod b = 0 ↔ a % b = 0 := by
  rw [← Int.dvd_iff_tmod_eq_zero, ← Int.dvd_iff_emod_eq_zero]
theorem leap_eq (y : Int) : polyglotlaw05_leap.f y = some (lp y) := by
  unfold polyglotlaw05_leap.f lp
  by_cases h4 : y % 400 = 0
  · rw [if_pos ((tmod_zero _ _).2 h4)]
    congr 1
    rw [eq_comm, decide_eq_true_eq]
    omega
  · rw [if_neg (fun h => h4 ((tmod_zero _ _).1 h))]
    by_cases h1 : y % 4 = 0
    · rw [if_pos ((tmod_zero _ _).2 h1)]
      congr 1
      by_cases h2 : y % 100 = 0
      · rw [(tmod_zero _ _).2 h2]
        simp [h2, h4]
      · have h3 : y.tmod 100 ≠ 0 := fun h => h2 ((tmod_zero _ _).1 h)
        simp [h2, h1, h3]
    · rw [if_neg (fun h => h1 ((tmod_zero _ _).1 h))]
      simp [h1]
theorem days_in (k : Nat) (y m : Int) (hk : 0 < k) (h1 : 1 ≤ m) (h2 : m ≤ 12) : polyglotlaw05_days.f k y m = some (dim y m) := by
  obtain ⟨k, rfl⟩ : ∃ j, k = j + 1 := ⟨k - 1, by omega⟩
  unfold polyglotlaw05_days.f
  rw [if_neg (by omega)]
  have e : decide (m > 12) = false := by simp; omega
  rw [e]
  simp only [polyglotlaw05_days.j0, leap_eq, Option.bind_some]
  unfold dim
  have h : m = 1 ∨ m = 2 ∨ m = 3 ∨ m = 4 ∨ m = 5 ∨ m = 6 ∨ m = 7 ∨ m = 8 ∨ m = 9 ∨ m = 10 ∨ m = 11 ∨ m = 12 := by omega
  cases lp y <;> clear h1 h2 hk e <;> rcases h with rfl | rfl | rfl | rfl | rfl | rfl | rfl | rfl | rfl | rfl | rfl | rfl <;> decide +kernel
theorem days_out (k : Nat) (y m : Int) (hk : 0 < k) (h : m < 1 ∨ 12 < m) : polyglotlaw05_days.f k y m = some 0 := by
  obtain ⟨k, rfl⟩ : ∃ j, k = j + 1 := ⟨k - 1, by omega⟩
  unfold polyglotlaw05_days.f
  by_cases h1 : m < 1
  · rw [if_pos h1]; rfl
  · rw [if_neg h1]
    have e : decide (m > 12) = true := by simp; omega
    rw [e]; rfl
theorem To_eq (y m d H M S wk : Int) (y1 : -10000000000 ≤ y) (y2 : y ≤ 10000000000) (m1 : 1 ≤ m) (m2 : m ≤ 12) (d1 : 1 ≤ d) (d2 : d ≤ 31) (H1 : 0 ≤ H) (H2 : H ≤ 23) (M1 : 0 ≤ M) (M2 : M ≤ 59) (S1 : 0 ≤ S) (S2 : S ≤ 59) :
    date_To.f y m d H M S wk = some (num y m d * 86400 + H * 3600 + M * 60 + S) := by
  unfold date_To.f num
  by_cases h : m ≤ 2
  · rw [if_pos h, if_pos h, wrap_id (x := y - 1) (by omega) (by omega), floor_eq (y - 1) 400 (by omega) (by omega) (by omega) (by omega)]
    simp only [Option.bind_some]
    have b1 : 0 ≤ (y - 1) % 400 := by omega
    have b2 : (y - 1) % 400 < 400 := by omega
    have b3 : -30000000 ≤ (y - 1) / 400 := by omega
    have b4 : (y - 1) / 400 ≤ 30000000 := by omega
    generalize (y - 1) % 400 = r at *
    generalize (y - 1) / 400 = q at *
    rw [tdiv_pos b1, tdiv_pos b1]
    have e1 : wrap64 (m + 12) = m + 12 := wrap_id (by omega) (by omega)
    rw [e1]
    have e2 : wrap64 (m + 12 - 3) = m + 12 - 3 := wrap_id (by omega) (by omega)
    rw [e2]
    have e3 : wrap64 (153 * (m + 12 - 3)) = 153 * (m + 12 - 3) := wrap_id (by omega) (by omega)
    rw [e3]
    have e4 : wrap64 (153 * (m + 12 - 3) + 2) = 153 * (m + 12 - 3) + 2 := wrap_id (by omega) (by omega)
    rw [e4, tdiv_pos (show 0 ≤ 153 * (m + 12 - 3) + 2 by omega)]
    have x1 : 0 ≤ (153 * (m + 12 - 3) + 2) / 5 := by omega
    have x2 : (153 * (m + 12 - 3) + 2) / 5 ≤ 1000 := by omega
    generalize (153 * (m + 12 - 3) + 2) / 5 = t at *
    have z1 : 0 ≤ r / 4 := by omega
    have z2 : r / 4 ≤ 400 := by omega
    have z3 : 0 ≤ r / 100 := by omega
    have z4 : r / 100 ≤ 400 := by omega
    generalize r / 4 = r4 at *
    generalize r / 100 = r100 at *
    clear h m1 m2 e1 e2 e3 e4
    rw [wrap_id (x := t) (by omega) (by omega), wrap_id (x := r4) (by omega) (by omega), wrap_id (x := r100) (by omega) (by omega), wrap_id (x := q * 146097) (by omega) (by omega), wrap_id (x := r * 365) (by omega) (by omega), wrap_id (x := H * 3600) (by omega) (by omega), wrap_id (x := M * 60) (by omega) (by omega)]
    rw [wrap_id (x := q * 146097 + r * 365) (by omega) (by omega)]
    rw [wrap_id (x := q * 146097 + r * 365 + r4) (by omega) (by omega)]
    rw [wrap_id (x := q * 146097 + r * 365 + r4 - r100) (by omega) (by omega)]
    rw [wrap_id (x := q * 146097 + r * 365 + r4 - r100 + t) (by omega) (by omega)]
    rw [wrap_id (x := q * 146097 + r * 365 + r4 - r100 + t + d) (by omega) (by omega)]
    rw [wrap_id (x := q * 146097 + r * 365 + r4 - r100 + t + d - 1) (by omega) (by omega)]
    rw [wrap_id (x := q * 146097 + r * 365 + r4 - r100 + t + d - 1 - 719468) (by omega) (by omega)]
    rw [wrap_id (x := (q * 146097 + r * 365 + r4 - r100 + t + d - 1 - 719468) * 86400) (by omega) (by omega)]
    rw [wrap_id (x := (q * 146097 + r * 365 + r4 - r100 + t + d - 1 - 719468) * 86400 + H * 3600) (by omega) (by omega)]
    rw [wrap_id (x := (q * 146097 + r * 365 + r4 - r100 + t + d - 1 - 719468) * 86400 + H * 3600 + M * 60) (by omega) (by omega)]
    rw [wrap_id (x := (q * 146097 + r * 365 + r4 - r100 + t + d - 1 - 719468) * 86400 + H * 3600 + M * 60 + S) (by omega) (by omega)]
  · rw [if_neg h, if_neg h, floor_eq y 400 (by omega) (by omega) (by omega) (by omega)]
    simp only [Option.bind_some]
    have b1 : 0 ≤ y % 400 := by omega
    have b2 : y % 400 < 400 := by omega
    have b3 : -30000000 ≤ y / 400 := by omega
    have b4 : y / 400 ≤ 30000000 := by omega
    generalize y % 400 = r at *
    generalize y / 400 = q at *
    rw [tdiv_pos b1, tdiv_pos b1]
    have e2 : wrap64 (m - 3) = m - 3 := wrap_id (by omega) (by omega)
    rw [e2]
    have e3 : wrap64 (153 * (m - 3)) = 153 * (m - 3) := wrap_id (by omega) (by omega)
    rw [e3]
    have e4 : wrap64 (153 * (m - 3) + 2) = 153 * (m - 3) + 2 := wrap_id (by omega) (by omega)
    rw [e4, tdiv_pos (show 0 ≤ 153 * (m - 3) + 2 by omega)]
    have x1 : 0 ≤ (153 * (m - 3) + 2) / 5 := by omega
    have x2 : (153 * (m - 3) + 2) / 5 ≤ 1000 := by omega
    generalize (153 * (m - 3) + 2) / 5 = t at *
    have z1 : 0 ≤ r / 4 := by omega
    have z2 : r / 4 ≤ 400 := by omega
    have z3 : 0 ≤ r / 100 := by omega
    have z4 : r / 100 ≤ 400 := by omega
    generalize r / 4 = r4 at *
    generalize r / 100 = r100 at *
    clear h m1 m2 e2 e3 e4
    rw [wrap_id (x := t) (by omega) (by omega), wrap_id (x := r4) (by omega) (by omega), wrap_id (x := r100) (by omega) (by omega), wrap_id (x := q * 146097) (by omega) (by omega), wrap_id (x := r * 365) (by omega) (by omega), wrap_id (x := H * 3600) (by omega) (by omega), wrap_id (x := M * 60) (by omega) (by omega)]
    rw [wrap_id (x := q * 146097 + r * 365) (by omega) (by omega)]
    rw [wrap_id (x := q * 146097 + r * 365 + r4) (by omega) (by omega)]
    rw [wrap_id (x := q * 146097 + r * 365 + r4 - r100) (by omega) (by omega)]
    rw [wrap_id (x := q * 146097 + r * 365 + r4 - r100 + t) (by omega) (by omega)]
    rw [wrap_id (x := q * 146097 + r * 365 + r4 - r100 + t + d) (by omega) (by omega)]
    rw [wrap_id (x := q * 146097 + r * 365 + r4 - r100 + t + d - 1) (by omega) (by omega)]
    rw [wrap_id (x := q * 146097 + r * 365 + r4 - r100 + t + d - 1 - 719468) (by omega) (by omega)]
    rw [wrap_id (x := (q * 146097 + r * 365 + r4 - r100 + t + d - 1 - 719468) * 86400) (by omega) (by omega)]
    rw [wrap_id (x := (q * 146097 + r * 365 + r4 - r100 + t + d - 1 - 719468) * 86400 + H * 3600) (by omega) (by omega)]
    rw [wrap_id (x := (q * 146097 + r * 365 + r4 - r100 + t + d - 1 - 719468) * 86400 + H * 3600 + M * 60) (by omega) (by omega)]
    rw [wrap_id (x := (q * 146097 + r * 365 + r4 - r100 + t + d - 1 - 719468) * 86400 + H * 3600 + M * 60 + S) (by omega) (by omega)]
end Go.Proofs.Ytajcpdiobkkcmaa.Pure
