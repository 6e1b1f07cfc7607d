import Derived.Test.YtpedajhcfkohlaaDoorMomP
import Derived.Test.YtpedajhcfkohlaaDoorPMomx5
/- The statement's own way from seconds to a day comes to the same as the plain numbers. -/
namespace Go.Proofs.YtpedajhcfkohlaaDoor.Pure
open Go.RowKit Go.Proofs.YtpedajhcfkohlaaDoor.PMom Go.Proofs.YtpedajhcfkohlaaDoorHand Go.Proofs.YtpedajhcfkohlaaDoorW.PrintWords Go.Proofs.YtpedajhcfkohlaaDoorW.PrintLast
theorem tmod_zero (a b : Int) : a.tmod b = 0 ↔ a % b = 0 := by
  rw [← Int.dvd_iff_tmod_eq_zero, ← Int.dvd_iff_emod_eq_zero]
theorem leap_eq (y : Int) : polyglotlaw05_leap.f y = some (lp y) := by
  unfold polyglotlaw05_leap.f lp
  by_cases h4 : y % 400 = 0
  · rw [if_pos ((tmod_zero _ _).2 h4)]
    congr 1
    rw [eq_comm, decide_eq_true_eq]
    omega
  · rw [if_neg (fun h => h4 ((tmod_zero _ _).1 h))]
    by_cases h1 : y % 4 = 0
    · rw [if_pos ((tmod_zero _ _).2 h1)]
      congr 1
      by_cases h2 : y % 100 = 0
      · rw [(tmod_zero _ _).2 h2]
        simp [h2, h4]
      · have h3 : y.tmod 100 ≠ 0 := fun h => h2 ((tmod_zero _ _).1 h)
        simp [h2, h1, h3]
    · rw [if_neg (fun h => h1 ((tmod_zero _ _).1 h))]
      simp [h1]
theorem days_in (k : Nat) (y m : Int) (hk : 0 < k) (h1 : 1 ≤ m) (h2 : m ≤ 12) : polyglotlaw05_days.f k y m = some (dim y m) := by
  obtain ⟨k, rfl⟩ : ∃ j, k = j + 1 := ⟨k - 1, by omega⟩
  unfold polyglotlaw05_days.f
  rw [if_neg (by omega)]
  have e : decide (m > 12) = false := by simp; omega
  rw [e]
  simp only [polyglotlaw05_days.j0, leap_eq, Option.bind_some]
  unfold dim
  have h : m = 1 ∨ m = 2 ∨ m = 3 ∨ m = 4 ∨ m = 5 ∨ m = 6 ∨ m = 7 ∨ m = 8 ∨ m = 9 ∨ m = 10 ∨ m = 11 ∨ m = 12 := by omega
  cases lp y <;> clear h1 h2 hk e <;> rcases h with rfl | rfl | rfl | rfl | rfl | rfl | rfl | rfl | rfl | rfl | rfl | rfl <;> decide +kernel
theorem cum_succ (Y m : Int) (h1 : 1 ≤ m) (h2 : m < 12) : cum Y (m + 1) = cum Y m + dim Y m := by
  have h : m = 1 ∨ m = 2 ∨ m = 3 ∨ m = 4 ∨ m = 5 ∨ m = 6 ∨ m = 7 ∨ m = 8 ∨ m = 9 ∨ m = 10 ∨ m = 11 := by omega
  unfold cum dim
  cases hl : lp Y <;> rcases h with rfl | rfl | rfl | rfl | rfl | rfl | rfl | rfl | rfl | rfl | rfl <;> simp
theorem dim_rng (y m : Int) : 28 ≤ dim y m ∧ dim y m ≤ 31 := by unfold dim; split <;> (try split) <;> omega
theorem cum_mono (Y : Int) (t : Nat) : ∀ m : Int, 1 ≤ m → m + t ≤ 12 → cum Y m ≤ cum Y (m + t) := by
  induction t with
  | zero => intro m _ _; simp
  | succ t ih =>
    intro m h1 h2
    have := ih m h1 (by omega)
    have c := cum_succ Y (m + t) (by omega) (by omega)
    have d := dim_rng Y (m + t)
    have e : m + ((t + 1 : Nat) : Int) = m + t + 1 := by omega
    rw [e]; omega
theorem l1_run (l w s y : Int) (t : Nat) : ∀ (k : Nat) (x m : Int), 0 < k → 1 ≤ m → m + t ≤ 12 → x ≤ 400 → cum y (m + t) - cum y m ≤ x →
    polyglotlaw05_From.l1 (k + t) x l w s y m = polyglotlaw05_From.l1 k (x - (cum y (m + t) - cum y m)) l w s y (m + t) := by
  induction t with
  | zero => intro k x m _ _ _ _ _; simp
  | succ t ih =>
    intro k x m hk h1 h2 hx h
    have e : m + ((t + 1 : Nat) : Int) = m + 1 + t := by omega
    rw [e] at h ⊢
    have c := cum_succ y m h1 (by omega)
    have cm := cum_mono y t (m + 1) (by omega) (by omega)
    have d := dim_rng y m
    have i := ih k (x - dim y m) (m + 1) hk (by omega) (by omega) (by omega) (by omega)
    have a : polyglotlaw05_From.l1 (k + (t + 1)) x l w s y m = polyglotlaw05_From.l1 (k + t) (x - dim y m) l w s y (m + 1) := by
      have e2 : k + (t + 1) = (k + t) + 1 := by omega
      rw [e2]
      simp only [polyglotlaw05_From.l1]
      rw [days_in (k + t) y m (by omega) h1 (by omega)]
      simp only [Option.bind_some]
      rw [if_pos (by omega), wrap_id (by omega) (by omega), wrap_id (by omega) (by omega)]
    rw [a, i, c]
    congr 1; omega
theorem l0_run (l w s : Int) (t : Nat) : ∀ (k : Nat) (x y : Int), 2000 ≤ y → y + t ≤ 2400 → x ≤ 200000 → jan (y + t) - jan y ≤ x →
    polyglotlaw05_From.l0 (k + t) x l w s y = polyglotlaw05_From.l0 k (x - (jan (y + t) - jan y)) l w s (y + t) := by
  induction t with
  | zero => intro k x y _ _ _ _; simp
  | succ t ih =>
    intro k x y h1 h2 hx h
    have e : y + ((t + 1 : Nat) : Int) = y + 1 + t := by omega
    rw [e] at h ⊢
    have c := jan_succ y
    have cm := jan_mono (y + 1) (y + 1 + t) (by omega)
    have a : polyglotlaw05_From.l0 (k + (t + 1)) x l w s y = polyglotlaw05_From.l0 (k + t) (x - (jan (y + 1) - jan y)) l w s (y + 1) := by
      have e2 : k + (t + 1) = (k + t) + 1 := by omega
      rw [e2]
      simp only [polyglotlaw05_From.l0]
      rw [leap_eq]
      simp only [Option.bind_some]
      cases hl : lp y with
      | true =>
        simp only [hl, if_true] at c
        rw [if_pos rfl, if_neg (by omega), wrap_id (by omega) (by omega), wrap_id (by omega) (by omega)]
        congr 1; omega
      | false =>
        simp only [hl, Bool.false_eq_true, if_false] at c
        rw [if_neg (by simp), if_neg (by omega), wrap_id (by omega) (by omega), wrap_id (by omega) (by omega)]
        congr 1; omega
    rw [a, ih k (x - (jan (y + 1) - jan y)) (y + 1) (by omega) (by omega) (by cases hl : lp y <;> simp only [hl, if_true, Bool.false_eq_true, if_false] at c <;> omega) (by omega)]
    congr 1; omega
theorem jan_cycle (y s : Int) : jan (y + 400 * s) = jan y + 146097 * s := by unfold jan; omega
theorem lp_cycle (y s : Int) : lp (y + 400 * s) = lp y := by
  unfold lp
  have e1 : (y + 400 * s) % 4 = y % 4 := by omega
  have e2 : (y + 400 * s) % 100 = y % 100 := by omega
  have e3 : (y + 400 * s) % 400 = y % 400 := by omega
  rw [e1, e2, e3]
theorem cum_rng (y m d : Int) (h1 : 1 ≤ m) (h2 : m ≤ 12) (h3 : 1 ≤ d) (h4 : d ≤ dim y m) : 0 ≤ cum y m + d - 1 ∧ cum y m + d - 1 < 365 + (if lp y then 1 else 0) := by
  unfold cum; unfold dim at h4
  have h : m = 1 ∨ m = 2 ∨ m = 3 ∨ m = 4 ∨ m = 5 ∨ m = 6 ∨ m = 7 ∨ m = 8 ∨ m = 9 ∨ m = 10 ∨ m = 11 ∨ m = 12 := by omega
  cases hl : lp y <;> simp only [hl] at h4 ⊢ <;> rcases h with rfl | rfl | rfl | rfl | rfl | rfl | rfl | rfl | rfl | rfl | rfl | rfl <;> simp at h4 ⊢ <;> omega
/-- From the year 2000 on: a day within four hundred years. -/
theorem j3_eq (n l w s : Int) (hs : s = (n - 10957) / 146097) (hl : 0 ≤ l) (hl2 : l < 86400) (hn1 : -104249991375 ≤ n) (hn2 : n ≤ 104249991375) (k : Nat) (hk : 500 ≤ k) :
    polyglotlaw05_From.j3 k ((n - 10957) % 146097) l w s = some (cyear n, cmon n, cday n, l / 3600, l / 60 % 60, l % 60, w) := by
  have m := mon_rng n
  have d := day_rng n
  have e := num_civil n
  rw [num_eq _ _ _ m.1 m.2] at e
  have r := cum_rng _ _ _ m.1 m.2 d.1 d.2
  generalize cyear n = Y at *
  generalize cmon n = M at *
  generalize cday n = D at *
  obtain ⟨y, rfl⟩ : ∃ y, Y = y + 400 * s := ⟨Y - 400 * s, by omega⟩
  have jc := jan_cycle y s
  have lc := lp_cycle y s
  have cc : cum (y + 400 * s) M = cum y M := by unfold cum; rw [lc]
  have dc : dim (y + 400 * s) M = dim y M := by unfold dim; rw [lc]
  rw [cc] at r e
  rw [lc] at r
  rw [dc] at d
  have hx : (n - 10957) % 146097 = jan y - 10957 + (cum y M + D - 1) := by omega
  have hx0 : 0 ≤ (n - 10957) % 146097 := by omega
  have hx1 : (n - 10957) % 146097 < 146097 := by omega
  have j2000 : jan 2000 = 10957 := by decide
  have j2400 : jan 2400 = 157054 := by decide
  have js := jan_succ y
  have y1 : 2000 ≤ y := by
    by_cases h : 2000 ≤ y
    · exact h
    · have := jan_mono (y + 1) 2000 (by omega); omega
  have y2 : y < 2400 := by
    by_cases h : y < 2400
    · exact h
    · have := jan_mono 2400 y (by omega); omega
  rw [hx] at hx0 hx1 ⊢
  obtain ⟨k, rfl⟩ : ∃ j, k = j + 1 + 1 + 1 + 11 + (y - 2000).toNat + 1 := ⟨k - 15 - (y - 2000).toNat, by omega⟩
  simp only [polyglotlaw05_From.j3]
  have ey : (2000 : Int) + ((y - 2000).toNat : Int) = y := by omega
  rw [l0_run l w s (y - 2000).toNat (k + 1 + 1 + 1 + 11) _ 2000 (by omega) (by omega) (by omega) (by rw [ey]; omega), ey]
  have ex : jan y - 10957 + (cum y M + D - 1) - (jan y - jan 2000) = cum y M + D - 1 := by omega
  rw [ex]
  have a : polyglotlaw05_From.l0 (k + 1 + 1 + 1 + 11) (cum y M + D - 1) l w s y = polyglotlaw05_From.l1 (k + 1 + 11) (cum y M + D - 1) l w s y 1 := by
    have e2 : k + 1 + 1 + 1 + 11 = (k + 1 + 11) + 1 + 1 := by omega
    rw [e2]
    generalize k + 1 + 11 = K
    rw [polyglotlaw05_From.l0]
    rw [leap_eq]
    simp only [Option.bind_some]
    cases hl : lp y with
    | true =>
      simp only [hl, if_true] at r
      rw [if_pos rfl, if_pos (by omega)]
      simp only [polyglotlaw05_From.j5]
    | false =>
      simp only [hl, Bool.false_eq_true, if_false] at r
      rw [if_neg (by simp), if_pos (by omega)]
      simp only [polyglotlaw05_From.j5]
  rw [a]
  have em : (1 : Int) + ((M - 1).toNat : Int) = M := by omega
  have c1 : cum y 1 = 0 := by unfold cum; simp
  have rr : cum y M + D - 1 ≤ 400 := by cases hl : lp y <;> simp only [hl, if_true, Bool.false_eq_true, if_false] at r <;> omega
  have ek : k + 1 + 11 = (k + 1 + (12 - M).toNat) + (M - 1).toNat := by omega
  rw [ek, l1_run l w s y (M - 1).toNat (k + 1 + (12 - M).toNat) _ 1 (by omega) (by omega) (by omega) rr (by rw [em]; omega), em]
  have ex2 : cum y M + D - 1 - (cum y M - cum y 1) = D - 1 := by omega
  have ek2 : k + 1 + (12 - M).toNat = (k + (12 - M).toNat) + 1 := by omega
  have dr := dim_rng y M
  rw [ex2, ek2]
  simp only [polyglotlaw05_From.l1]
  by_cases hk0 : 0 < k + (12 - M).toNat
  · rw [days_in _ y M hk0 m.1 m.2]
    simp only [Option.bind_some]
    rw [if_neg (by omega), wrap_id (x := D - 1 + 1) (by omega) (by omega), wrap_id (x := 400 * s) (by omega) (by omega), wrap_id (x := y + 400 * s) (by omega) (by omega), tdiv_pos hl, tdiv_pos hl, wrap_id (x := l / 3600) (by omega) (by omega), wrap_id (x := l / 60) (by omega) (by omega), tmod_pos hl, tmod_pos (show 0 ≤ l / 60 by omega)]
    have e3 : D - 1 + 1 = D := by omega
    rw [e3]
  · omega
theorem lawFrom_eq (a : Int) (k : Nat) (hk : 600 ≤ k) : polyglotlaw05_From.f k a = some (civil (clamp a)) := by
  obtain ⟨k, rfl⟩ : ∃ j, k = j + 1 + 1 + 1 := ⟨k - 3, by omega⟩
  have hc := clamp_rng a
  have h1 : polyglotlaw05_From.f (k + 1 + 1 + 1) a = polyglotlaw05_From.j1 (k + 1 + 1) (clamp a) := by
    unfold polyglotlaw05_From.f clamp
    by_cases g : a > 9007199254740992
    · rw [if_pos g, if_pos g]; simp only [polyglotlaw05_From.j0]; rw [if_neg (by omega)]
    · rw [if_neg g, if_neg g]; simp only [polyglotlaw05_From.j0]
      by_cases g2 : a < -9007199254740992
      · rw [if_pos g2, if_pos g2]
      · rw [if_neg g2, if_neg g2]
  rw [h1]
  generalize clamp a = c at *
  have h2 : polyglotlaw05_From.j1 (k + 1 + 1) c = polyglotlaw05_From.j2 (k + 1) (c / 86400 - 10957) (c % 86400) := by
    simp only [polyglotlaw05_From.j1]
    have q := tdivmod c 86400 (by omega)
    by_cases g : c.tmod 86400 < 0
    · obtain ⟨q1, q2⟩ := q.1 g
      rw [if_pos g, wrap_id (x := c.tdiv 86400) (by omega) (by omega), wrap_id (x := c.tdiv 86400 - 10957) (by omega) (by omega), wrap_id (by omega) (by omega), wrap_id (by omega) (by omega), q1, q2]
      congr 1; omega
    · obtain ⟨q1, q2⟩ := q.2 g
      rw [if_neg g, wrap_id (x := c.tdiv 86400) (by omega) (by omega), wrap_id (by omega) (by omega), q1, q2]
  rw [h2]
  have n1 : -104249991375 ≤ c / 86400 := by omega
  have n2 : c / 86400 ≤ 104249991375 := by omega
  have l1 : 0 ≤ c % 86400 := by omega
  have l2 : c % 86400 < 86400 := by omega
  unfold civil
  have e60 : c % 60 = c % 86400 % 60 := by omega
  rw [e60]
  generalize c % 86400 = l at *
  generalize c / 86400 = n at *
  have h3 : polyglotlaw05_From.j2 (k + 1) (n - 10957) l = polyglotlaw05_From.j3 k ((n - 10957) % 146097) l ((n + 4) % 7) ((n - 10957) / 146097) := by
    simp only [polyglotlaw05_From.j2]
    have w : (wrap64 (wrap64 ((n - 10957).tmod 7 + 7) + 6)).tmod 7 = (n + 4) % 7 := by
      have q := tdivmod (n - 10957) 7 (by omega)
      have u := Int.tmod_lt_of_pos (n - 10957) (show (0 : Int) < 7 by omega)
      by_cases g : (n - 10957).tmod 7 < 0
      · have q2 := (q.1 g).2
        rw [wrap_id (x := (n - 10957).tmod 7 + 7) (by omega) (by omega), wrap_id (by omega) (by omega), tmod_pos (by omega)]
        omega
      · have q2 := (q.2 g).2
        rw [wrap_id (x := (n - 10957).tmod 7 + 7) (by omega) (by omega), wrap_id (by omega) (by omega), tmod_pos (by omega)]
        omega
    rw [w]
    have q := tdivmod (n - 10957) 146097 (by omega)
    by_cases g : (n - 10957).tmod 146097 < 0
    · obtain ⟨q1, q2⟩ := q.1 g
      rw [if_pos g, wrap_id (x := (n - 10957).tdiv 146097) (by omega) (by omega), wrap_id (by omega) (by omega), wrap_id (by omega) (by omega), q1, q2]
    · obtain ⟨q1, q2⟩ := q.2 g
      rw [if_neg g, wrap_id (x := (n - 10957).tdiv 146097) (by omega) (by omega), q1, q2]
  rw [h3, j3_eq n l _ _ rfl l1 l2 n1 n2 k (by omega)]
end Go.Proofs.YtpedajhcfkohlaaDoor.Pure
