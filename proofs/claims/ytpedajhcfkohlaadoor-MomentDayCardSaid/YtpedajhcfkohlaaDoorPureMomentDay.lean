import Derived.Test.YtpedajhcfkohlaaDoorMomR
/- The minutes of a day: each has another clock than the one before, all have one day; the next day has another text. -/
namespace Go.Proofs.YtpedajhcfkohlaaDoor.Pure
open Go.RowKit Go.Proofs.YtpedajhcfkohlaaDoor.PMom Go.Proofs.YtpedajhcfkohlaaDoorHand Go.Proofs.YtpedajhcfkohlaaDoorW.PrintWords Go.Proofs.YtpedajhcfkohlaaDoorW.PrintLast Go.Proofs.YtpedajhcfkohlaaDoorW.PrintMore
/-- The day behind a day. -/
theorem next_day (n : Int) : (cday n < dim (cyear n) (cmon n) ∧ cyear (n + 1) = cyear n ∧ cmon (n + 1) = cmon n ∧ cday (n + 1) = cday n + 1) ∨
    (cday n = dim (cyear n) (cmon n) ∧ cmon n < 12 ∧ cyear (n + 1) = cyear n ∧ cmon (n + 1) = cmon n + 1 ∧ cday (n + 1) = 1) ∨
    (cday n = 31 ∧ cmon n = 12 ∧ cyear (n + 1) = cyear n + 1 ∧ cmon (n + 1) = 1 ∧ cday (n + 1) = 1) := by
  have m := mon_rng n
  have d := day_rng n
  have e := num_civil n
  generalize cyear n = y at *
  generalize cmon n = M at *
  generalize cday n = D at *
  by_cases h : D < dim y M
  · have k := civil_num y M (D + 1) m.1 m.2 (by omega) (by omega)
    have e2 : num y M (D + 1) = n + 1 := by rw [num_eq _ _ _ m.1 m.2] at *; omega
    rw [e2] at k
    exact .inl ⟨h, k.1, k.2.1, k.2.2⟩
  · have hD : D = dim y M := by omega
    by_cases h12 : M < 12
    · have k := civil_num y (M + 1) 1 (by omega) (by omega) (by omega) (by unfold dim; split <;> (try split) <;> omega)
      have e2 : num y (M + 1) 1 = n + 1 := by
        rw [num_eq _ _ _ (by omega) (by omega)]
        rw [num_eq _ _ _ m.1 m.2] at e
        have c : cum y (M + 1) = cum y M + dim y M := by
          have h : M = 1 ∨ M = 2 ∨ M = 3 ∨ M = 4 ∨ M = 5 ∨ M = 6 ∨ M = 7 ∨ M = 8 ∨ M = 9 ∨ M = 10 ∨ M = 11 := by omega
          unfold cum dim
          cases hl : lp y <;> rcases h with rfl | rfl | rfl | rfl | rfl | rfl | rfl | rfl | rfl | rfl | rfl <;> simp
        omega
      rw [e2] at k
      exact .inr (.inl ⟨hD, h12, k.1, k.2.1, k.2.2⟩)
    · obtain rfl : M = 12 := by omega
      have h31 : D = 31 := by rw [hD]; unfold dim; simp
      have k := civil_num (y + 1) 1 1 (by omega) (by omega) (by omega) (by unfold dim; simp)
      have e2 : num (y + 1) 1 1 = n + 1 := by
        rw [num_eq _ _ _ (by omega) (by omega), jan_succ]
        rw [num_eq _ _ _ (by omega) (by omega)] at e
        have c1 : cum (y + 1) 1 = 0 := by unfold cum; simp
        have c2 : cum y 12 = 334 + (if lp y then 1 else 0) := by unfold cum; cases lp y <;> simp
        omega
      rw [e2] at k
      exact .inr (.inr ⟨h31, rfl, k.1, k.2.1, k.2.2⟩)
theorem day_moves (n : Int) : cday (n + 1) ≠ cday n := by
  have m := mon_rng n
  have d := day_rng n
  have r := dim_rng (cyear n) (cmon n)
  rcases next_day n with h | h | h <;> omega
theorem at_day (q x : Int) (q1 : -30000000000 ≤ q) (q2 : q ≤ 30000000000) (x0 : 0 ≤ x) (x1 : x < 86400) :
    yS (q * 86400 + x) = cyear q ∧ moS (q * 86400 + x) = cmon q ∧ dS (q * 86400 + x) = cday q ∧ hS (q * 86400 + x) = x / 3600 ∧ mS (q * 86400 + x) = x / 60 % 60 := by
  have c : clamp (q * 86400 + x) = q * 86400 + x := by unfold clamp; omega
  have e1 : (q * 86400 + x) / 86400 = q := by omega
  have e2 : (q * 86400 + x) % 86400 = x := by omega
  unfold yS moS dS hS mS
  rw [c, e1, e2]
  exact ⟨rfl, rfl, rfl, rfl, rfl⟩
theorem l0_true (q : Int) (lang : ByteArray) (q1 : -20000000 * 1000 ≤ q) (q2 : q ≤ 20000000 * 1000) (n : Nat) : ∀ (k : Nat) (x : Int) (before : List UInt8), 700 + n < k → x + n = 1440 → 0 ≤ x →
    (x = 0 → before = []) → (0 < x → before = clockL lang ((x - 1) / 60) ((x - 1) % 60)) →
    polyglotlaw13_MomentDay.l0 k (q * 86400) lang ⟨(dayL lang (cyear q) (cmon q) (cday q)).toArray⟩ ⟨before.toArray⟩ x = some true := by
  induction n with
  | zero =>
    intro k x before hk hx x0 b0 b1
    obtain ⟨k, rfl⟩ : ∃ j, k = j + 1 := ⟨k - 1, by omega⟩
    rw [polyglotlaw13_MomentDay.l0, if_neg (by omega), wrap_id (x := q * 86400 + 86400) (by omega) (by omega), fmt_eq k _ _ _ (by omega)]
    have e : q * 86400 + 86400 = (q + 1) * 86400 + 0 := by omega
    obtain ⟨a1, a2, a3, a4, a5⟩ := at_day (q + 1) 0 (by omega) (by omega) (by omega) (by omega)
    rw [e, a1, a2, a3, a4, a5]
    simp only [Option.bind_some, mk_list]
    have ne : fmtL lang (cyear (q + 1)) (cmon (q + 1)) (cday (q + 1)) (0 / 3600) (0 / 60 % 60) 0 ≠ dayL lang (cyear q) (cmon q) (cday q) := by
      intro h
      have h' : dayL lang (cyear (q + 1)) (cmon (q + 1)) (cday (q + 1)) = dayL lang (cyear q) (cmon q) (cday q) := h
      have m := mon_rng q
      have m' := mon_rng (q + 1)
      have d := day_rng q
      have d' := day_rng (q + 1)
      have r := dim_rng (cyear q) (cmon q)
      have r' := dim_rng (cyear (q + 1)) (cmon (q + 1))
      exact day_moves q (dayL_ne lang _ _ _ _ _ _ (by omega) (by omega) (by omega) (by omega) (by omega) (by omega) (by omega) (by omega) h')
    exact congrArg some (bne_iff_ne.2 ne)
  | succ n ih =>
    intro k x before hk hx x0 b0 b1
    obtain ⟨k, rfl⟩ : ∃ j, k = j + 1 := ⟨k - 1, by omega⟩
    rw [polyglotlaw13_MomentDay.l0, if_pos (by omega), wrap_id (x := 60 * x) (by omega) (by omega), wrap_id (x := q * 86400 + 60 * x) (by omega) (by omega), tmod_pos x0, wrap_id (x := q * 86400 + 60 * x + x % 60) (by omega) (by omega), wrap_id (x := x + 1) (by omega) (by omega)]
    rw [fmt_eq k _ _ _ (by omega), fmt_eq k _ _ _ (by omega), lfmt_eq k _ _ _ (by omega)]
    obtain ⟨a1, a2, a3, a4, a5⟩ := at_day q (60 * x) (by omega) (by omega) (by omega) (by omega)
    obtain ⟨c1, c2, c3, c4, c5⟩ := at_day q (60 * x + x % 60) (by omega) (by omega) (by omega) (by omega)
    have ec : q * 86400 + 60 * x + x % 60 = q * 86400 + (60 * x + x % 60) := by omega
    rw [ec, a1, a2, a3, a4, a5, c1, c2, c3, c4, c5]
    have e1 : 60 * x / 3600 = x / 60 := by omega
    have e2 : 60 * x / 60 % 60 = x % 60 := by omega
    have e3 : (60 * x + x % 60) / 3600 = x / 60 := by omega
    have e5 : (60 * x + x % 60) / 60 = x := by omega
    have e4 : (60 * x + x % 60) / 60 % 60 = x % 60 := by rw [e5]
    rw [e1, e2, e3, e4]
    simp only [Option.bind_some, mk_list]
    have f1 : fmtL lang (cyear q) (cmon q) (cday q) (x / 60) (x % 60) 1 = clockL lang (x / 60) (x % 60) := rfl
    have f0 : fmtL lang (cyear q) (cmon q) (cday q) (x / 60) (x % 60) 0 = dayL lang (cyear q) (cmon q) (cday q) := rfl
    rw [f1, f0]
    have ne : clockL lang (x / 60) (x % 60) ≠ before := by
      by_cases h : x = 0
      · rw [b0 h]; exact clockL_some _ _ _
      · rw [b1 (by omega)]
        intro e
        have := clockL_min lang _ _ _ _ (by omega) (by omega) (by omega) (by omega) e
        omega
    rw [if_neg ne, if_pos rfl]
    simp only [if_true]
    exact ih k (x + 1) _ (by omega) (by omega) (by omega) (by omega) (fun _ => by rw [show x + 1 - 1 = x by omega])
theorem day_any (k : Nat) (hk : 2500 ≤ k) (a : Int) (lang : ByteArray) : polyglotlaw13_MomentDay.f k a lang = some true := by
  have t1 : -1125899906842624 ≤ a.tmod 1125899906842624 := by
    have q := tdivmod a 1125899906842624 (by decide)
    have e0 := Int.emod_nonneg a (show (1125899906842624 : Int) ≠ 0 by decide)
    generalize a.tmod 1125899906842624 = z at *
    by_cases h : z < 0
    · have r := (q.1 h).2; omega
    · omega
  have t2 : a.tmod 1125899906842624 < 1125899906842624 := Int.tmod_lt_of_pos a (by omega)
  unfold polyglotlaw13_MomentDay.f
  rw [head_true k (by omega)]
  simp only [Option.bind_some, if_true]
  generalize a.tmod 1125899906842624 = s at *
  obtain ⟨q, hq⟩ : ∃ q : Int, s - s.tmod 86400 = q * 86400 := ⟨s.tdiv 86400, by have := Int.mul_tdiv_add_tmod s 86400; omega⟩
  have u := tdivmod s 86400 (by decide)
  have u1 : s.tmod 86400 < 86400 := Int.tmod_lt_of_pos s (by omega)
  have u2 : -86400 ≤ s.tmod 86400 := by
    by_cases g : s.tmod 86400 < 0
    · have := (u.1 g).2; omega
    · omega
  rw [hq, wrap_id (x := q * 86400) (by omega) (by omega), fmt_eq k _ _ 0 (by omega)]
  obtain ⟨a1, a2, a3, a4, a5⟩ := at_day q 0 (by omega) (by omega) (by omega) (by omega)
  rw [Int.add_zero] at a1 a2 a3 a4 a5
  rw [a1, a2, a3, a4, a5]
  simp only [Option.bind_some]
  exact l0_true q lang (by omega) (by omega) 1440 k 0 [] (by omega) (by omega) (by omega) (fun _ => rfl) (fun h => by omega)
theorem MomentDay : polyglotlaw13_MomentDay.Pure := fun a lang _ _ => ⟨2500, day_any 2500 (Nat.le_refl _) a lang⟩
end Go.Proofs.YtpedajhcfkohlaaDoor.Pure
