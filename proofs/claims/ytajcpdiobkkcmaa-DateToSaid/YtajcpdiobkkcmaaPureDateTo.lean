import Derived.Test.YtajcpdiobkkcmaaPDatex3
import Derived.Test.YtajcpdiobkkcmaaDateF
/- Any day and time that there may be, as seconds, and back. -/
namespace Go.Proofs.Ytajcpdiobkkcmaa.Pure
open Go.RowKit Go.Proofs.Ytajcpdiobkkcmaa.PDate Go.Proofs.YtajcpdiobkkcmaaHand Go.Proofs.YtajcpdiobkkcmaaW.PrintWords Go.Proofs.YtajcpdiobkkcmaaW.PrintLast
theorem u64_rng (x : Int) : 0 ≤ IntKind.u64.wrap x ∧ IntKind.u64.wrap x < 18446744073709551616 := by
  have e : IntKind.u64.wrap x = x % 18446744073709551616 := by rfl
  rw [e]; omega
theorem civil_shift (y m d t : Int) (h1 : 1 ≤ m) (h2 : m ≤ 12) (h3 : 1 ≤ d) (h4 : d ≤ dim y m) (t1 : 0 ≤ t) (t2 : t < 86400) (n : Int) (hn : n = num y m d) :
    civil (n * 86400 + t) = (y, m, d, t / 3600, t / 60 % 60, t % 60, (n + 4) % 7) := by
  have k := civil_num y m d h1 h2 h3 h4
  rw [← hn] at k
  unfold civil
  have e1 : (n * 86400 + t) / 86400 = n := by omega
  have e2 : (n * 86400 + t) % 86400 = t := by omega
  have e3 : (n * 86400 + t) % 60 = t % 60 := by omega
  rw [e1, e2, e3, k.1, k.2.1, k.2.2]
theorem DateTo : polyglotlaw05_DateTo.Pure := by
  intro a0 a1 a2 a3 _ _ _ _
  refine ⟨1, ?_⟩
  unfold polyglotlaw05_DateTo.f
  rw [head_true]
  simp only [Option.bind_some, if_true]
  have y1 : -100000 ≤ a0.tmod 100000 := by
    have q := tdivmod a0 100000 (by decide)
    have e0 := Int.emod_nonneg a0 (show (100000 : Int) ≠ 0 by decide)
    generalize a0.tmod 100000 = z at *
    by_cases h : z < 0
    · have r := (q.1 h).2
      omega
    · omega
  have y2 : a0.tmod 100000 < 100000 := Int.tmod_lt_of_pos a0 (by decide)
  generalize a0.tmod 100000 = y at *
  have u1 := u64_rng a1
  have u2 := u64_rng a2
  have u3 := u64_rng a3
  generalize IntKind.u64.wrap a1 = b1 at *
  generalize IntKind.u64.wrap a2 = b2 at *
  generalize IntKind.u64.wrap a3 = b3 at *
  rw [tmod_pos u1.1, tmod_pos u3.1]
  rw [wrap_id (x := b1 % 12) (by omega) (by omega), wrap_id (x := 1 + b1 % 12) (by omega) (by omega), wrap_id (x := b3 % 86400) (by omega) (by omega)]
  have m1 : 1 ≤ 1 + b1 % 12 := by omega
  have m2 : 1 + b1 % 12 ≤ 12 := by omega
  generalize 1 + b1 % 12 = m at *
  rw [days_in 1 y m (by omega) m1 m2]
  simp only [Option.bind_some]
  have dr := dim_rng y m
  have ud : IntKind.u64.wrap (dim y m) = dim y m := by
    have e : IntKind.u64.wrap (dim y m) = dim y m % 18446744073709551616 := by rfl
    rw [e]; omega
  rw [ud, if_neg (by omega), tmod_pos u2.1]
  have d0 : 0 ≤ b2 % dim y m := Int.emod_nonneg _ (by omega)
  have d9 : b2 % dim y m < dim y m := Int.emod_lt_of_pos _ (by omega)
  rw [wrap_id (x := b2 % dim y m) (by omega) (by omega), wrap_id (x := 1 + b2 % dim y m) (by omega) (by omega)]
  have d1 : 1 ≤ 1 + b2 % dim y m := by omega
  have d2 : 1 + b2 % dim y m ≤ dim y m := by omega
  generalize 1 + b2 % dim y m = d at *
  have t1 : 0 ≤ b3 % 86400 := by omega
  have t2 : b3 % 86400 < 86400 := by omega
  generalize b3 % 86400 = t at *
  rw [tdiv_pos t1, tdiv_pos t1, tmod_pos t1, wrap_id (x := t / 3600) (by omega) (by omega), wrap_id (x := t / 60) (by omega) (by omega), tmod_pos (show 0 ≤ t / 60 by omega)]
  rw [To_eq y m d (t / 3600) (t / 60 % 60) (t % 60) 0 (by omega) (by omega) m1 m2 d1 (by omega) (by omega) (by omega) (by omega) (by omega) (by omega) (by omega)]
  simp only [Option.bind_some]
  have et : num y m d * 86400 + t / 3600 * 3600 + t / 60 % 60 * 60 + t % 60 = num y m d * 86400 + t := by omega
  rw [et]
  have nb : -60000000 ≤ num y m d ∧ num y m d ≤ 60000000 := by
    rw [num_eq y m d m1 m2]
    have := cum_rng y m d m1 m2 d1 d2
    unfold jan
    cases hl : lp y <;> simp only [hl, if_true, Bool.false_eq_true, if_false] at this <;> omega
  have c1 : clamp (num y m d * 86400 + t) = num y m d * 86400 + t := by unfold clamp; omega
  have e4 : num (y + 400) m d = num y m d + 146097 := by
    rw [num_eq _ _ _ m1 m2, num_eq _ _ _ m1 m2]
    have jc := jan_cycle y 1
    have lc := lp_cycle y 1
    have e : y + 400 * 1 = y + 400 := by omega
    rw [e] at jc lc
    have cc : cum (y + 400) m = cum y m := by unfold cum; rw [lc]
    rw [jc, cc]; omega
  have dd : dim (y + 400) m = dim y m := by
    have lc := lp_cycle y 1
    have e : y + 400 * 1 = y + 400 := by omega
    rw [e] at lc
    unfold dim; rw [lc]
  have e5 : num y m d * 86400 + t + 12622780800 = (num y m d + 146097) * 86400 + t := by omega
  rw [wrap_id (x := num y m d * 86400 + t + 12622780800) (by omega) (by omega), e5]
  have c2 : clamp ((num y m d + 146097) * 86400 + t) = (num y m d + 146097) * 86400 + t := by unfold clamp; omega
  simp only [date_From.f, c1, c2, Option.bind_some]
  rw [civil_shift y m d t m1 m2 d1 d2 t1 t2 (num y m d) rfl, civil_shift (y + 400) m d t m1 m2 d1 (by rw [dd]; exact d2) t1 t2 (num y m d + 146097) e4.symm]
  have e7 : (num y m d + 146097 + 4) % 7 = (num y m d + 4) % 7 := by omega
  rw [wrap_id (x := y + 400) (by omega) (by omega), e7]
  simp
end Go.Proofs.Ytajcpdiobkkcmaa.Pure
