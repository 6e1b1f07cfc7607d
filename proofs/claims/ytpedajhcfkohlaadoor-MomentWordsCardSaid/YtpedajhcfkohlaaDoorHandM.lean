import Derived.Test.YtpedajhcfkohlaaDoorDate
import Derived.Test.YtpedajhcfkohlaaDoorShelf
import Derived.Test.YtpedajhcfkohlaaDoorWMore
import Derived.Lib.Hide
import Derived.Shelf.Unicode.PredsPay
/- The walk of date.From. -/
namespace Go.Proofs.YtpedajhcfkohlaaDoorHand
open Go.RowKit Go.Proofs.YtpedajhcfkohlaaDoorW.PrintWords Go.Proofs.YtpedajhcfkohlaaDoorW.PrintLast Go.Proofs.YtpedajhcfkohlaaDoorW.PrintMore
attribute [local go_sem] max2_int min2_int
set_option linter.unusedVariables false
set_option linter.unusedSimpArgs false
theorem bound_any (s : Int) (w : World) : Calls Tryd.prog 67 #[.int .i64 s] w fun e w' => e = .returned (.int .i64 (clamp s)) ∧ w = w' := by
  have e : max (-9007199254740992) (min s 9007199254740992) = clamp s := by unfold clamp; omega
  go_enter Tryd.func67, Tryd.ntmps67
  go_wp2
  all_goals
    go_ret
    exact ⟨congrArg (fun z => Ending.returned (.int .i64 z)) (by first | exact e | rfl), rfl⟩
/-! ### date_floor: function 29 -/
def date_floor.f (a0 : Int) (a1 : Int) : Option (Int × Int) := if a1 = 0 then (none) else (if (Int.tmod a0 a1) < 0 then (some (wrap64 ((wrap64 (Int.tdiv a0 a1)) - 1), wrap64 ((Int.tmod a0 a1) + a1))) else (some (wrap64 (Int.tdiv a0 a1), Int.tmod a0 a1)))
set_option maxHeartbeats 8000000 in
set_option maxRecDepth 100000 in
theorem date_floor.calls (a0 : Int) (a1 : Int) (r1 : Int) (r2 : Int) (w : World) (h : date_floor.f a0 a1 = some (r1, r2)) :
    Calls Tryd.prog 66 #[.int .i64 a0, .int .i64 a1] w fun e w' => e = .returned (.tuple #[.int .i64 r1, .int .i64 r2]) ∧ Drawn0 w w' := by
  have H : (if a1 = 0 then (none) else (if (Int.tmod a0 a1) < 0 then (some (wrap64 ((wrap64 (Int.tdiv a0 a1)) - 1), wrap64 ((Int.tmod a0 a1) + a1))) else (some (wrap64 (Int.tdiv a0 a1), Int.tmod a0 a1)))) = some (r1, r2) := h
  clear h
  by_cases c3 : a1 = 0
  · rw [if_pos c3] at H
    exact absurd H (by simp)
  · rw [if_neg c3] at H
    have c3b0 : (a1 == 0) = false := beq_eq_false_iff_ne.mpr c3
    have c3b1 : (a1 != 0) = true := bne_iff_ne.mpr c3
    by_cases c4 : (Int.tmod a0 a1) < 0
    · rw [if_pos c4] at H
      have c4b0 : decide ((Int.tmod a0 a1) < 0) = true := decide_eq_true c4
      clear c4
      simp only [Option.some.injEq, Prod.mk.injEq] at H
      obtain ⟨rfl, rfl⟩ := H
      go_enter Tryd.func66, Tryd.ntmps66
      go_wp2
      repeat (go_quiet (fail); try go_wp2)
      go_ret2
      exact ⟨by first | rfl | (simp; done) | (simp [*]; done), by repeat (first | exact Drawn0.refl _ | apply Drawn0.step)⟩
    · rw [if_neg c4] at H
      have c4b0 : decide ((Int.tmod a0 a1) < 0) = false := decide_eq_false c4
      clear c4
      simp only [Option.some.injEq, Prod.mk.injEq] at H
      obtain ⟨rfl, rfl⟩ := H
      go_enter Tryd.func66, Tryd.ntmps66
      go_wp2
      repeat (go_quiet (fail); try go_wp2)
      go_ret2
      exact ⟨by first | rfl | (simp; done) | (simp [*]; done), by repeat (first | exact Drawn0.refl _ | apply Drawn0.step)⟩

theorem floor_eq (a b : Int) (hb : 0 < b) (hb2 : b ≤ 1000000) (q1 : -4611686018427387904 ≤ a / b) (q2 : a / b ≤ 4611686018427387904) : date_floor.f a b = some (a / b, a % b) := by
  have k := tdivmod a b hb
  have m1 := Int.emod_nonneg a (show b ≠ 0 by omega)
  have m2 := Int.emod_lt_of_pos a hb
  unfold date_floor.f
  rw [if_neg (by omega)]
  by_cases h : a.tmod b < 0
  · obtain ⟨e1, e2⟩ := k.1 h
    rw [if_pos h, wrap_id (x := a.tdiv b) (by omega) (by omega), wrap_id (by omega) (by omega), wrap_id (by omega) (by omega), e1, e2]
  · obtain ⟨e1, e2⟩ := k.2 h
    rw [if_neg h, wrap_id (x := a.tdiv b) (by omega) (by omega), e1, e2]

set_option maxRecDepth 100000 in
set_option maxHeartbeats 1000000 in
theorem From_core (s c n l q wk E D y d p : Int) (w : World) (hc : clamp s = c) (h1 : date_floor.f c 86400 = some (n, l)) (h2 : date_floor.f (n + 4) 7 = some (q, wk)) (h3 : date_floor.f (n + 719468) 146097 = some (E, D))
    (bn1 : -104249991375 ≤ n) (bn2 : n ≤ 104249991375) (bl1 : 0 ≤ l) (bl2 : l < 86400) (bD1 : 0 ≤ D) (bD2 : D < 146097) (bE1 : -800000 ≤ E) (bE2 : E ≤ 800000)
    (hy : (D - D / 1460 + D / 36524 - D / 146096) / 365 = y) (by1 : 0 ≤ y) (by2 : y ≤ 399)
    (hd : D - (365 * y + y / 4 - y / 100) = d) (bd1 : 0 ≤ d) (bd2 : d ≤ 365) (hp : (5 * d + 2) / 153 = p) (bp1 : 0 ≤ p) (bp2 : p ≤ 11) (Y M : Int) (hY : (if p + 3 > 12 then E * 400 + y + 1 else E * 400 + y) = Y) (hM : (if p + 3 > 12 then p + 3 - 12 else p + 3) = M) :
    Calls Tryd.prog 48 #[.int .i64 s] w fun e w' => e = .returned (.agg #[.int .i64 Y, .int .i64 M, .int .i64 (d - (153 * p + 2) / 5 + 1), .int .i64 (l / 3600), .int .i64 (l / 60 % 60), .int .i64 (l % 60), .int .i64 wk]) ∧ Below w.heap.size w w' := by
  have H1 := Lib.hid h1
  have H2 := Lib.hid h2
  have H3 := Lib.hid h3
  have HC := Lib.hid hc
  have HY := Lib.hid hY
  have HM := Lib.hid hM
  clear h1 h2 h3 hc hY hM
  go_enter Tryd.func48, Tryd.ntmps48
  go_wp2_with fail
  refine (bound_any s _).mono ?_
  rintro e w1 ⟨rfl, rfl⟩
  rw [HC.out]
  go_wp2_with fail
  refine (date_floor.calls c 86400 n l _ H1.out).mono ?_
  rintro e w1 ⟨rfl, ⟨n1, rfl⟩⟩
  go_wp2_with fail
  refine (date_floor.calls (n + 4) 7 q wk _ H2.out).mono ?_
  rintro e w1 ⟨rfl, ⟨n2, rfl⟩⟩
  go_wp2_with fail
  refine (date_floor.calls (n + 719468) 146097 E D _ H3.out).mono ?_
  rintro e w1 ⟨rfl, ⟨n3, rfl⟩⟩
  by_cases h12 : p + 3 > 12
  · go_wp2
    refine bodyPost_ret (v := .agg #[.int .i64 (E * 400 + y + 1), .int .i64 (p + 3 - 12), .int .i64 (d - (153 * p + 2) / 5 + 1), .int .i64 (l / 3600), .int .i64 (l / 60 % 60), .int .i64 (l % 60), .int .i64 wk]) (results_cell_row rfl _ _ w.heap.size 66 #[.int .i64 (E * 400 + y + 1), .int .i64 (p + 3 - 12), .int .i64 (d - (153 * p + 2) / 5 + 1), .int .i64 (l / 3600), .int .i64 (l / 60 % 60), .int .i64 (l % 60), .int .i64 wk] (0, 0) _ rfl ?hb Tryd.underlying66 rfl (by kernel_rfl)) rfl ⟨by rw [← HY.out, ← HM.out, if_pos h12, if_pos h12], ?_⟩
    case hb => exact (by refine blk_alloc ?_ _; refine blk_put (cs := #[.int .i64 (E * 400 + y + 1), .int .i64 (p + 3 - 12), .int .i64 (d - (153 * p + 2) / 5 + 1), .int .i64 (l / 3600), .int .i64 (l / 60 % 60), .int .i64 (l % 60), .int .i64 0]) ?_ 6 _ rfl; refine blk_put (cs := #[.int .i64 (E * 400 + y + 1), .int .i64 (p + 3 - 12), .int .i64 (d - (153 * p + 2) / 5 + 1), .int .i64 (l / 3600), .int .i64 (l / 60 % 60), .int .i64 0, .int .i64 0]) ?_ 5 _ rfl; refine blk_put (cs := #[.int .i64 (E * 400 + y + 1), .int .i64 (p + 3 - 12), .int .i64 (d - (153 * p + 2) / 5 + 1), .int .i64 (l / 3600), .int .i64 0, .int .i64 0, .int .i64 0]) ?_ 4 _ rfl; refine blk_put (cs := #[.int .i64 (E * 400 + y + 1), .int .i64 (p + 3 - 12), .int .i64 (d - (153 * p + 2) / 5 + 1), .int .i64 0, .int .i64 0, .int .i64 0, .int .i64 0]) ?_ 3 _ rfl; refine blk_put (cs := #[.int .i64 (E * 400 + y + 1), .int .i64 (p + 3 - 12), .int .i64 0, .int .i64 0, .int .i64 0, .int .i64 0, .int .i64 0]) ?_ 2 _ rfl; refine blk_put (cs := #[.int .i64 (E * 400 + y + 1), .int .i64 0, .int .i64 0, .int .i64 0, .int .i64 0, .int .i64 0, .int .i64 0]) ?_ 1 _ rfl; refine blk_put (cs := #[.int .i64 0, .int .i64 0, .int .i64 0, .int .i64 0, .int .i64 0, .int .i64 0, .int .i64 0]) ?_ 0 _ rfl; refine blk_drewN ?_ _; exact blk_new _ _)
    repeat (first | (with_reducible exact Below.refl _ _) | (with_reducible apply below_alloc) | (with_reducible apply pw_below_drewN) | (with_reducible refine below_set ?_ (Nat.le_refl _)))
  · go_wp2
    refine bodyPost_ret (v := .agg #[.int .i64 (E * 400 + y), .int .i64 (p + 3), .int .i64 (d - (153 * p + 2) / 5 + 1), .int .i64 (l / 3600), .int .i64 (l / 60 % 60), .int .i64 (l % 60), .int .i64 wk]) (results_cell_row rfl _ _ w.heap.size 66 #[.int .i64 (E * 400 + y), .int .i64 (p + 3), .int .i64 (d - (153 * p + 2) / 5 + 1), .int .i64 (l / 3600), .int .i64 (l / 60 % 60), .int .i64 (l % 60), .int .i64 wk] (0, 0) _ rfl ?hb Tryd.underlying66 rfl (by kernel_rfl)) rfl ⟨by rw [← HY.out, ← HM.out, if_neg (Int.not_lt.2 h12), if_neg (Int.not_lt.2 h12)], ?_⟩
    case hb => exact (by refine blk_alloc ?_ _; refine blk_put (cs := #[.int .i64 (E * 400 + y), .int .i64 (p + 3), .int .i64 (d - (153 * p + 2) / 5 + 1), .int .i64 (l / 3600), .int .i64 (l / 60 % 60), .int .i64 (l % 60), .int .i64 0]) ?_ 6 _ rfl; refine blk_put (cs := #[.int .i64 (E * 400 + y), .int .i64 (p + 3), .int .i64 (d - (153 * p + 2) / 5 + 1), .int .i64 (l / 3600), .int .i64 (l / 60 % 60), .int .i64 0, .int .i64 0]) ?_ 5 _ rfl; refine blk_put (cs := #[.int .i64 (E * 400 + y), .int .i64 (p + 3), .int .i64 (d - (153 * p + 2) / 5 + 1), .int .i64 (l / 3600), .int .i64 0, .int .i64 0, .int .i64 0]) ?_ 4 _ rfl; refine blk_put (cs := #[.int .i64 (E * 400 + y), .int .i64 (p + 3), .int .i64 (d - (153 * p + 2) / 5 + 1), .int .i64 0, .int .i64 0, .int .i64 0, .int .i64 0]) ?_ 3 _ rfl; refine blk_put (cs := #[.int .i64 (E * 400 + y), .int .i64 (p + 3), .int .i64 0, .int .i64 0, .int .i64 0, .int .i64 0, .int .i64 0]) ?_ 2 _ rfl; refine blk_put (cs := #[.int .i64 (E * 400 + y), .int .i64 0, .int .i64 0, .int .i64 0, .int .i64 0, .int .i64 0, .int .i64 0]) ?_ 1 _ rfl; refine blk_put (cs := #[.int .i64 0, .int .i64 0, .int .i64 0, .int .i64 0, .int .i64 0, .int .i64 0, .int .i64 0]) ?_ 0 _ rfl; refine blk_drewN ?_ _; exact blk_new _ _)
    repeat (first | (with_reducible exact Below.refl _ _) | (with_reducible apply below_alloc) | (with_reducible apply pw_below_drewN) | (with_reducible refine below_set ?_ (Nat.le_refl _)))
def date_From.f (s : Int) : Option (Int × Int × Int × Int × Int × Int × Int) := some (civil (clamp s))
theorem date_From.calls (a0 : Int) (r1 : Int) (r2 : Int) (r3 : Int) (r4 : Int) (r5 : Int) (r6 : Int) (r7 : Int) (w : World) (h : date_From.f a0 = some (r1, r2, r3, r4, r5, r6, r7)) :
    Calls Tryd.prog 48 #[.int .i64 a0] w fun e w' => e = .returned (.agg #[.int .i64 r1, .int .i64 r2, .int .i64 r3, .int .i64 r4, .int .i64 r5, .int .i64 r6, .int .i64 r7]) ∧ Below w.heap.size w w' := by
  have hc := clamp_rng a0
  have hD := cD_rng (clamp a0 / 86400)
  have hy := yo_rng _ hD.1 hD.2
  have hd := doy_rng (clamp a0 / 86400)
  have hp := mp_rng (clamp a0 / 86400)
  have k := From_core a0 (clamp a0) (clamp a0 / 86400) (clamp a0 % 86400) ((clamp a0 / 86400 + 4) / 7) ((clamp a0 / 86400 + 4) % 7) ((clamp a0 / 86400 + 719468) / 146097) (cD (clamp a0 / 86400)) (yo (cD (clamp a0 / 86400))) (cdoy (clamp a0 / 86400)) (cmp (clamp a0 / 86400)) w rfl
    (floor_eq _ _ (by omega) (by omega) (by omega) (by omega)) (floor_eq _ _ (by omega) (by omega) (by omega) (by omega)) (floor_eq _ _ (by omega) (by omega) (by omega) (by omega))
    (by omega) (by omega) (by omega) (by omega) hD.1 hD.2 (by omega) (by omega) rfl hy.1 hy.2 rfl hd.1 hd.2.1 rfl hp.1 hp.2 _ _ rfl rfl
  refine k.mono fun e w' ⟨he, hb⟩ => ⟨?_, hb⟩
  obtain ⟨rfl, rfl, rfl, rfl, rfl, rfl, rfl⟩ := by simpa only [date_From.f, civil, Option.some.injEq, Prod.mk.injEq] using h
  have e60 : clamp a0 % 86400 % 60 = clamp a0 % 60 := by omega
  rw [he, e60]
  unfold cyear cmon cday
  rfl
/-! Facts on the world that the library's contracts ask: the table of powers of ten reads as it was laid. -/
structure GW (w : World) : Prop where
  tab : Lib.TabIs Tryd.prog w "internal/strconv.uint64pow10" .u64 Lib.pow10Tab
theorem g_pow : Tryd.prog.globalNamed "internal/strconv.uint64pow10" = some 1 := by kernel_rfl
theorem GW.below {w w' : World} (h : GW w) (hb : Below w.heap.size w w') : GW w' := ⟨TabIs_below g_pow h.tab hb⟩
theorem GW.of_aside {w w' : World} (h : GW w) (hb : Aside0 (Below w.heap.size w w')) : GW w' := h.below hb.out
theorem GW.drewN {w : World} (h : GW w) (n : Nat) : GW (w.drewN n) := ⟨h.tab⟩
theorem below_setA {w W : World} {g j : Nat} {v : Value} (h : Below w.heap.size w W) (hg : Aside0 (w.heap.size ≤ g)) : Below w.heap.size w (W.setCell ⟨g, j, none⟩ v) := below_set h hg.out
def strconv_Itoa.f (a0 : Int) : Option ByteArray := if -9223372036854775808 ≤ a0 ∧ a0 ≤ 9223372036854775807 then some ⟨(Lib.itoa a0).toArray⟩ else none
theorem grow_below (w : World) (k : Nat) (os : Array Obj) : Below w.heap.size w (Go.Sort.grow (w.drewN k) os) :=
  ⟨rfl, rfl, rfl, by simp [Go.Sort.grow, World.drewN], fun i hi => by
    show (w.heap ++ os)[i]? = w.heap[i]?
    exact Array.getElem?_append_left hi⟩
theorem strconv_Itoa.calls (a0 : Int) (r : ByteArray) (w : World) (h : strconv_Itoa.f a0 = some r) (hG : GW w := by first | exact hG | exact GW.drewN hG _ | exact GW.below hG (by first | exact HB.out | (with_reducible exact HB.out) | (repeat (first | (with_reducible first | exact HB.out | apply below_alloc | apply pw_below_drewN | apply below_drew1) | (refine below_setA ?_ (by assumption)) | exact HB.out)))) :
    Calls Tryd.prog 54 #[.int .i64 a0] w fun e w' => e = .returned (.string r) ∧ Below w.heap.size w w' := by
  unfold strconv_Itoa.f at h
  split at h
  · rename_i hb
    obtain rfl := Option.some.inj h
    exact (Tryd.strconv_Itoa a0 hb.1 hb.2 w hG.tab).mono fun e w' ⟨he, k, os, hw⟩ => ⟨he, hw ▸ grow_below w k os⟩
  · cases h
def strings_Repeat.f (a0 : ByteArray) (a1 : Int) : Option ByteArray := if 0 ≤ a1 ∧ a1 ≤ 1000000 ∧ a0.size ≤ 1000000 then some ⟨(Lib.repeatL a0.data.toList a1.toNat).toArray⟩ else none
theorem strings_Repeat.calls (a0 : ByteArray) (a1 : Int) (r : ByteArray) (w : World) (h : strings_Repeat.f a0 a1 = some r) :
    Calls Tryd.prog 77 #[.string a0, .int .i64 a1] w fun e w' => e = .returned (.string r) ∧ Below w.heap.size w w' := by
  unfold strings_Repeat.f at h
  split at h
  · rename_i hb
    obtain rfl := Option.some.inj h
    obtain ⟨c, rfl⟩ : ∃ c : Nat, a1 = c := ⟨a1.toNat, by omega⟩
    have hc : c ≤ 1000000 := by omega
    exact Tryd.strings_Repeat a0 c w (by omega) (Nat.le_trans (Nat.mul_le_mul hb.2.2 hc) (by decide))
  · cases h
end Go.Proofs.YtpedajhcfkohlaaDoorHand
