-- Written by this session's own program (wip/drive.py) over the kit's printer: not the printer's own text.
import Derived.Test.YtpedajhcfkohlaaDoorPMomx0
import Derived.Test.YtpedajhcfkohlaaDoorPMomx3
namespace Go.Proofs.YtpedajhcfkohlaaDoor.PMom
open Go.RowKit Go.Proofs.YtpedajhcfkohlaaDoorHand Go.Proofs.YtpedajhcfkohlaaDoorW.PrintWords Go.Proofs.YtpedajhcfkohlaaDoorW.PrintLast Go.Proofs.YtpedajhcfkohlaaDoorW.PrintMore
attribute [local go_sem] max2_int min2_int max_two min_two max_three min_three max_four min_four   -- for this text's walks alone
set_option linter.unusedVariables false
set_option linter.unusedSimpArgs false

/-! ### polyglotlaw05_From: function 51 -/
mutual
def polyglotlaw05_From.j0 : Nat → Int → Option (Int × Int × Int × Int × Int × Int × Int)
  | 0, _ => none
  | k + 1, x0 => if x0 < (-9007199254740992) then (polyglotlaw05_From.j1 k (-9007199254740992)) else (polyglotlaw05_From.j1 k x0)
def polyglotlaw05_From.j1 : Nat → Int → Option (Int × Int × Int × Int × Int × Int × Int)
  | 0, _ => none
  | k + 1, x0 => if (Int.tmod x0 86400) < 0 then (polyglotlaw05_From.j2 k (wrap64 ((wrap64 ((wrap64 (Int.tdiv x0 86400)) - 10957)) - 1)) (wrap64 ((Int.tmod x0 86400) + 86400))) else (polyglotlaw05_From.j2 k (wrap64 ((wrap64 (Int.tdiv x0 86400)) - 10957)) (Int.tmod x0 86400))
def polyglotlaw05_From.j2 : Nat → Int → Int → Option (Int × Int × Int × Int × Int × Int × Int)
  | 0, _, _ => none
  | k + 1, x3, x4 => if (Int.tmod x3 146097) < 0 then (polyglotlaw05_From.j3 k (wrap64 ((Int.tmod x3 146097) + 146097)) x4 (Int.tmod (wrap64 ((wrap64 ((Int.tmod x3 7) + 7)) + 6)) 7) (wrap64 ((wrap64 (Int.tdiv x3 146097)) - 1))) else (polyglotlaw05_From.j3 k (Int.tmod x3 146097) x4 (Int.tmod (wrap64 ((wrap64 ((Int.tmod x3 7) + 7)) + 6)) 7) (wrap64 (Int.tdiv x3 146097)))
def polyglotlaw05_From.j3 : Nat → Int → Int → Int → Int → Option (Int × Int × Int × Int × Int × Int × Int)
  | 0, _, _, _, _ => none
  | k + 1, x3, x4, x5, x6 => polyglotlaw05_From.l0 k x3 x4 x5 x6 2000
def polyglotlaw05_From.j5 : Nat → Int → Int → Int → Int → Int → Option (Int × Int × Int × Int × Int × Int × Int)
  | 0, _, _, _, _, _ => none
  | k + 1, x3, x4, x5, x6, x7 => polyglotlaw05_From.l1 k x3 x4 x5 x6 x7 1
def polyglotlaw05_From.l1 : Nat → Int → Int → Int → Int → Int → Int → Option (Int × Int × Int × Int × Int × Int × Int)
  | 0, _, _, _, _, _, _ => none
  | k + 1, x3, x4, x5, x6, x7, x9 => (polyglotlaw05_days.f k x7 x9).bind fun t179 => (if x3 ≥ t179 then ((polyglotlaw05_days.f k x7 x9).bind fun t180 => (polyglotlaw05_From.l1 k (wrap64 (x3 - t180)) x4 x5 x6 x7 (wrap64 (x9 + 1)))) else (some (wrap64 (x7 + (wrap64 (400 * x6))), x9, wrap64 (x3 + 1), wrap64 (Int.tdiv x4 3600), Int.tmod (wrap64 (Int.tdiv x4 60)) 60, Int.tmod x4 60, x5)))
def polyglotlaw05_From.l0 : Nat → Int → Int → Int → Int → Int → Option (Int × Int × Int × Int × Int × Int × Int)
  | 0, _, _, _, _, _ => none
  | k + 1, x3, x4, x5, x6, x7 => (polyglotlaw05_leap.f x7).bind fun t178 => (if t178 = true then (if x3 < 366 then (polyglotlaw05_From.j5 k x3 x4 x5 x6 x7) else (polyglotlaw05_From.l0 k (wrap64 (x3 - 366)) x4 x5 x6 (wrap64 (x7 + 1)))) else (if x3 < 365 then (polyglotlaw05_From.j5 k x3 x4 x5 x6 x7) else (polyglotlaw05_From.l0 k (wrap64 (x3 - 365)) x4 x5 x6 (wrap64 (x7 + 1)))))
end
def polyglotlaw05_From.f (k : Nat) (a0 : Int) : Option (Int × Int × Int × Int × Int × Int × Int) := if a0 > 9007199254740992 then (polyglotlaw05_From.j0 k 9007199254740992) else (polyglotlaw05_From.j0 k a0)
theorem polyglotlaw05_From.mono_l : ∀ k, (∀ y0, LeO (polyglotlaw05_From.j0 k y0) (polyglotlaw05_From.j0 (k + 1) y0)) ∧ (∀ y0, LeO (polyglotlaw05_From.j1 k y0) (polyglotlaw05_From.j1 (k + 1) y0)) ∧ (∀ y0 y1, LeO (polyglotlaw05_From.j2 k y0 y1) (polyglotlaw05_From.j2 (k + 1) y0 y1)) ∧ (∀ y0 y1 y2 y3, LeO (polyglotlaw05_From.j3 k y0 y1 y2 y3) (polyglotlaw05_From.j3 (k + 1) y0 y1 y2 y3)) ∧ (∀ y0 y1 y2 y3 y4, LeO (polyglotlaw05_From.j5 k y0 y1 y2 y3 y4) (polyglotlaw05_From.j5 (k + 1) y0 y1 y2 y3 y4)) ∧ (∀ y0 y1 y2 y3 y4 y5, LeO (polyglotlaw05_From.l1 k y0 y1 y2 y3 y4 y5) (polyglotlaw05_From.l1 (k + 1) y0 y1 y2 y3 y4 y5)) ∧ (∀ y0 y1 y2 y3 y4, LeO (polyglotlaw05_From.l0 k y0 y1 y2 y3 y4) (polyglotlaw05_From.l0 (k + 1) y0 y1 y2 y3 y4))
  | 0 => ⟨fun _ r h => by simp [polyglotlaw05_From.j0] at h, fun _ r h => by simp [polyglotlaw05_From.j1] at h, fun _ _ r h => by simp [polyglotlaw05_From.j2] at h, fun _ _ _ _ r h => by simp [polyglotlaw05_From.j3] at h, fun _ _ _ _ _ r h => by simp [polyglotlaw05_From.j5] at h, fun _ _ _ _ _ _ r h => by simp [polyglotlaw05_From.l1] at h, fun _ _ _ _ _ r h => by simp [polyglotlaw05_From.l0] at h⟩
  | k + 1 => by
    obtain ⟨ih0, ih1, ih2, ih3, ih4, ih5, ih6⟩ := polyglotlaw05_From.mono_l k
    refine ⟨?_, ?_, ?_, ?_, ?_, ?_, ?_⟩
    · intro y0
      unfold polyglotlaw05_From.j0
      repeat' first
      | (with_reducible exact ih0 _)
      | (with_reducible exact ih1 _)
      | (with_reducible exact ih2 _ _)
      | (with_reducible exact ih3 _ _ _ _)
      | (with_reducible exact ih4 _ _ _ _ _)
      | (with_reducible exact ih5 _ _ _ _ _ _)
      | (with_reducible exact ih6 _ _ _ _ _)
      | (with_reducible exact polyglotlaw05_days.mono _ _ _)
      | (with_reducible exact LeO.refl _)
      | (with_reducible exact LeO.none _)
      | (with_reducible refine LeO.ite ?_ ?_)
      | (with_reducible refine LeO.bind ?_ (fun _ => ?_))
      | exact ih0 _
      | exact ih1 _
      | exact ih2 _ _
      | exact ih3 _ _ _ _
      | exact ih4 _ _ _ _ _
      | exact ih5 _ _ _ _ _ _
      | exact ih6 _ _ _ _ _
      | exact polyglotlaw05_days.mono _ _ _
      | exact LeO.none _
      | refine LeO.ite ?_ ?_
      | refine LeO.bind ?_ (fun _ => ?_)
    · intro y0
      unfold polyglotlaw05_From.j1
      repeat' first
      | (with_reducible exact ih0 _)
      | (with_reducible exact ih1 _)
      | (with_reducible exact ih2 _ _)
      | (with_reducible exact ih3 _ _ _ _)
      | (with_reducible exact ih4 _ _ _ _ _)
      | (with_reducible exact ih5 _ _ _ _ _ _)
      | (with_reducible exact ih6 _ _ _ _ _)
      | (with_reducible exact polyglotlaw05_days.mono _ _ _)
      | (with_reducible exact LeO.refl _)
      | (with_reducible exact LeO.none _)
      | (with_reducible refine LeO.ite ?_ ?_)
      | (with_reducible refine LeO.bind ?_ (fun _ => ?_))
      | exact ih0 _
      | exact ih1 _
      | exact ih2 _ _
      | exact ih3 _ _ _ _
      | exact ih4 _ _ _ _ _
      | exact ih5 _ _ _ _ _ _
      | exact ih6 _ _ _ _ _
      | exact polyglotlaw05_days.mono _ _ _
      | exact LeO.none _
      | refine LeO.ite ?_ ?_
      | refine LeO.bind ?_ (fun _ => ?_)
    · intro y0 y1
      unfold polyglotlaw05_From.j2
      repeat' first
      | (with_reducible exact ih0 _)
      | (with_reducible exact ih1 _)
      | (with_reducible exact ih2 _ _)
      | (with_reducible exact ih3 _ _ _ _)
      | (with_reducible exact ih4 _ _ _ _ _)
      | (with_reducible exact ih5 _ _ _ _ _ _)
      | (with_reducible exact ih6 _ _ _ _ _)
      | (with_reducible exact polyglotlaw05_days.mono _ _ _)
      | (with_reducible exact LeO.refl _)
      | (with_reducible exact LeO.none _)
      | (with_reducible refine LeO.ite ?_ ?_)
      | (with_reducible refine LeO.bind ?_ (fun _ => ?_))
      | exact ih0 _
      | exact ih1 _
      | exact ih2 _ _
      | exact ih3 _ _ _ _
      | exact ih4 _ _ _ _ _
      | exact ih5 _ _ _ _ _ _
      | exact ih6 _ _ _ _ _
      | exact polyglotlaw05_days.mono _ _ _
      | exact LeO.none _
      | refine LeO.ite ?_ ?_
      | refine LeO.bind ?_ (fun _ => ?_)
    · intro y0 y1 y2 y3
      unfold polyglotlaw05_From.j3
      repeat' first
      | (with_reducible exact ih0 _)
      | (with_reducible exact ih1 _)
      | (with_reducible exact ih2 _ _)
      | (with_reducible exact ih3 _ _ _ _)
      | (with_reducible exact ih4 _ _ _ _ _)
      | (with_reducible exact ih5 _ _ _ _ _ _)
      | (with_reducible exact ih6 _ _ _ _ _)
      | (with_reducible exact polyglotlaw05_days.mono _ _ _)
      | (with_reducible exact LeO.refl _)
      | (with_reducible exact LeO.none _)
      | (with_reducible refine LeO.ite ?_ ?_)
      | (with_reducible refine LeO.bind ?_ (fun _ => ?_))
      | exact ih0 _
      | exact ih1 _
      | exact ih2 _ _
      | exact ih3 _ _ _ _
      | exact ih4 _ _ _ _ _
      | exact ih5 _ _ _ _ _ _
      | exact ih6 _ _ _ _ _
      | exact polyglotlaw05_days.mono _ _ _
      | exact LeO.none _
      | refine LeO.ite ?_ ?_
      | refine LeO.bind ?_ (fun _ => ?_)
    · intro y0 y1 y2 y3 y4
      unfold polyglotlaw05_From.j5
      repeat' first
      | (with_reducible exact ih0 _)
      | (with_reducible exact ih1 _)
      | (with_reducible exact ih2 _ _)
      | (with_reducible exact ih3 _ _ _ _)
      | (with_reducible exact ih4 _ _ _ _ _)
      | (with_reducible exact ih5 _ _ _ _ _ _)
      | (with_reducible exact ih6 _ _ _ _ _)
      | (with_reducible exact polyglotlaw05_days.mono _ _ _)
      | (with_reducible exact LeO.refl _)
      | (with_reducible exact LeO.none _)
      | (with_reducible refine LeO.ite ?_ ?_)
      | (with_reducible refine LeO.bind ?_ (fun _ => ?_))
      | exact ih0 _
      | exact ih1 _
      | exact ih2 _ _
      | exact ih3 _ _ _ _
      | exact ih4 _ _ _ _ _
      | exact ih5 _ _ _ _ _ _
      | exact ih6 _ _ _ _ _
      | exact polyglotlaw05_days.mono _ _ _
      | exact LeO.none _
      | refine LeO.ite ?_ ?_
      | refine LeO.bind ?_ (fun _ => ?_)
    · intro y0 y1 y2 y3 y4 y5
      unfold polyglotlaw05_From.l1
      repeat' first
      | (with_reducible exact ih0 _)
      | (with_reducible exact ih1 _)
      | (with_reducible exact ih2 _ _)
      | (with_reducible exact ih3 _ _ _ _)
      | (with_reducible exact ih4 _ _ _ _ _)
      | (with_reducible exact ih5 _ _ _ _ _ _)
      | (with_reducible exact ih6 _ _ _ _ _)
      | (with_reducible exact polyglotlaw05_days.mono _ _ _)
      | (with_reducible exact LeO.refl _)
      | (with_reducible exact LeO.none _)
      | (with_reducible refine LeO.ite ?_ ?_)
      | (with_reducible refine LeO.bind ?_ (fun _ => ?_))
      | exact ih0 _
      | exact ih1 _
      | exact ih2 _ _
      | exact ih3 _ _ _ _
      | exact ih4 _ _ _ _ _
      | exact ih5 _ _ _ _ _ _
      | exact ih6 _ _ _ _ _
      | exact polyglotlaw05_days.mono _ _ _
      | exact LeO.none _
      | refine LeO.ite ?_ ?_
      | refine LeO.bind ?_ (fun _ => ?_)
    · intro y0 y1 y2 y3 y4
      unfold polyglotlaw05_From.l0
      repeat' first
      | (with_reducible exact ih0 _)
      | (with_reducible exact ih1 _)
      | (with_reducible exact ih2 _ _)
      | (with_reducible exact ih3 _ _ _ _)
      | (with_reducible exact ih4 _ _ _ _ _)
      | (with_reducible exact ih5 _ _ _ _ _ _)
      | (with_reducible exact ih6 _ _ _ _ _)
      | (with_reducible exact polyglotlaw05_days.mono _ _ _)
      | (with_reducible exact LeO.refl _)
      | (with_reducible exact LeO.none _)
      | (with_reducible refine LeO.ite ?_ ?_)
      | (with_reducible refine LeO.bind ?_ (fun _ => ?_))
      | exact ih0 _
      | exact ih1 _
      | exact ih2 _ _
      | exact ih3 _ _ _ _
      | exact ih4 _ _ _ _ _
      | exact ih5 _ _ _ _ _ _
      | exact ih6 _ _ _ _ _
      | exact polyglotlaw05_days.mono _ _ _
      | exact LeO.none _
      | refine LeO.ite ?_ ?_
      | refine LeO.bind ?_ (fun _ => ?_)
theorem polyglotlaw05_From.mono : ∀ a0 k, LeO (polyglotlaw05_From.f k a0) (polyglotlaw05_From.f (k + 1) a0) := by
  intro a0 k
  obtain ⟨ih0, ih1, ih2, ih3, ih4, ih5, ih6⟩ := polyglotlaw05_From.mono_l k
  unfold polyglotlaw05_From.f
  repeat' first
      | (with_reducible exact ih0 _)
      | (with_reducible exact ih1 _)
      | (with_reducible exact ih2 _ _)
      | (with_reducible exact ih3 _ _ _ _)
      | (with_reducible exact ih4 _ _ _ _ _)
      | (with_reducible exact ih5 _ _ _ _ _ _)
      | (with_reducible exact ih6 _ _ _ _ _)
      | (with_reducible exact polyglotlaw05_days.mono _ _ _)
      | (with_reducible exact LeO.refl _)
      | (with_reducible exact LeO.none _)
      | (with_reducible refine LeO.ite ?_ ?_)
      | (with_reducible refine LeO.bind ?_ (fun _ => ?_))
      | exact ih0 _
      | exact ih1 _
      | exact ih2 _ _
      | exact ih3 _ _ _ _
      | exact ih4 _ _ _ _ _
      | exact ih5 _ _ _ _ _ _
      | exact ih6 _ _ _ _ _
      | exact polyglotlaw05_days.mono _ _ _
      | exact LeO.none _
      | refine LeO.ite ?_ ?_
      | refine LeO.bind ?_ (fun _ => ?_)
set_option maxHeartbeats 8000000 in
set_option maxRecDepth 100000 in
theorem polyglotlaw05_From.calls (k : Nat) (a0 : Int) (r1 : Int) (r2 : Int) (r3 : Int) (r4 : Int) (r5 : Int) (r6 : Int) (r7 : Int) (w : World) (h : polyglotlaw05_From.f k a0 = some (r1, r2, r3, r4, r5, r6, r7)) :
    Calls Tryd.prog 51 #[.int .i64 a0] w fun e w' => e = .returned (.agg #[.int .i64 r1, .int .i64 r2, .int .i64 r3, .int .i64 r4, .int .i64 r5, .int .i64 r6, .int .i64 r7]) ∧ Below w.heap.size w w' := by
  have hu66 := Tryd.underlying66
  have HB := Aside0.mk (Below.refl w.heap.size w)
  have H : (if a0 > 9007199254740992 then (polyglotlaw05_From.j0 k 9007199254740992) else (polyglotlaw05_From.j0 k a0)) = some (r1, r2, r3, r4, r5, r6, r7) := h
  clear h
  have HC2 := Aside0.mk H
  clear H
  go_enter Tryd.func51, Tryd.ntmps51
  go_upto_if 11 with (first | ((with_reducible refine gate_dst (N := 2) rfl ?_); refine box_event ?hg (N := 2) ?hd (cs := #[.int .i64 0, .int .i64 0, .int .i64 0, .int .i64 0, .int .i64 0, .int .i64 0, .int .i64 0]) (t := 66) ?hr ?_; (case hd => rfl); (case hg => rfl); (case hr => first | (go_simp; done) | (go_simp; rfl)); intro gb177 hg w3 hbox hb; have n0_ := Aside0.mk (below_step (by repeat (first | (with_reducible first | exact HB.out | apply below_alloc | apply pw_below_drewN | apply below_drew1) | exact HB.out)) hb); have n1_ := Aside0.mk (hbox); have n2_ := Aside0.mk ((by rw [hg]; exact (below_size (by repeat (first | (with_reducible first | exact HB.out | apply below_alloc | apply pw_below_drewN | apply below_drew1) | exact HB.out))) : w.heap.size ≤ gb177)); have n3_ := Aside0.mk ((by rw [hg]; exact (below_size (by repeat (first | (with_reducible first | exact HB.out | apply below_alloc | apply pw_below_drewN | apply below_drew1) | exact HB.out))) : w.heap.size ≤ gb177)); clear HB; have HB := n0_; have BK177 := n1_; have GW177 := n2_; have GE177 := n3_; clear n0_ n1_ n2_ n3_; clear hb hbox hg))
  (try simp only [Act.put, List.setIfInBounds_toArray, List.set_cons_zero, List.set_cons_succ])
  go_cut [0] (fun v0 wc => ∃ (kq : Nat) (x0_1 : Int), v0 = .int .i64 x0_1 ∧ Aside0 (polyglotlaw05_From.j0 kq x0_1 = some (r1, r2, r3, r4, r5, r6, r7)) ∧ Aside0 (kq ≤ k) ∧ Aside0 (wc.heap[gb177]? = some (.cells #[.int .i64 0, .int .i64 0, .int .i64 0, .int .i64 0, .int .i64 0, .int .i64 0, .int .i64 0] 66 (0, 0))) ∧ Aside0 (Below w.heap.size w wc))
  case first =>
    have H := HC2.out
    clear HC2
    by_cases c4 : a0 > 9007199254740992
    · rw [if_pos c4] at H
      have c4b0 : decide (9007199254740992 < a0) = true := decide_eq_true c4
      clear c4
      (first | rw [c4b0] | (simp only [i64_w, i32_w]; rw [c4b0]) | skip)
      have H' := Aside0.mk H
      clear H
      go_wp2
      go_meet
      case rel => exact ⟨_, (9007199254740992), (by first | rfl | (simp; done) | (simp [*]; done)), H', ⟨by first | omega | exact Nat.le_refl _⟩, ⟨by (with_reducible repeat (first | refine blk_drewN ?_ _ | refine blk_drew ?_ | refine blk_alloc ?_ _)); exact BK177.out⟩, ⟨by repeat (first | (with_reducible first | exact HB.out | apply below_alloc | apply pw_below_drewN | apply below_drew1 | refine below_set ?_ GE177.out) | exact HB.out)⟩⟩
    · rw [if_neg c4] at H
      have c4b0 : decide (9007199254740992 < a0) = false := decide_eq_false c4
      clear c4
      (first | rw [c4b0] | (simp only [i64_w, i32_w]; rw [c4b0]) | skip)
      have H' := Aside0.mk H
      clear H
      go_wp2
      go_meet
      case rel => exact ⟨_, (a0), (by first | rfl | (simp; done) | (simp [*]; done)), H', ⟨by first | omega | exact Nat.le_refl _⟩, ⟨by (with_reducible repeat (first | refine blk_drewN ?_ _ | refine blk_drew ?_ | refine blk_alloc ?_ _)); exact BK177.out⟩, ⟨by repeat (first | (with_reducible first | exact HB.out | apply below_alloc | apply pw_below_drewN | apply below_drew1 | refine below_set ?_ GE177.out) | exact HB.out)⟩⟩
  case rest =>
    clear HC2
    try clear p2
    try clear c4
    try clear c4b0
    obtain ⟨kq, x0_1, rfl, HA, HJ1, BK177, HB⟩ := hcut
    cases kq with
    | zero => exact absurd HA.out (by simp [polyglotlaw05_From.j0])
    | succ kj1 =>
      have H := HA.out
      clear HA
      simp only [polyglotlaw05_From.j0] at H
      have HC5 := Aside0.mk H
      clear H
      go_upto_if 13 with (fail)
      go_cut [0] (fun v0 wc => ∃ (kq : Nat) (x0_4 : Int), v0 = .int .i64 x0_4 ∧ Aside0 (polyglotlaw05_From.j1 kq x0_4 = some (r1, r2, r3, r4, r5, r6, r7)) ∧ Aside0 (kq ≤ kj1) ∧ Aside0 (wc.heap[gb177]? = some (.cells #[.int .i64 0, .int .i64 0, .int .i64 0, .int .i64 0, .int .i64 0, .int .i64 0, .int .i64 0] 66 (0, 0))) ∧ Aside0 (Below w.heap.size w wc))
      case first =>
        have H := HC5.out
        clear HC5
        by_cases c6 : x0_1 < (-9007199254740992)
        · rw [if_pos c6] at H
          have c6b0 : decide (x0_1 < (-9007199254740992)) = true := decide_eq_true c6
          clear c6
          (first | rw [c6b0] | (simp only [i64_w, i32_w]; rw [c6b0]) | skip)
          have H' := Aside0.mk H
          clear H
          go_wp2
          go_meet
          case rel => exact ⟨_, ((-9007199254740992)), (by first | rfl | (simp; done) | (simp [*]; done)), H', ⟨by have := HJ1.out; first | omega | exact Nat.le_refl _⟩, ⟨by (with_reducible repeat (first | refine blk_drewN ?_ _ | refine blk_drew ?_ | refine blk_alloc ?_ _)); exact BK177.out⟩, ⟨by repeat (first | (with_reducible first | exact HB.out | apply below_alloc | apply pw_below_drewN | apply below_drew1 | refine below_set ?_ GE177.out) | exact HB.out)⟩⟩
        · rw [if_neg c6] at H
          have c6b0 : decide (x0_1 < (-9007199254740992)) = false := decide_eq_false c6
          clear c6
          (first | rw [c6b0] | (simp only [i64_w, i32_w]; rw [c6b0]) | skip)
          have H' := Aside0.mk H
          clear H
          go_wp2
          go_meet
          case rel => exact ⟨_, (x0_1), (by first | rfl | (simp; done) | (simp [*]; done)), H', ⟨by have := HJ1.out; first | omega | exact Nat.le_refl _⟩, ⟨by (with_reducible repeat (first | refine blk_drewN ?_ _ | refine blk_drew ?_ | refine blk_alloc ?_ _)); exact BK177.out⟩, ⟨by repeat (first | (with_reducible first | exact HB.out | apply below_alloc | apply pw_below_drewN | apply below_drew1 | refine below_set ?_ GE177.out) | exact HB.out)⟩⟩
      case rest =>
        clear HC5
        try clear p2
        try clear c4
        try clear c4b0
        try clear c5
        try clear c6
        try clear c6b0
        try clear p2
        obtain ⟨kq, x0_4, rfl, HA, HJ4, BK177, HB⟩ := hcut
        cases kq with
        | zero => exact absurd HA.out (by simp [polyglotlaw05_From.j1])
        | succ kj4 =>
          have H := HA.out
          clear HA
          simp only [polyglotlaw05_From.j1] at H
          have HC7 := Aside0.mk H
          clear H
          go_upto_if 20 with (fail)
          go_cut [3, 4] (fun v3 v4 wc => ∃ (kq : Nat) (x3_6 : Int) (x4_6 : Int), v3 = .int .i64 x3_6 ∧ v4 = .int .i64 x4_6 ∧ Aside0 (polyglotlaw05_From.j2 kq x3_6 x4_6 = some (r1, r2, r3, r4, r5, r6, r7)) ∧ Aside0 (kq ≤ kj4) ∧ Aside0 (wc.heap[gb177]? = some (.cells #[.int .i64 0, .int .i64 0, .int .i64 0, .int .i64 0, .int .i64 0, .int .i64 0, .int .i64 0] 66 (0, 0))) ∧ Aside0 (Below w.heap.size w wc))
          case first =>
            have H := HC7.out
            clear HC7
            by_cases c8 : (Int.tmod x0_4 86400) < 0
            · rw [if_pos c8] at H
              have c8b0 : decide ((Int.tmod x0_4 86400) < 0) = true := decide_eq_true c8
              clear c8
              (first | rw [c8b0] | (simp only [i64_w, i32_w]; rw [c8b0]) | skip)
              have H' := Aside0.mk H
              clear H
              go_wp2
              go_meet
              case rel => exact ⟨_, (wrap64 ((wrap64 ((wrap64 (Int.tdiv x0_4 86400)) - 10957)) - 1)), (wrap64 ((Int.tmod x0_4 86400) + 86400)), (by first | rfl | (simp; done) | (simp [*]; done)), (by first | rfl | (simp; done) | (simp [*]; done)), H', ⟨by have := HJ1.out; have := HJ4.out; first | omega | exact Nat.le_refl _⟩, ⟨by (with_reducible repeat (first | refine blk_drewN ?_ _ | refine blk_drew ?_ | refine blk_alloc ?_ _)); exact BK177.out⟩, ⟨by repeat (first | (with_reducible first | exact HB.out | apply below_alloc | apply pw_below_drewN | apply below_drew1 | refine below_set ?_ GE177.out) | exact HB.out)⟩⟩
            · rw [if_neg c8] at H
              have c8b0 : decide ((Int.tmod x0_4 86400) < 0) = false := decide_eq_false c8
              clear c8
              (first | rw [c8b0] | (simp only [i64_w, i32_w]; rw [c8b0]) | skip)
              have H' := Aside0.mk H
              clear H
              go_wp2
              go_meet
              case rel => exact ⟨_, (wrap64 ((wrap64 (Int.tdiv x0_4 86400)) - 10957)), (Int.tmod x0_4 86400), (by first | rfl | (simp; done) | (simp [*]; done)), (by first | rfl | (simp; done) | (simp [*]; done)), H', ⟨by have := HJ1.out; have := HJ4.out; first | omega | exact Nat.le_refl _⟩, ⟨by (with_reducible repeat (first | refine blk_drewN ?_ _ | refine blk_drew ?_ | refine blk_alloc ?_ _)); exact BK177.out⟩, ⟨by repeat (first | (with_reducible first | exact HB.out | apply below_alloc | apply pw_below_drewN | apply below_drew1 | refine below_set ?_ GE177.out) | exact HB.out)⟩⟩
          case rest =>
            clear HC7
            try clear p2
            try clear c4
            try clear c4b0
            try clear c5
            try clear c6
            try clear c6b0
            try clear p6
            try clear c8
            try clear c8b0
            try clear p2
            obtain ⟨kq, x3_6, x4_6, rfl, rfl, HA, HJ6, BK177, HB⟩ := hcut
            cases kq with
            | zero => exact absurd HA.out (by simp [polyglotlaw05_From.j2])
            | succ kj6 =>
              have H := HA.out
              clear HA
              simp only [polyglotlaw05_From.j2] at H
              have HC9 := Aside0.mk H
              clear H
              go_upto_if 35 with (fail)
              go_cut [3, 6] (fun v3 v6 wc => ∃ (kq : Nat) (x3_8 : Int) (x6_8 : Int), v3 = .int .i64 x3_8 ∧ v6 = .int .i64 x6_8 ∧ Aside0 (polyglotlaw05_From.j3 kq x3_8 x4_6 (Int.tmod (wrap64 ((wrap64 ((Int.tmod x3_6 7) + 7)) + 6)) 7) x6_8 = some (r1, r2, r3, r4, r5, r6, r7)) ∧ Aside0 (kq ≤ kj6) ∧ Aside0 (wc.heap[gb177]? = some (.cells #[.int .i64 0, .int .i64 0, .int .i64 0, .int .i64 0, .int .i64 0, .int .i64 0, .int .i64 0] 66 (0, 0))) ∧ Aside0 (Below w.heap.size w wc))
              case first =>
                have H := HC9.out
                clear HC9
                by_cases c10 : (Int.tmod x3_6 146097) < 0
                · rw [if_pos c10] at H
                  have c10b0 : decide ((Int.tmod x3_6 146097) < 0) = true := decide_eq_true c10
                  clear c10
                  (first | rw [c10b0] | (simp only [i64_w, i32_w]; rw [c10b0]) | skip)
                  have H' := Aside0.mk H
                  clear H
                  go_wp2
                  go_meet
                  case rel => exact ⟨_, (wrap64 ((Int.tmod x3_6 146097) + 146097)), (wrap64 ((wrap64 (Int.tdiv x3_6 146097)) - 1)), (by first | rfl | (simp; done) | (simp [*]; done)), (by first | rfl | (simp; done) | (simp [*]; done)), H', ⟨by have := HJ1.out; have := HJ4.out; have := HJ6.out; first | omega | exact Nat.le_refl _⟩, ⟨by (with_reducible repeat (first | refine blk_drewN ?_ _ | refine blk_drew ?_ | refine blk_alloc ?_ _)); exact BK177.out⟩, ⟨by repeat (first | (with_reducible first | exact HB.out | apply below_alloc | apply pw_below_drewN | apply below_drew1 | refine below_set ?_ GE177.out) | exact HB.out)⟩⟩
                · rw [if_neg c10] at H
                  have c10b0 : decide ((Int.tmod x3_6 146097) < 0) = false := decide_eq_false c10
                  clear c10
                  (first | rw [c10b0] | (simp only [i64_w, i32_w]; rw [c10b0]) | skip)
                  have H' := Aside0.mk H
                  clear H
                  go_wp2
                  go_meet
                  case rel => exact ⟨_, (Int.tmod x3_6 146097), (wrap64 (Int.tdiv x3_6 146097)), (by first | rfl | (simp; done) | (simp [*]; done)), (by first | rfl | (simp; done) | (simp [*]; done)), H', ⟨by have := HJ1.out; have := HJ4.out; have := HJ6.out; first | omega | exact Nat.le_refl _⟩, ⟨by (with_reducible repeat (first | refine blk_drewN ?_ _ | refine blk_drew ?_ | refine blk_alloc ?_ _)); exact BK177.out⟩, ⟨by repeat (first | (with_reducible first | exact HB.out | apply below_alloc | apply pw_below_drewN | apply below_drew1 | refine below_set ?_ GE177.out) | exact HB.out)⟩⟩
              case rest =>
                clear HC9
                try clear c1
                try clear p2
                try clear c4
                try clear c4b0
                try clear c5
                try clear c6
                try clear c6b0
                try clear p6
                try clear c8
                try clear c8b0
                try clear c10
                try clear c10b0
                try clear p2
                try clear p6
                obtain ⟨kq, x3_8, x6_8, rfl, rfl, HA, HJ8, BK177, HB⟩ := hcut
                cases kq with
                | zero => exact absurd HA.out (by simp [polyglotlaw05_From.j3])
                | succ kj8 =>
                  have H := HA.out
                  clear HA
                  simp only [polyglotlaw05_From.j3] at H
                  have HC11 := Aside0.mk H
                  clear H
                  go_upto_block 0 with (fail)
                  go_cut [3, 7] (fun v3 v7 wc => ∃ (kq : Nat) (x3_10 : Int) (x7_10 : Int), v3 = .int .i64 x3_10 ∧ v7 = .int .i64 x7_10 ∧ Aside0 (polyglotlaw05_From.j5 kq x3_10 x4_6 (Int.tmod (wrap64 ((wrap64 ((Int.tmod x3_6 7) + 7)) + 6)) 7) x6_8 x7_10 = some (r1, r2, r3, r4, r5, r6, r7)) ∧ Aside0 (kq ≤ kj8) ∧ Aside0 (wc.heap[gb177]? = some (.cells #[.int .i64 0, .int .i64 0, .int .i64 0, .int .i64 0, .int .i64 0, .int .i64 0, .int .i64 0] 66 (0, 0))) ∧ Aside0 (Below w.heap.size w wc))
                  case first =>
                    have H := HC11.out
                    clear HC11
                    have H' := Aside0.mk H
                    clear H
                    go_wp2
                    go_loopg [3, 7] kj8 (fun kq v3 v7 w' => ∃ (x3_l5 : Int) (x7_l5 : Int), v3 = .int .i64 x3_l5 ∧ v7 = .int .i64 x7_l5 ∧ Aside0 (polyglotlaw05_From.l0 kq x3_l5 x4_6 (Int.tmod (wrap64 ((wrap64 ((Int.tmod x3_6 7) + 7)) + 6)) 7) x6_8 x7_l5 = some (r1, r2, r3, r4, r5, r6, r7)) ∧ Aside0 (kq ≤ kj8) ∧ Aside0 (w'.heap[gb177]? = some (.cells #[.int .i64 0, .int .i64 0, .int .i64 0, .int .i64 0, .int .i64 0, .int .i64 0, .int .i64 0] 66 (0, 0))) ∧ Aside0 (Below w.heap.size w w'))
                    case atStart => exact ⟨(x3_8), (2000), (by first | rfl | (simp; done) | (simp [*]; done)), (by first | rfl | (simp; done) | (simp [*]; done)), H', ⟨Nat.le_refl _⟩, ⟨by (with_reducible repeat (first | refine blk_drewN ?_ _ | refine blk_drew ?_ | refine blk_alloc ?_ _)); exact BK177.out⟩, ⟨by repeat (first | (with_reducible first | exact HB.out | apply below_alloc | apply pw_below_drewN | apply below_drew1 | refine below_set ?_ GE177.out) | exact HB.out)⟩⟩
                    case round =>
                      clear H'
                      try clear c1
                      try clear p2
                      try clear c4
                      try clear c4b0
                      try clear c5
                      try clear c6
                      try clear c6b0
                      try clear p6
                      try clear c8
                      try clear c8b0
                      try clear c10
                      try clear c10b0
                      try clear p2
                      try clear p6
                      obtain ⟨x3_l5, x7_l5, rfl, rfl, HA, HK5, BK177, HB⟩ := hrel
                      cases gk with
                      | zero => exact absurd HA.out (by simp [polyglotlaw05_From.l0])
                      | succ k5 =>
                        have H := HA.out
                        clear HA
                        simp only [polyglotlaw05_From.l0] at H
                        replace H := Option.bind_eq_some_iff.mp H
                        obtain ⟨t178, A120, H⟩ := H
                        replace H : (if t178 = true then (if x3_l5 < 366 then (polyglotlaw05_From.j5 k5 x3_l5 x4_6 (Int.tmod (wrap64 ((wrap64 ((Int.tmod x3_6 7) + 7)) + 6)) 7) x6_8 x7_l5) else (polyglotlaw05_From.l0 k5 (wrap64 (x3_l5 - 366)) x4_6 (Int.tmod (wrap64 ((wrap64 ((Int.tmod x3_6 7) + 7)) + 6)) 7) x6_8 (wrap64 (x7_l5 + 1)))) else (if x3_l5 < 365 then (polyglotlaw05_From.j5 k5 x3_l5 x4_6 (Int.tmod (wrap64 ((wrap64 ((Int.tmod x3_6 7) + 7)) + 6)) 7) x6_8 x7_l5) else (polyglotlaw05_From.l0 k5 (wrap64 (x3_l5 - 365)) x4_6 (Int.tmod (wrap64 ((wrap64 ((Int.tmod x3_6 7) + 7)) + 6)) 7) x6_8 (wrap64 (x7_l5 + 1))))) = some (r1, r2, r3, r4, r5, r6, r7) := H
                        have A12 := Aside0.mk A120
                        clear A120
                        by_cases c13 : t178 = true
                        · subst c13
                          have H1 : (if x3_l5 < 366 then (polyglotlaw05_From.j5 k5 x3_l5 x4_6 (Int.tmod (wrap64 ((wrap64 ((Int.tmod x3_6 7) + 7)) + 6)) 7) x6_8 x7_l5) else (polyglotlaw05_From.l0 k5 (wrap64 (x3_l5 - 366)) x4_6 (Int.tmod (wrap64 ((wrap64 ((Int.tmod x3_6 7) + 7)) + 6)) 7) x6_8 (wrap64 (x7_l5 + 1)))) = some (r1, r2, r3, r4, r5, r6, r7) := by rw [if_pos rfl] at H; exact H
                          clear H
                          have H := H1
                          clear H1
                          by_cases c14 : x3_l5 < 366
                          · rw [if_pos c14] at H
                            have c14b0 : decide (x3_l5 < 366) = true := decide_eq_true c14
                            clear c14
                            (first | rw [c14b0] | (simp only [i64_w, i32_w]; rw [c14b0]) | skip)
                            have H' := Aside0.mk H
                            clear H
                            go_wp2_with (first | ((with_reducible refine gate_callee (f := 69) rfl ?_); refine goesL_ (some 41) rfl rfl Tryd.func69 (by kernel_rfl) rfl #[.int .i64 x7_l5] rfl (by (try simp only [List.map_toArray, List.map_cons, List.map_nil]); first | done | rfl | (simp only [List.length_drop, List.length_take]; rfl)) ?_; (with_reducible refine (polyglotlaw05_leap.calls x7_l5 true _ A12.out).mono ?_); rintro e w' ⟨rfl, ⟨nd, rfl⟩⟩; refine ⟨_, rfl, ?_⟩))
                            go_meet
                            case rel => exact ⟨_, (x3_l5), (x7_l5), (by first | rfl | (simp; done) | (simp [*]; done)), (by first | rfl | (simp; done) | (simp [*]; done)), H', ⟨by have := HJ1.out; have := HJ4.out; have := HJ6.out; have := HJ8.out; have := HK5.out; first | omega | exact Nat.le_refl _⟩, ⟨by (with_reducible repeat (first | refine blk_drewN ?_ _ | refine blk_drew ?_ | refine blk_alloc ?_ _)); exact BK177.out⟩, ⟨by repeat (first | (with_reducible first | exact HB.out | apply below_alloc | apply pw_below_drewN | apply below_drew1 | refine below_set ?_ GE177.out) | exact HB.out)⟩⟩
                          · rw [if_neg c14] at H
                            have c14b0 : decide (x3_l5 < 366) = false := decide_eq_false c14
                            clear c14
                            (first | rw [c14b0] | (simp only [i64_w, i32_w]; rw [c14b0]) | skip)
                            have H' := Aside0.mk H
                            clear H
                            go_wp2_with (first | ((with_reducible refine gate_callee (f := 69) rfl ?_); refine goesL_ (some 41) rfl rfl Tryd.func69 (by kernel_rfl) rfl #[.int .i64 x7_l5] rfl (by (try simp only [List.map_toArray, List.map_cons, List.map_nil]); first | done | rfl | (simp only [List.length_drop, List.length_take]; rfl)) ?_; (with_reducible refine (polyglotlaw05_leap.calls x7_l5 true _ A12.out).mono ?_); rintro e w' ⟨rfl, ⟨nd, rfl⟩⟩; refine ⟨_, rfl, ?_⟩))
                            go_roundg k5
                            case measure => have := HJ1.out; have := HJ4.out; have := HJ6.out; have := HJ8.out; have := HK5.out; omega
                            case rel => exact ⟨(wrap64 (x3_l5 - 366)), (wrap64 (x7_l5 + 1)), (by first | rfl | (simp; done) | (simp [*]; done)), (by first | rfl | (simp; done) | (simp [*]; done)), H', ⟨by have := HJ1.out; have := HJ4.out; have := HJ6.out; have := HJ8.out; have := HK5.out; omega⟩, ⟨by (with_reducible repeat (first | refine blk_drewN ?_ _ | refine blk_drew ?_ | refine blk_alloc ?_ _)); exact BK177.out⟩, ⟨by repeat (first | (with_reducible first | exact HB.out | apply below_alloc | apply pw_below_drewN | apply below_drew1 | refine below_set ?_ GE177.out) | exact HB.out)⟩⟩
                        · replace c13 := Bool.eq_false_iff.mpr c13
                          subst c13
                          have H1 : (if x3_l5 < 365 then (polyglotlaw05_From.j5 k5 x3_l5 x4_6 (Int.tmod (wrap64 ((wrap64 ((Int.tmod x3_6 7) + 7)) + 6)) 7) x6_8 x7_l5) else (polyglotlaw05_From.l0 k5 (wrap64 (x3_l5 - 365)) x4_6 (Int.tmod (wrap64 ((wrap64 ((Int.tmod x3_6 7) + 7)) + 6)) 7) x6_8 (wrap64 (x7_l5 + 1)))) = some (r1, r2, r3, r4, r5, r6, r7) := by rw [if_neg (show ¬ (false = true) by decide)] at H; exact H
                          clear H
                          have H := H1
                          clear H1
                          by_cases c15 : x3_l5 < 365
                          · rw [if_pos c15] at H
                            have c15b0 : decide (x3_l5 < 365) = true := decide_eq_true c15
                            clear c15
                            have H' := Aside0.mk H
                            clear H
                            go_wp2_with (first | ((with_reducible refine gate_callee (f := 69) rfl ?_); refine goesL_ (some 41) rfl rfl Tryd.func69 (by kernel_rfl) rfl #[.int .i64 x7_l5] rfl (by (try simp only [List.map_toArray, List.map_cons, List.map_nil]); first | done | rfl | (simp only [List.length_drop, List.length_take]; rfl)) ?_; (with_reducible refine (polyglotlaw05_leap.calls x7_l5 false _ A12.out).mono ?_); rintro e w' ⟨rfl, ⟨nd, rfl⟩⟩; refine ⟨_, rfl, ?_⟩))
                            go_meet
                            case rel => exact ⟨_, (x3_l5), (x7_l5), (by first | rfl | (simp; done) | (simp [*]; done)), (by first | rfl | (simp; done) | (simp [*]; done)), H', ⟨by have := HJ1.out; have := HJ4.out; have := HJ6.out; have := HJ8.out; have := HK5.out; first | omega | exact Nat.le_refl _⟩, ⟨by (with_reducible repeat (first | refine blk_drewN ?_ _ | refine blk_drew ?_ | refine blk_alloc ?_ _)); exact BK177.out⟩, ⟨by repeat (first | (with_reducible first | exact HB.out | apply below_alloc | apply pw_below_drewN | apply below_drew1 | refine below_set ?_ GE177.out) | exact HB.out)⟩⟩
                          · rw [if_neg c15] at H
                            have c15b0 : decide (x3_l5 < 365) = false := decide_eq_false c15
                            clear c15
                            have H' := Aside0.mk H
                            clear H
                            go_wp2_with (first | ((with_reducible refine gate_callee (f := 69) rfl ?_); refine goesL_ (some 41) rfl rfl Tryd.func69 (by kernel_rfl) rfl #[.int .i64 x7_l5] rfl (by (try simp only [List.map_toArray, List.map_cons, List.map_nil]); first | done | rfl | (simp only [List.length_drop, List.length_take]; rfl)) ?_; (with_reducible refine (polyglotlaw05_leap.calls x7_l5 false _ A12.out).mono ?_); rintro e w' ⟨rfl, ⟨nd, rfl⟩⟩; refine ⟨_, rfl, ?_⟩))
                            go_roundg k5
                            case measure => have := HJ1.out; have := HJ4.out; have := HJ6.out; have := HJ8.out; have := HK5.out; omega
                            case rel => exact ⟨(wrap64 (x3_l5 - 365)), (wrap64 (x7_l5 + 1)), (by first | rfl | (simp; done) | (simp [*]; done)), (by first | rfl | (simp; done) | (simp [*]; done)), H', ⟨by have := HJ1.out; have := HJ4.out; have := HJ6.out; have := HJ8.out; have := HK5.out; omega⟩, ⟨by (with_reducible repeat (first | refine blk_drewN ?_ _ | refine blk_drew ?_ | refine blk_alloc ?_ _)); exact BK177.out⟩, ⟨by repeat (first | (with_reducible first | exact HB.out | apply below_alloc | apply pw_below_drewN | apply below_drew1 | refine below_set ?_ GE177.out) | exact HB.out)⟩⟩
                  case rest =>
                    clear HC11
                    try clear c1
                    try clear p2
                    try clear c4
                    try clear c4b0
                    try clear c5
                    try clear c6
                    try clear c6b0
                    try clear p6
                    try clear c8
                    try clear c8b0
                    try clear c10
                    try clear c10b0
                    try clear c13
                    try clear c14
                    try clear c14b0
                    try clear c15
                    try clear c15b0
                    try clear p2
                    try clear p6
                    obtain ⟨kq, x3_10, x7_10, rfl, rfl, HA, HJ10, BK177, HB⟩ := hcut
                    cases kq with
                    | zero => exact absurd HA.out (by simp [polyglotlaw05_From.j5])
                    | succ kj10 =>
                      have H := HA.out
                      clear HA
                      simp only [polyglotlaw05_From.j5] at H
                      have H' := Aside0.mk H
                      clear H
                      go_wp2
                      go_loopg [3, 9] kj10 (fun kq v3 v9 w' => ∃ (x3_l6 : Int) (x9_l6 : Int), v3 = .int .i64 x3_l6 ∧ v9 = .int .i64 x9_l6 ∧ Aside0 (polyglotlaw05_From.l1 kq x3_l6 x4_6 (Int.tmod (wrap64 ((wrap64 ((Int.tmod x3_6 7) + 7)) + 6)) 7) x6_8 x7_10 x9_l6 = some (r1, r2, r3, r4, r5, r6, r7)) ∧ Aside0 (kq ≤ kj10) ∧ Aside0 (w'.heap[gb177]? = some (.cells #[.int .i64 0, .int .i64 0, .int .i64 0, .int .i64 0, .int .i64 0, .int .i64 0, .int .i64 0] 66 (0, 0))) ∧ Aside0 (Below w.heap.size w w'))
                      case atStart => exact ⟨(x3_10), (1), (by first | rfl | (simp; done) | (simp [*]; done)), (by first | rfl | (simp; done) | (simp [*]; done)), H', ⟨Nat.le_refl _⟩, ⟨by (with_reducible repeat (first | refine blk_drewN ?_ _ | refine blk_drew ?_ | refine blk_alloc ?_ _)); exact BK177.out⟩, ⟨by repeat (first | (with_reducible first | exact HB.out | apply below_alloc | apply pw_below_drewN | apply below_drew1 | refine below_set ?_ GE177.out) | exact HB.out)⟩⟩
                      case round =>
                        clear H'
                        try clear c1
                        try clear p2
                        try clear c4
                        try clear c4b0
                        try clear c5
                        try clear c6
                        try clear c6b0
                        try clear p6
                        try clear c8
                        try clear c8b0
                        try clear c10
                        try clear c10b0
                        try clear c13
                        try clear c14
                        try clear c14b0
                        try clear c15
                        try clear c15b0
                        try clear p2
                        try clear p6
                        obtain ⟨x3_l6, x9_l6, rfl, rfl, HA, HK6, BK177, HB⟩ := hrel
                        cases gk with
                        | zero => exact absurd HA.out (by simp [polyglotlaw05_From.l1])
                        | succ k6 =>
                          have H := HA.out
                          clear HA
                          simp only [polyglotlaw05_From.l1] at H
                          replace H := Option.bind_eq_some_iff.mp H
                          obtain ⟨t179, A160, H⟩ := H
                          replace H : (if x3_l6 ≥ t179 then ((polyglotlaw05_days.f k6 x7_10 x9_l6).bind fun t180 => (polyglotlaw05_From.l1 k6 (wrap64 (x3_l6 - t180)) x4_6 (Int.tmod (wrap64 ((wrap64 ((Int.tmod x3_6 7) + 7)) + 6)) 7) x6_8 x7_10 (wrap64 (x9_l6 + 1)))) else (some (wrap64 (x7_10 + (wrap64 (400 * x6_8))), x9_l6, wrap64 (x3_l6 + 1), wrap64 (Int.tdiv x4_6 3600), Int.tmod (wrap64 (Int.tdiv x4_6 60)) 60, Int.tmod x4_6 60, (Int.tmod (wrap64 ((wrap64 ((Int.tmod x3_6 7) + 7)) + 6)) 7)))) = some (r1, r2, r3, r4, r5, r6, r7) := H
                          have A16 := Aside0.mk A160
                          clear A160
                          by_cases c17 : x3_l6 ≥ t179
                          · rw [if_pos c17] at H
                            have c17b0 : decide (t179 ≤ x3_l6) = true := decide_eq_true c17
                            clear c17
                            replace H := Option.bind_eq_some_iff.mp H
                            obtain ⟨t180, A180, H⟩ := H
                            replace H : (polyglotlaw05_From.l1 k6 (wrap64 (x3_l6 - t180)) x4_6 (Int.tmod (wrap64 ((wrap64 ((Int.tmod x3_6 7) + 7)) + 6)) 7) x6_8 x7_10 (wrap64 (x9_l6 + 1))) = some (r1, r2, r3, r4, r5, r6, r7) := H
                            have A18 := Aside0.mk A180
                            clear A180
                            have H' := Aside0.mk H
                            clear H
                            go_wp2_with (first | ((with_reducible refine gate_callee (f := 70) rfl ?_); refine goesL_ (some 53) rfl rfl Tryd.func70 (by kernel_rfl) rfl #[.int .i64 x7_10, .int .i64 x9_l6] rfl (by (try simp only [List.map_toArray, List.map_cons, List.map_nil]); first | done | rfl | (simp only [List.length_drop, List.length_take]; rfl)) ?_; (with_reducible refine (polyglotlaw05_days.calls k6 x7_10 x9_l6 t179 _ A16.out).mono ?_); rintro e w19 ⟨rfl, hb⟩; refine ⟨_, rfl, ?_⟩; have n0_ := Aside0.mk (blk_below (g := gb177) (o := .cells #[.int .i64 0, .int .i64 0, .int .i64 0, .int .i64 0, .int .i64 0, .int .i64 0, .int .i64 0] 66 (0, 0)) (by (with_reducible repeat (first | refine blk_drewN ?_ _ | refine blk_drew ?_ | refine blk_alloc ?_ _)); exact BK177.out) hb); have n1_ := Aside0.mk (below_step (by repeat (first | (with_reducible first | exact HB.out | apply below_alloc | apply pw_below_drewN | apply below_drew1 | refine below_set ?_ GE177.out) | exact HB.out)) hb); clear BK177; clear HB; have BK177 := n0_; have HB := n1_; clear n0_ n1_; (try clear hb); (try clear hb2); (try clear hk); (try clear hi)) | ((with_reducible refine gate_callee (f := 70) rfl ?_); refine goesL_ (some 58) rfl rfl Tryd.func70 (by kernel_rfl) rfl #[.int .i64 x7_10, .int .i64 x9_l6] rfl (by (try simp only [List.map_toArray, List.map_cons, List.map_nil]); first | done | rfl | (simp only [List.length_drop, List.length_take]; rfl)) ?_; (with_reducible refine (polyglotlaw05_days.calls k6 x7_10 x9_l6 t180 _ A18.out).mono ?_); rintro e w20 ⟨rfl, hb⟩; refine ⟨_, rfl, ?_⟩; have n0_ := Aside0.mk (blk_below (g := gb177) (o := .cells #[.int .i64 0, .int .i64 0, .int .i64 0, .int .i64 0, .int .i64 0, .int .i64 0, .int .i64 0] 66 (0, 0)) (by (with_reducible repeat (first | refine blk_drewN ?_ _ | refine blk_drew ?_ | refine blk_alloc ?_ _)); exact BK177.out) hb); have n1_ := Aside0.mk (below_step (by repeat (first | (with_reducible first | exact HB.out | apply below_alloc | apply pw_below_drewN | apply below_drew1 | refine below_set ?_ GE177.out) | exact HB.out)) hb); clear BK177; clear HB; have BK177 := n0_; have HB := n1_; clear n0_ n1_; (try clear hb); (try clear hb2); (try clear hk); (try clear hi)))
                            go_roundg k6
                            case measure => have := HJ1.out; have := HJ4.out; have := HJ6.out; have := HJ8.out; have := HJ10.out; have := HK6.out; omega
                            case rel => exact ⟨(wrap64 (x3_l6 - t180)), (wrap64 (x9_l6 + 1)), (by first | rfl | (simp; done) | (simp [*]; done)), (by first | rfl | (simp; done) | (simp [*]; done)), H', ⟨by have := HJ1.out; have := HJ4.out; have := HJ6.out; have := HJ8.out; have := HJ10.out; have := HK6.out; omega⟩, ⟨by (with_reducible repeat (first | refine blk_drewN ?_ _ | refine blk_drew ?_ | refine blk_alloc ?_ _)); exact BK177.out⟩, ⟨by repeat (first | (with_reducible first | exact HB.out | apply below_alloc | apply pw_below_drewN | apply below_drew1 | refine below_set ?_ GE177.out) | exact HB.out)⟩⟩
                          · rw [if_neg c17] at H
                            have c17b0 : decide (t179 ≤ x3_l6) = false := decide_eq_false c17
                            clear c17
                            simp only [Option.some.injEq, Prod.mk.injEq] at H
                            obtain ⟨rfl, rfl, rfl, rfl, rfl, rfl, rfl⟩ := H
                            go_wp2_with (first | ((with_reducible refine gate_callee (f := 70) rfl ?_); refine goesL_ (some 53) rfl rfl Tryd.func70 (by kernel_rfl) rfl #[.int .i64 x7_10, .int .i64 x9_l6] rfl (by (try simp only [List.map_toArray, List.map_cons, List.map_nil]); first | done | rfl | (simp only [List.length_drop, List.length_take]; rfl)) ?_; (with_reducible refine (polyglotlaw05_days.calls k6 x7_10 x9_l6 t179 _ A16.out).mono ?_); rintro e w21 ⟨rfl, hb⟩; refine ⟨_, rfl, ?_⟩; have n0_ := Aside0.mk (blk_below (g := gb177) (o := .cells #[.int .i64 0, .int .i64 0, .int .i64 0, .int .i64 0, .int .i64 0, .int .i64 0, .int .i64 0] 66 (0, 0)) (by (with_reducible repeat (first | refine blk_drewN ?_ _ | refine blk_drew ?_ | refine blk_alloc ?_ _)); exact BK177.out) hb); have n1_ := Aside0.mk (below_step (by repeat (first | (with_reducible first | exact HB.out | apply below_alloc | apply pw_below_drewN | apply below_drew1 | refine below_set ?_ GE177.out) | exact HB.out)) hb); clear BK177; clear HB; have BK177 := n0_; have HB := n1_; clear n0_ n1_; (try clear hb); (try clear hb2); (try clear hk); (try clear hi); have hcz22_0 : w21.cell? ⟨gb177, 0, none⟩ = some (.int .i64 0) := (blk_cell BK177.out 0).trans rfl; have hcz22_1 : w21.cell? ⟨gb177, 1, none⟩ = some (.int .i64 0) := (blk_cell BK177.out 1).trans rfl; have hcz22_2 : w21.cell? ⟨gb177, 2, none⟩ = some (.int .i64 0) := (blk_cell BK177.out 2).trans rfl; have hcz22_3 : w21.cell? ⟨gb177, 3, none⟩ = some (.int .i64 0) := (blk_cell BK177.out 3).trans rfl; have hcz22_4 : w21.cell? ⟨gb177, 4, none⟩ = some (.int .i64 0) := (blk_cell BK177.out 4).trans rfl; have hcz22_5 : w21.cell? ⟨gb177, 5, none⟩ = some (.int .i64 0) := (blk_cell BK177.out 5).trans rfl; have hcz22_6 : w21.cell? ⟨gb177, 6, none⟩ = some (.int .i64 0) := (blk_cell BK177.out 6).trans rfl; have hfz22_0 := blk_frozen BK177.out 0; have hfz22_1 := blk_frozen BK177.out 1; have hfz22_2 := blk_frozen BK177.out 2; have hfz22_3 := blk_frozen BK177.out 3; have hfz22_4 := blk_frozen BK177.out 4; have hfz22_5 := blk_frozen BK177.out 5; have hfz22_6 := blk_frozen BK177.out 6))
                            refine bodyPost_ret (results_cell_row rfl _ _ gb177 66 #[.int .i64 (wrap64 (x7_10 + (wrap64 (400 * x6_8)))), .int .i64 x9_l6, .int .i64 (wrap64 (x3_l6 + 1)), .int .i64 (wrap64 (Int.tdiv x4_6 3600)), .int .i64 (Int.tmod (wrap64 (Int.tdiv x4_6 60)) 60), .int .i64 (Int.tmod x4_6 60), .int .i64 (Int.tmod (wrap64 ((wrap64 ((Int.tmod x3_6 7) + 7)) + 6)) 7)] (0, 0) _ rfl (by (with_reducible repeat (first | refine blk_drewN ?_ _ | refine blk_drew ?_ | refine blk_alloc ?_ _)); refine blk_put (cs := #[.int .i64 (wrap64 (x7_10 + (wrap64 (400 * x6_8)))), .int .i64 x9_l6, .int .i64 (wrap64 (x3_l6 + 1)), .int .i64 (wrap64 (Int.tdiv x4_6 3600)), .int .i64 (Int.tmod (wrap64 (Int.tdiv x4_6 60)) 60), .int .i64 (Int.tmod x4_6 60), .int .i64 0]) ?_ 6 _ rfl; (with_reducible repeat (first | refine blk_drewN ?_ _ | refine blk_drew ?_ | refine blk_alloc ?_ _)); refine blk_put (cs := #[.int .i64 (wrap64 (x7_10 + (wrap64 (400 * x6_8)))), .int .i64 x9_l6, .int .i64 (wrap64 (x3_l6 + 1)), .int .i64 (wrap64 (Int.tdiv x4_6 3600)), .int .i64 (Int.tmod (wrap64 (Int.tdiv x4_6 60)) 60), .int .i64 0, .int .i64 0]) ?_ 5 _ rfl; (with_reducible repeat (first | refine blk_drewN ?_ _ | refine blk_drew ?_ | refine blk_alloc ?_ _)); refine blk_put (cs := #[.int .i64 (wrap64 (x7_10 + (wrap64 (400 * x6_8)))), .int .i64 x9_l6, .int .i64 (wrap64 (x3_l6 + 1)), .int .i64 (wrap64 (Int.tdiv x4_6 3600)), .int .i64 0, .int .i64 0, .int .i64 0]) ?_ 4 _ rfl; (with_reducible repeat (first | refine blk_drewN ?_ _ | refine blk_drew ?_ | refine blk_alloc ?_ _)); refine blk_put (cs := #[.int .i64 (wrap64 (x7_10 + (wrap64 (400 * x6_8)))), .int .i64 x9_l6, .int .i64 (wrap64 (x3_l6 + 1)), .int .i64 0, .int .i64 0, .int .i64 0, .int .i64 0]) ?_ 3 _ rfl; (with_reducible repeat (first | refine blk_drewN ?_ _ | refine blk_drew ?_ | refine blk_alloc ?_ _)); refine blk_put (cs := #[.int .i64 (wrap64 (x7_10 + (wrap64 (400 * x6_8)))), .int .i64 x9_l6, .int .i64 0, .int .i64 0, .int .i64 0, .int .i64 0, .int .i64 0]) ?_ 2 _ rfl; (with_reducible repeat (first | refine blk_drewN ?_ _ | refine blk_drew ?_ | refine blk_alloc ?_ _)); refine blk_put (cs := #[.int .i64 (wrap64 (x7_10 + (wrap64 (400 * x6_8)))), .int .i64 0, .int .i64 0, .int .i64 0, .int .i64 0, .int .i64 0, .int .i64 0]) ?_ 1 _ rfl; (with_reducible repeat (first | refine blk_drewN ?_ _ | refine blk_drew ?_ | refine blk_alloc ?_ _)); refine blk_put (cs := #[.int .i64 0, .int .i64 0, .int .i64 0, .int .i64 0, .int .i64 0, .int .i64 0, .int .i64 0]) ?_ 0 _ rfl; (with_reducible repeat (first | refine blk_drewN ?_ _ | refine blk_drew ?_ | refine blk_alloc ?_ _)); exact BK177.out) Tryd.underlying66 rfl (by kernel_rfl)) rfl ?_
                            exact ⟨by first | rfl | (simp [errW_none, errW_some] <;> rfl) | (simp [*, errW_none, errW_some] <;> rfl), by repeat (first | (with_reducible first | exact HB.out | apply below_alloc | apply pw_below_drewN | apply below_drew1 | refine below_set ?_ GE177.out) | exact HB.out)⟩

/-! ### polyglotlaw13_four: function 52 -/
mutual
def polyglotlaw13_four.l0 : Nat → ByteArray → Option (ByteArray)
  | 0, _ => none
  | k + 1, x3 => if (x3.size : Int) < 4 then (if 1 + x3.size ≤ 9223372036854775807 then ((some ((⟨#[48]⟩ : ByteArray) ++ x3 : ByteArray)).bind fun y184 => (polyglotlaw13_four.l0 k y184)) else (none)) else (some x3)
def polyglotlaw13_four.f : Nat → Int → Option (ByteArray)
  | 0, _ => none
  | k + 1, a0 => if a0 < 0 then ((polyglotlaw13_four.f k (wrap64 (-a0))).bind fun t181 => (if 1 + t181.size ≤ 9223372036854775807 then ((some ((⟨#[45]⟩ : ByteArray) ++ t181 : ByteArray)).bind fun y182 => (some y182)) else (none))) else ((strconv_Itoa.f a0).bind fun t183 => (polyglotlaw13_four.l0 k t183))
end
theorem polyglotlaw13_four.mono_l : ∀ k, (∀ y0, LeO (polyglotlaw13_four.f k y0) (polyglotlaw13_four.f (k + 1) y0)) ∧ (∀ y0, LeO (polyglotlaw13_four.l0 k y0) (polyglotlaw13_four.l0 (k + 1) y0))
  | 0 => ⟨fun _ r h => by simp [polyglotlaw13_four.f] at h, fun _ r h => by simp [polyglotlaw13_four.l0] at h⟩
  | k + 1 => by
    obtain ⟨ih0, ih1⟩ := polyglotlaw13_four.mono_l k
    refine ⟨?_, ?_⟩
    · intro y0
      unfold polyglotlaw13_four.f
      repeat' first
      | (with_reducible exact ih0 _)
      | (with_reducible exact ih1 _)
      | (with_reducible exact LeO.refl _)
      | (with_reducible exact LeO.none _)
      | (with_reducible refine LeO.ite ?_ ?_)
      | (with_reducible refine LeO.bind ?_ (fun _ => ?_))
      | exact ih0 _
      | exact ih1 _
      | exact LeO.none _
      | refine LeO.ite ?_ ?_
      | refine LeO.bind ?_ (fun _ => ?_)
    · intro y0
      unfold polyglotlaw13_four.l0
      repeat' first
      | (with_reducible exact ih0 _)
      | (with_reducible exact ih1 _)
      | (with_reducible exact LeO.refl _)
      | (with_reducible exact LeO.none _)
      | (with_reducible refine LeO.ite ?_ ?_)
      | (with_reducible refine LeO.bind ?_ (fun _ => ?_))
      | exact ih0 _
      | exact ih1 _
      | exact LeO.none _
      | refine LeO.ite ?_ ?_
      | refine LeO.bind ?_ (fun _ => ?_)
theorem polyglotlaw13_four.mono : ∀ a0 k, LeO (polyglotlaw13_four.f k a0) (polyglotlaw13_four.f (k + 1) a0) := by
  intro a0 k
  obtain ⟨ih0, ih1⟩ := polyglotlaw13_four.mono_l k
  exact ih0 a0
set_option maxHeartbeats 8000000 in
set_option maxRecDepth 100000 in
theorem polyglotlaw13_four.calls (k : Nat) : ∀ (a0 : Int) (r : ByteArray) (w : World) (h : polyglotlaw13_four.f k a0 = some r) (hG : GW w := by first | exact hG | exact GW.drewN hG _ | exact GW.below hG (by first | exact HB.out | (with_reducible exact HB.out) | (repeat (first | (with_reducible first | exact HB.out | apply below_alloc | apply pw_below_drewN | apply below_drew1) | (refine below_setA ?_ (by assumption)) | exact HB.out)))),
    Calls Tryd.prog 52 #[.int .i64 a0] w fun e w' => e = .returned (.string r) ∧ Below w.heap.size w w' := by
  induction k using Nat.strongRecOn with
  | _ k ih =>
  intro a0 r w h hG
  cases k with
  | zero => exact absurd h (by simp [polyglotlaw13_four.f])
  | succ k =>
  simp only [polyglotlaw13_four.f] at h
  have HB := Aside0.mk (Below.refl w.heap.size w)
  have H : (if a0 < 0 then ((polyglotlaw13_four.f k (wrap64 (-a0))).bind fun t181 => (if 1 + t181.size ≤ 9223372036854775807 then ((some ((⟨#[45]⟩ : ByteArray) ++ t181 : ByteArray)).bind fun y182 => (some y182)) else (none))) else ((strconv_Itoa.f a0).bind fun t183 => (polyglotlaw13_four.l0 k t183))) = some r := h
  clear h
  by_cases c2 : a0 < 0
  · rw [if_pos c2] at H
    have c2b0 : decide (a0 < 0) = true := decide_eq_true c2
    clear c2
    replace H := Option.bind_eq_some_iff.mp H
    obtain ⟨t181, A30, H⟩ := H
    replace H : (if 1 + t181.size ≤ 9223372036854775807 then ((some ((⟨#[45]⟩ : ByteArray) ++ t181 : ByteArray)).bind fun y182 => (some y182)) else (none)) = some r := H
    have A3 := Aside0.mk A30
    clear A30
    by_cases c4 : 1 + t181.size ≤ 9223372036854775807
    · rw [if_pos c4] at H
      have c4b0 := eq_true c4
      have c4b1 : decide (1 + t181.size ≤ 9223372036854775807) = true := decide_eq_true c4
      try have c4b2 : (9223372036854775807 < 1 + t181.size) = False := eq_false (Nat.not_lt.2 c4)
      replace H := Option.bind_eq_some_iff.mp H
      obtain ⟨y182, hy1820, H⟩ := H
      replace H : (some y182) = some r := H
      have hy182 : (⟨#[45]⟩ : ByteArray) ++ t181 = y182 := Option.some.inj hy1820
      clear hy1820
      obtain rfl := Option.some.inj H
      go_enter Tryd.func52, Tryd.ntmps52
      go_wp2_with (first | ((with_reducible refine gate_callee (f := 52) rfl ?_); refine goesL_ (some 8) rfl rfl Tryd.func52 (by kernel_rfl) rfl #[.int .i64 (wrap64 (-a0))] rfl (by (try simp only [List.map_toArray, List.map_cons, List.map_nil]); first | done | rfl | (simp only [List.length_drop, List.length_take]; rfl)) ?_; (with_reducible refine (ih k (by omega) (wrap64 (-a0)) t181 _ A3.out).mono ?_); rintro e w5 ⟨rfl, hb⟩; refine ⟨_, rfl, ?_⟩; have n0_ := Aside0.mk (below_step (by repeat (first | (with_reducible first | exact HB.out | apply below_alloc | apply pw_below_drewN | apply below_drew1) | exact HB.out)) hb); clear HB; have HB := n0_; clear n0_; (try clear hb); (try clear hb2); (try clear hk); (try clear hi)))
      go_ret
      exact ⟨by first | rfl | (simp [errW_none, errW_some] <;> rfl) | (simp [*, errW_none, errW_some] <;> rfl), by repeat (first | (with_reducible first | exact HB.out | apply below_alloc | apply pw_below_drewN | apply below_drew1) | exact HB.out)⟩
    · rw [if_neg c4] at H
      exact absurd H (by simp)
  · rw [if_neg c2] at H
    have c2b0 : decide (a0 < 0) = false := decide_eq_false c2
    clear c2
    replace H := Option.bind_eq_some_iff.mp H
    obtain ⟨t183, A60, H⟩ := H
    replace H : (polyglotlaw13_four.l0 k t183) = some r := H
    have A6 := Aside0.mk A60
    clear A60
    have H' := Aside0.mk H
    clear H
    go_enter Tryd.func52, Tryd.ntmps52
    go_wp2_with (first | ((with_reducible refine gate_callee (f := 54) rfl ?_); refine goesL_ (some 11) rfl rfl Tryd.func54 (by kernel_rfl) rfl #[.int .i64 a0] rfl (by (try simp only [List.map_toArray, List.map_cons, List.map_nil]); first | done | rfl | (simp only [List.length_drop, List.length_take]; rfl)) ?_; (with_reducible refine (strconv_Itoa.calls a0 t183 _ A6.out).mono ?_); rintro e w7 ⟨rfl, hb⟩; refine ⟨_, rfl, ?_⟩; have n0_ := Aside0.mk (below_step (by repeat (first | (with_reducible first | exact HB.out | apply below_alloc | apply pw_below_drewN | apply below_drew1) | exact HB.out)) hb); clear HB; have HB := n0_; clear n0_; (try clear hb); (try clear hb2); (try clear hk); (try clear hi)))
    go_loopg [3] k (fun kq v3 w' => ∃ (x3_l1 : ByteArray), v3 = .string x3_l1 ∧ Aside0 (polyglotlaw13_four.l0 kq x3_l1 = some r) ∧ Aside0 (kq ≤ k) ∧ Aside0 (Below w.heap.size w w'))
    case atStart => exact ⟨(t183), (by first | rfl | (simp; done) | (simp [*]; done)), H', ⟨Nat.le_refl _⟩, ⟨by repeat (first | (with_reducible first | exact HB.out | apply below_alloc | apply pw_below_drewN | apply below_drew1) | exact HB.out)⟩⟩
    case round =>
      clear H'
      try clear c2
      try clear c2b0
      try clear p2
      try clear c4
      try clear c4b0
      try clear c4b1
      try clear c4b2
      try clear c5
      try clear p6
      obtain ⟨x3_l1, rfl, HA, HK1, HB⟩ := hrel
      cases gk with
      | zero => exact absurd HA.out (by simp [polyglotlaw13_four.l0])
      | succ k1 =>
        have H := HA.out
        clear HA
        simp only [polyglotlaw13_four.l0] at H
        by_cases c8 : (x3_l1.size : Int) < 4
        · rw [if_pos c8] at H
          have c8b0 : decide ((x3_l1.size : Int) < 4) = true := decide_eq_true c8
          have c8b1 : decide (x3_l1.size < 4) = true := decide_eq_true (by omega)
          clear c8
          by_cases c9 : 1 + x3_l1.size ≤ 9223372036854775807
          · rw [if_pos c9] at H
            have c9b0 := eq_true c9
            have c9b1 : decide (1 + x3_l1.size ≤ 9223372036854775807) = true := decide_eq_true c9
            try have c9b2 : (9223372036854775807 < 1 + x3_l1.size) = False := eq_false (Nat.not_lt.2 c9)
            replace H := Option.bind_eq_some_iff.mp H
            obtain ⟨y184, hy1840, H⟩ := H
            replace H : (polyglotlaw13_four.l0 k1 y184) = some r := H
            have hy184 : (⟨#[48]⟩ : ByteArray) ++ x3_l1 = y184 := Option.some.inj hy1840
            clear hy1840
            have H' := Aside0.mk H
            clear H
            go_wp2
            go_roundg k1
            case measure => have := HK1.out; omega
            case rel => exact ⟨(y184), (by first | rfl | (simp; done) | (simp [*]; done)), H', ⟨by have := HK1.out; omega⟩, ⟨by repeat (first | (with_reducible first | exact HB.out | apply below_alloc | apply pw_below_drewN | apply below_drew1) | exact HB.out)⟩⟩
          · rw [if_neg c9] at H
            exact absurd H (by simp)
        · rw [if_neg c8] at H
          have c8b0 : decide ((x3_l1.size : Int) < 4) = false := decide_eq_false c8
          have c8b1 : decide (x3_l1.size < 4) = false := decide_eq_false (by omega)
          clear c8
          obtain rfl := Option.some.inj H
          go_wp2
          go_ret
          exact ⟨by first | rfl | (simp [errW_none, errW_some] <;> rfl) | (simp [*, errW_none, errW_some] <;> rfl), by repeat (first | (with_reducible first | exact HB.out | apply below_alloc | apply pw_below_drewN | apply below_drew1) | exact HB.out)⟩

/-! ### polyglotlaw13_two: function 53 -/
def polyglotlaw13_two.f (a0 : Int) : Option (ByteArray) := if a0 < 10 then ((strconv_Itoa.f a0).bind fun t185 => (if 1 + t185.size ≤ 9223372036854775807 then ((some ((⟨#[48]⟩ : ByteArray) ++ t185 : ByteArray)).bind fun y186 => (some y186)) else (none))) else ((strconv_Itoa.f a0).bind fun t187 => (some t187))
set_option maxHeartbeats 8000000 in
set_option maxRecDepth 100000 in
theorem polyglotlaw13_two.calls (a0 : Int) (r : ByteArray) (w : World) (h : polyglotlaw13_two.f a0 = some r) (hG : GW w := by first | exact hG | exact GW.drewN hG _ | exact GW.below hG (by first | exact HB.out | (with_reducible exact HB.out) | (repeat (first | (with_reducible first | exact HB.out | apply below_alloc | apply pw_below_drewN | apply below_drew1) | (refine below_setA ?_ (by assumption)) | exact HB.out)))) :
    Calls Tryd.prog 53 #[.int .i64 a0] w fun e w' => e = .returned (.string r) ∧ Below w.heap.size w w' := by
  have HB := Aside0.mk (Below.refl w.heap.size w)
  have H : (if a0 < 10 then ((strconv_Itoa.f a0).bind fun t185 => (if 1 + t185.size ≤ 9223372036854775807 then ((some ((⟨#[48]⟩ : ByteArray) ++ t185 : ByteArray)).bind fun y186 => (some y186)) else (none))) else ((strconv_Itoa.f a0).bind fun t187 => (some t187))) = some r := h
  clear h
  by_cases c2 : a0 < 10
  · rw [if_pos c2] at H
    have c2b0 : decide (a0 < 10) = true := decide_eq_true c2
    clear c2
    replace H := Option.bind_eq_some_iff.mp H
    obtain ⟨t185, A30, H⟩ := H
    replace H : (if 1 + t185.size ≤ 9223372036854775807 then ((some ((⟨#[48]⟩ : ByteArray) ++ t185 : ByteArray)).bind fun y186 => (some y186)) else (none)) = some r := H
    have A3 := Aside0.mk A30
    clear A30
    by_cases c4 : 1 + t185.size ≤ 9223372036854775807
    · rw [if_pos c4] at H
      have c4b0 := eq_true c4
      have c4b1 : decide (1 + t185.size ≤ 9223372036854775807) = true := decide_eq_true c4
      try have c4b2 : (9223372036854775807 < 1 + t185.size) = False := eq_false (Nat.not_lt.2 c4)
      replace H := Option.bind_eq_some_iff.mp H
      obtain ⟨y186, hy1860, H⟩ := H
      replace H : (some y186) = some r := H
      have hy186 : (⟨#[48]⟩ : ByteArray) ++ t185 = y186 := Option.some.inj hy1860
      clear hy1860
      obtain rfl := Option.some.inj H
      go_enter Tryd.func53, Tryd.ntmps53
      go_wp2_with (first | ((with_reducible refine gate_callee (f := 54) rfl ?_); refine goesL_ (some 6) rfl rfl Tryd.func54 (by kernel_rfl) rfl #[.int .i64 a0] rfl (by (try simp only [List.map_toArray, List.map_cons, List.map_nil]); first | done | rfl | (simp only [List.length_drop, List.length_take]; rfl)) ?_; (with_reducible refine (strconv_Itoa.calls a0 t185 _ A3.out).mono ?_); rintro e w5 ⟨rfl, hb⟩; refine ⟨_, rfl, ?_⟩; have n0_ := Aside0.mk (below_step (by repeat (first | (with_reducible first | exact HB.out | apply below_alloc | apply pw_below_drewN | apply below_drew1) | exact HB.out)) hb); clear HB; have HB := n0_; clear n0_; (try clear hb); (try clear hb2); (try clear hk); (try clear hi)))
      go_ret
      exact ⟨by first | rfl | (simp [errW_none, errW_some] <;> rfl) | (simp [*, errW_none, errW_some] <;> rfl), by repeat (first | (with_reducible first | exact HB.out | apply below_alloc | apply pw_below_drewN | apply below_drew1) | exact HB.out)⟩
    · rw [if_neg c4] at H
      exact absurd H (by simp)
  · rw [if_neg c2] at H
    have c2b0 : decide (a0 < 10) = false := decide_eq_false c2
    clear c2
    replace H := Option.bind_eq_some_iff.mp H
    obtain ⟨t187, A60, H⟩ := H
    replace H : (some t187) = some r := H
    have A6 := Aside0.mk A60
    clear A60
    obtain rfl := Option.some.inj H
    go_enter Tryd.func53, Tryd.ntmps53
    go_wp2_with (first | ((with_reducible refine gate_callee (f := 54) rfl ?_); refine goesL_ (some 9) rfl rfl Tryd.func54 (by kernel_rfl) rfl #[.int .i64 a0] rfl (by (try simp only [List.map_toArray, List.map_cons, List.map_nil]); first | done | rfl | (simp only [List.length_drop, List.length_take]; rfl)) ?_; (with_reducible refine (strconv_Itoa.calls a0 t187 _ A6.out).mono ?_); rintro e w7 ⟨rfl, hb⟩; refine ⟨_, rfl, ?_⟩; have n0_ := Aside0.mk (below_step (by repeat (first | (with_reducible first | exact HB.out | apply below_alloc | apply pw_below_drewN | apply below_drew1) | exact HB.out)) hb); clear HB; have HB := n0_; clear n0_; (try clear hb); (try clear hb2); (try clear hk); (try clear hi)))
    go_ret
    exact ⟨by first | rfl | (simp [errW_none, errW_some] <;> rfl) | (simp [*, errW_none, errW_some] <;> rfl), by repeat (first | (with_reducible first | exact HB.out | apply below_alloc | apply pw_below_drewN | apply below_drew1) | exact HB.out)⟩

end Go.Proofs.YtpedajhcfkohlaaDoor.PMom
