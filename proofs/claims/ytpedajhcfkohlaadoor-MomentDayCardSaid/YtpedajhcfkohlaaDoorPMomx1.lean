-- Written by this session's own program (wip/drive.py) over the kit's printer: not the printer's own text.
import Derived.Test.YtpedajhcfkohlaaDoorPMomx0
namespace Go.Proofs.YtpedajhcfkohlaaDoor.PMom
open Go.RowKit Go.Proofs.YtpedajhcfkohlaaDoorHand Go.Proofs.YtpedajhcfkohlaaDoorW.PrintWords Go.Proofs.YtpedajhcfkohlaaDoorW.PrintLast Go.Proofs.YtpedajhcfkohlaaDoorW.PrintMore
attribute [local go_sem] max2_int min2_int max_two min_two max_three min_three max_four min_four   -- for this text's walks alone
set_option linter.unusedVariables false
set_option linter.unusedSimpArgs false

/-! ### moment_pad: function 68 -/
def moment_pad.f (a0 : Int) (a1 : Int) : Option (ByteArray) := if a0 < 0 then ((strconv_Itoa.f (wrap64 (-a0))).bind fun t101 => ((strings_Repeat.f (⟨#[48]⟩ : ByteArray) (mx 0 (wrap64 (a1 - (t101.size : Int))))).bind fun t102 => (if 1 + t102.size ≤ 9223372036854775807 then ((some ((⟨#[45]⟩ : ByteArray) ++ t102 : ByteArray)).bind fun y103 => (if y103.size + t101.size ≤ 9223372036854775807 then ((some (y103 ++ t101 : ByteArray)).bind fun y104 => (some y104)) else (none))) else (none)))) else ((strconv_Itoa.f a0).bind fun t105 => ((strings_Repeat.f (⟨#[48]⟩ : ByteArray) (mx 0 (wrap64 (a1 - (t105.size : Int))))).bind fun t106 => (if 0 + t106.size ≤ 9223372036854775807 then ((some ((⟨#[]⟩ : ByteArray) ++ t106 : ByteArray)).bind fun y107 => (if y107.size + t105.size ≤ 9223372036854775807 then ((some (y107 ++ t105 : ByteArray)).bind fun y108 => (some y108)) else (none))) else (none))))
set_option maxHeartbeats 8000000 in
set_option maxRecDepth 100000 in
theorem moment_pad.calls (a0 : Int) (a1 : Int) (r : ByteArray) (w : World) (h : moment_pad.f a0 a1 = some r) (hG : GW w := by first | exact hG | exact GW.drewN hG _ | exact GW.below hG (by first | exact HB.out | (with_reducible exact HB.out) | (repeat (first | (with_reducible first | exact HB.out | apply below_alloc | apply pw_below_drewN | apply below_drew1) | (refine below_setA ?_ (by assumption)) | exact HB.out)))) :
    Calls Tryd.prog 68 #[.int .i64 a0, .int .i64 a1] w fun e w' => e = .returned (.string r) ∧ Below w.heap.size w w' := by
  have HB := Aside0.mk (Below.refl w.heap.size w)
  have H : (if a0 < 0 then ((strconv_Itoa.f (wrap64 (-a0))).bind fun t101 => ((strings_Repeat.f (⟨#[48]⟩ : ByteArray) (mx 0 (wrap64 (a1 - (t101.size : Int))))).bind fun t102 => (if 1 + t102.size ≤ 9223372036854775807 then ((some ((⟨#[45]⟩ : ByteArray) ++ t102 : ByteArray)).bind fun y103 => (if y103.size + t101.size ≤ 9223372036854775807 then ((some (y103 ++ t101 : ByteArray)).bind fun y104 => (some y104)) else (none))) else (none)))) else ((strconv_Itoa.f a0).bind fun t105 => ((strings_Repeat.f (⟨#[48]⟩ : ByteArray) (mx 0 (wrap64 (a1 - (t105.size : Int))))).bind fun t106 => (if 0 + t106.size ≤ 9223372036854775807 then ((some ((⟨#[]⟩ : ByteArray) ++ t106 : ByteArray)).bind fun y107 => (if y107.size + t105.size ≤ 9223372036854775807 then ((some (y107 ++ t105 : ByteArray)).bind fun y108 => (some y108)) else (none))) else (none))))) = some r := h
  clear h
  by_cases c3 : a0 < 0
  · rw [if_pos c3] at H
    have c3b0 : decide (a0 < 0) = true := decide_eq_true c3
    clear c3
    replace H := Option.bind_eq_some_iff.mp H
    obtain ⟨t101, A40, H⟩ := H
    replace H : ((strings_Repeat.f (⟨#[48]⟩ : ByteArray) (mx 0 (wrap64 (a1 - (t101.size : Int))))).bind fun t102 => (if 1 + t102.size ≤ 9223372036854775807 then ((some ((⟨#[45]⟩ : ByteArray) ++ t102 : ByteArray)).bind fun y103 => (if y103.size + t101.size ≤ 9223372036854775807 then ((some (y103 ++ t101 : ByteArray)).bind fun y104 => (some y104)) else (none))) else (none))) = some r := H
    have A4 := Aside0.mk A40
    clear A40
    obtain ⟨ji5, hji5⟩ : ∃ j_ : Int, (mx 0 (wrap64 (a1 - (t101.size : Int)))) = j_ := ⟨_, rfl⟩
    replace H : ((strings_Repeat.f (⟨#[48]⟩ : ByteArray) (ji5)).bind fun t102 => (if 1 + t102.size ≤ 9223372036854775807 then ((some ((⟨#[45]⟩ : ByteArray) ++ t102 : ByteArray)).bind fun y103 => (if y103.size + t101.size ≤ 9223372036854775807 then ((some (y103 ++ t101 : ByteArray)).bind fun y104 => (some y104)) else (none))) else (none))) = some r := by first | (rw [hji5] at H; exact H) | (simp only [hji5] at H ⊢; exact H)
    (try rw [hji5] at A4)
    (try (have hji5l : 0 ≤ ji5 := by (rw [← hji5]; unfold mx; (repeat' split) <;> omega)))
    (try (have hji5m : 0 ≤ ji5 := by omega))
    have hji5_ : (if 0 < (wrap64 (a1 - (t101.size : Int))) then (wrap64 (a1 - (t101.size : Int))) else 0) = ji5 := hji5
    (try (have hji5M_ : max 0 (wrap64 (a1 - (t101.size : Int))) = ji5 := by (rw [← hji5]; unfold mx; omega)))
    replace H := Option.bind_eq_some_iff.mp H
    obtain ⟨t102, A60, H⟩ := H
    replace H : (if 1 + t102.size ≤ 9223372036854775807 then ((some ((⟨#[45]⟩ : ByteArray) ++ t102 : ByteArray)).bind fun y103 => (if y103.size + t101.size ≤ 9223372036854775807 then ((some (y103 ++ t101 : ByteArray)).bind fun y104 => (some y104)) else (none))) else (none)) = some r := H
    have A6 := Aside0.mk A60
    clear A60
    by_cases c7 : 1 + t102.size ≤ 9223372036854775807
    · rw [if_pos c7] at H
      have c7b0 := eq_true c7
      have c7b1 : decide (1 + t102.size ≤ 9223372036854775807) = true := decide_eq_true c7
      try have c7b2 : (9223372036854775807 < 1 + t102.size) = False := eq_false (Nat.not_lt.2 c7)
      replace H := Option.bind_eq_some_iff.mp H
      obtain ⟨y103, hy1030, H⟩ := H
      replace H : (if y103.size + t101.size ≤ 9223372036854775807 then ((some (y103 ++ t101 : ByteArray)).bind fun y104 => (some y104)) else (none)) = some r := H
      have hy103 : (⟨#[45]⟩ : ByteArray) ++ t102 = y103 := Option.some.inj hy1030
      clear hy1030
      by_cases c8 : y103.size + t101.size ≤ 9223372036854775807
      · rw [if_pos c8] at H
        have c8b0 := eq_true c8
        have c8b1 : decide (y103.size + t101.size ≤ 9223372036854775807) = true := decide_eq_true c8
        try have c8b2 : (9223372036854775807 < y103.size + t101.size) = False := eq_false (Nat.not_lt.2 c8)
        replace H := Option.bind_eq_some_iff.mp H
        obtain ⟨y104, hy1040, H⟩ := H
        replace H : (some y104) = some r := H
        have hy104 : y103 ++ t101 = y104 := Option.some.inj hy1040
        clear hy1040
        obtain rfl := Option.some.inj H
        go_enter Tryd.func68, Tryd.ntmps68
        go_wp2_with (first | ((with_reducible refine gate_callee (f := 54) rfl ?_); refine goesL_ (some 12) rfl rfl Tryd.func54 (by kernel_rfl) rfl #[.int .i64 (wrap64 (-a0))] rfl (by (try simp only [List.map_toArray, List.map_cons, List.map_nil]); first | done | rfl | (simp only [List.length_drop, List.length_take]; rfl)) ?_; (with_reducible refine (strconv_Itoa.calls (wrap64 (-a0)) t101 _ A4.out).mono ?_); rintro e w9 ⟨rfl, hb⟩; refine ⟨_, rfl, ?_⟩; have n0_ := Aside0.mk (below_step (by repeat (first | (with_reducible first | exact HB.out | apply below_alloc | apply pw_below_drewN | apply below_drew1) | exact HB.out)) hb); clear HB; have HB := n0_; clear n0_; (try clear hb); (try clear hb2); (try clear hk); (try clear hi)) | ((with_reducible refine gate_callee (f := 77) rfl ?_); refine goesL_ (some 19) rfl rfl Tryd.func77 (by kernel_rfl) rfl #[.string (⟨#[48]⟩ : ByteArray), .int .i64 ji5] rfl (by (try simp only [List.map_toArray, List.map_cons, List.map_nil]); first | done | (simp only [hji5]; rfl) | rfl | (simp only [List.length_drop, List.length_take]; rfl)) ?_; (with_reducible refine (strings_Repeat.calls (⟨#[48]⟩ : ByteArray) ji5 t102 _ A6.out).mono ?_); rintro e w10 ⟨rfl, hb⟩; refine ⟨_, rfl, ?_⟩; have n0_ := Aside0.mk (below_step (by repeat (first | (with_reducible first | exact HB.out | apply below_alloc | apply pw_below_drewN | apply below_drew1) | exact HB.out)) hb); clear HB; have HB := n0_; clear n0_; (try clear hb); (try clear hb2); (try clear hk); (try clear hi)))
        go_ret
        exact ⟨by first | rfl | (simp [errW_none, errW_some] <;> rfl) | (simp only [← hji5]; first | rfl | (simp [errW_none, errW_some] <;> rfl)) | (simp [*, errW_none, errW_some] <;> rfl), by repeat (first | (with_reducible first | exact HB.out | apply below_alloc | apply pw_below_drewN | apply below_drew1) | exact HB.out)⟩
      · rw [if_neg c8] at H
        exact absurd H (by simp)
    · rw [if_neg c7] at H
      exact absurd H (by simp)
  · rw [if_neg c3] at H
    have c3b0 : decide (a0 < 0) = false := decide_eq_false c3
    clear c3
    replace H := Option.bind_eq_some_iff.mp H
    obtain ⟨t105, A110, H⟩ := H
    replace H : ((strings_Repeat.f (⟨#[48]⟩ : ByteArray) (mx 0 (wrap64 (a1 - (t105.size : Int))))).bind fun t106 => (if 0 + t106.size ≤ 9223372036854775807 then ((some ((⟨#[]⟩ : ByteArray) ++ t106 : ByteArray)).bind fun y107 => (if y107.size + t105.size ≤ 9223372036854775807 then ((some (y107 ++ t105 : ByteArray)).bind fun y108 => (some y108)) else (none))) else (none))) = some r := H
    have A11 := Aside0.mk A110
    clear A110
    obtain ⟨ji12, hji12⟩ : ∃ j_ : Int, (mx 0 (wrap64 (a1 - (t105.size : Int)))) = j_ := ⟨_, rfl⟩
    replace H : ((strings_Repeat.f (⟨#[48]⟩ : ByteArray) (ji12)).bind fun t106 => (if 0 + t106.size ≤ 9223372036854775807 then ((some ((⟨#[]⟩ : ByteArray) ++ t106 : ByteArray)).bind fun y107 => (if y107.size + t105.size ≤ 9223372036854775807 then ((some (y107 ++ t105 : ByteArray)).bind fun y108 => (some y108)) else (none))) else (none))) = some r := by first | (rw [hji12] at H; exact H) | (simp only [hji12] at H ⊢; exact H)
    (try rw [hji12] at A11)
    (try (have hji12l : 0 ≤ ji12 := by (rw [← hji12]; unfold mx; (repeat' split) <;> omega)))
    (try (have hji12m : 0 ≤ ji12 := by omega))
    have hji12_ : (if 0 < (wrap64 (a1 - (t105.size : Int))) then (wrap64 (a1 - (t105.size : Int))) else 0) = ji12 := hji12
    (try (have hji12M_ : max 0 (wrap64 (a1 - (t105.size : Int))) = ji12 := by (rw [← hji12]; unfold mx; omega)))
    replace H := Option.bind_eq_some_iff.mp H
    obtain ⟨t106, A130, H⟩ := H
    replace H : (if 0 + t106.size ≤ 9223372036854775807 then ((some ((⟨#[]⟩ : ByteArray) ++ t106 : ByteArray)).bind fun y107 => (if y107.size + t105.size ≤ 9223372036854775807 then ((some (y107 ++ t105 : ByteArray)).bind fun y108 => (some y108)) else (none))) else (none)) = some r := H
    have A13 := Aside0.mk A130
    clear A130
    by_cases c14 : 0 + t106.size ≤ 9223372036854775807
    · rw [if_pos c14] at H
      have c14b0 := eq_true c14
      have c14b1 : decide (0 + t106.size ≤ 9223372036854775807) = true := decide_eq_true c14
      try have c14b2 : (9223372036854775807 < 0 + t106.size) = False := eq_false (Nat.not_lt.2 c14)
      replace H := Option.bind_eq_some_iff.mp H
      obtain ⟨y107, hy1070, H⟩ := H
      replace H : (if y107.size + t105.size ≤ 9223372036854775807 then ((some (y107 ++ t105 : ByteArray)).bind fun y108 => (some y108)) else (none)) = some r := H
      have hy107 : (⟨#[]⟩ : ByteArray) ++ t106 = y107 := Option.some.inj hy1070
      clear hy1070
      by_cases c15 : y107.size + t105.size ≤ 9223372036854775807
      · rw [if_pos c15] at H
        have c15b0 := eq_true c15
        have c15b1 : decide (y107.size + t105.size ≤ 9223372036854775807) = true := decide_eq_true c15
        try have c15b2 : (9223372036854775807 < y107.size + t105.size) = False := eq_false (Nat.not_lt.2 c15)
        replace H := Option.bind_eq_some_iff.mp H
        obtain ⟨y108, hy1080, H⟩ := H
        replace H : (some y108) = some r := H
        have hy108 : y107 ++ t105 = y108 := Option.some.inj hy1080
        clear hy1080
        obtain rfl := Option.some.inj H
        go_enter Tryd.func68, Tryd.ntmps68
        go_wp2_with (first | ((with_reducible refine gate_callee (f := 54) rfl ?_); refine goesL_ (some 12) rfl rfl Tryd.func54 (by kernel_rfl) rfl #[.int .i64 a0] rfl (by (try simp only [List.map_toArray, List.map_cons, List.map_nil]); first | done | rfl | (simp only [List.length_drop, List.length_take]; rfl)) ?_; (with_reducible refine (strconv_Itoa.calls a0 t105 _ A11.out).mono ?_); rintro e w16 ⟨rfl, hb⟩; refine ⟨_, rfl, ?_⟩; have n0_ := Aside0.mk (below_step (by repeat (first | (with_reducible first | exact HB.out | apply below_alloc | apply pw_below_drewN | apply below_drew1) | exact HB.out)) hb); clear HB; have HB := n0_; clear n0_; (try clear hb); (try clear hb2); (try clear hk); (try clear hi)) | ((with_reducible refine gate_callee (f := 77) rfl ?_); refine goesL_ (some 19) rfl rfl Tryd.func77 (by kernel_rfl) rfl #[.string (⟨#[48]⟩ : ByteArray), .int .i64 ji12] rfl (by (try simp only [List.map_toArray, List.map_cons, List.map_nil]); first | done | (simp only [hji12]; rfl) | rfl | (simp only [List.length_drop, List.length_take]; rfl)) ?_; (with_reducible refine (strings_Repeat.calls (⟨#[48]⟩ : ByteArray) ji12 t106 _ A13.out).mono ?_); rintro e w17 ⟨rfl, hb⟩; refine ⟨_, rfl, ?_⟩; have n0_ := Aside0.mk (below_step (by repeat (first | (with_reducible first | exact HB.out | apply below_alloc | apply pw_below_drewN | apply below_drew1) | exact HB.out)) hb); clear HB; have HB := n0_; clear n0_; (try clear hb); (try clear hb2); (try clear hk); (try clear hi)))
        go_ret
        exact ⟨by first | rfl | (simp [errW_none, errW_some] <;> rfl) | (simp only [← hji12]; first | rfl | (simp [errW_none, errW_some] <;> rfl)) | (simp [*, errW_none, errW_some] <;> rfl), by repeat (first | (with_reducible first | exact HB.out | apply below_alloc | apply pw_below_drewN | apply below_drew1) | exact HB.out)⟩
      · rw [if_neg c15] at H
        exact absurd H (by simp)
    · rw [if_neg c14] at H
      exact absurd H (by simp)

/-! ### moment_clock: function 49 -/
def moment_clock.f (a0 : ByteArray) (a1_0 : Int) (a1_1 : Int) (a1_2 : Int) (a1_3 : Int) (a1_4 : Int) (a1_5 : Int) (a1_6 : Int) : Option (ByteArray) := if a0.toList = ([101, 110] : List UInt8) then (if a1_3 ≥ 12 then ((moment_pad.f (wrap64 ((Int.tmod (wrap64 (a1_3 + 11)) 12) + 1)) 1).bind fun t114 => (if t114.size + 1 ≤ 9223372036854775807 then ((some (t114 ++ (⟨#[58]⟩ : ByteArray) : ByteArray)).bind fun y115 => ((moment_pad.f a1_4 2).bind fun t116 => (if y115.size + t116.size ≤ 9223372036854775807 then ((some (y115 ++ t116 : ByteArray)).bind fun y117 => (if y117.size + 1 ≤ 9223372036854775807 then ((some (y117 ++ (⟨#[32]⟩ : ByteArray) : ByteArray)).bind fun y118 => (if y118.size + 2 ≤ 9223372036854775807 then ((some (y118 ++ (⟨#[80, 77]⟩ : ByteArray) : ByteArray)).bind fun y119 => (some y119)) else (none))) else (none))) else (none)))) else (none))) else ((moment_pad.f (wrap64 ((Int.tmod (wrap64 (a1_3 + 11)) 12) + 1)) 1).bind fun t120 => (if t120.size + 1 ≤ 9223372036854775807 then ((some (t120 ++ (⟨#[58]⟩ : ByteArray) : ByteArray)).bind fun y121 => ((moment_pad.f a1_4 2).bind fun t122 => (if y121.size + t122.size ≤ 9223372036854775807 then ((some (y121 ++ t122 : ByteArray)).bind fun y123 => (if y123.size + 1 ≤ 9223372036854775807 then ((some (y123 ++ (⟨#[32]⟩ : ByteArray) : ByteArray)).bind fun y124 => (if y124.size + 2 ≤ 9223372036854775807 then ((some (y124 ++ (⟨#[65, 77]⟩ : ByteArray) : ByteArray)).bind fun y125 => (some y125)) else (none))) else (none))) else (none)))) else (none)))) else ((moment_pad.f a1_3 2).bind fun t110 => (if t110.size + 1 ≤ 9223372036854775807 then ((some (t110 ++ (⟨#[58]⟩ : ByteArray) : ByteArray)).bind fun y111 => ((moment_pad.f a1_4 2).bind fun t112 => (if y111.size + t112.size ≤ 9223372036854775807 then ((some (y111 ++ t112 : ByteArray)).bind fun y113 => (some y113)) else (none)))) else (none)))
def moment_clock.T2 : Bool × List (List Nat × List Nat) := (true, [([], []), ([0], [0]), ([1], [1]), ([2], [2]), ([], []), ([4], [4]), ([5, 2], [5]), ([3, 6], [3, 6]), ([7, 6, 0, 1, 2, 3, 4, 5, 6, 7], [7])])
def moment_clock.B2 : List Nat := [0, 1, 3, 7, 0, 16, 55, 127, 255]
theorem moment_clock.tab2 : rtab .any (opsOf Tryd.f49 2) = moment_clock.T2 := by kernel_rfl
theorem moment_clock.bits2 : waitsOk moment_clock.T2.2 moment_clock.B2 = true := by kernel_rfl
def moment_clock.T6 : Bool × List (List Nat × List Nat) := (true, [([], []), ([0], [0]), ([1], [1]), ([2], [2]), ([3], [3]), ([4], [4]), ([5], [5]), ([], []), ([7], [7]), ([8, 5], [8]), ([6, 9], [6, 9]), ([10], [10]), ([], []), ([11, 12], [11, 12]), ([13, 9, 0, 1, 2, 3, 4, 5, 6, 7, 8, 9, 10, 11, 12, 13], [13])])
def moment_clock.B6 : List Nat := [0, 1, 3, 7, 15, 31, 63, 0, 128, 447, 1023, 2047, 0, 8191, 16383]
theorem moment_clock.tab6 : rtab .any (opsOf Tryd.f49 6) = moment_clock.T6 := by kernel_rfl
theorem moment_clock.bits6 : waitsOk moment_clock.T6.2 moment_clock.B6 = true := by kernel_rfl
set_option maxHeartbeats 8000000 in
set_option maxRecDepth 100000 in
theorem moment_clock.calls (a0 : ByteArray) (a1_0 : Int) (a1_1 : Int) (a1_2 : Int) (a1_3 : Int) (a1_4 : Int) (a1_5 : Int) (a1_6 : Int) (r : ByteArray) (w : World) (h : moment_clock.f a0 a1_0 a1_1 a1_2 a1_3 a1_4 a1_5 a1_6 = some r) (hG : GW w := by first | exact hG | exact GW.drewN hG _ | exact GW.below hG (by first | exact HB.out | (with_reducible exact HB.out) | (repeat (first | (with_reducible first | exact HB.out | apply below_alloc | apply pw_below_drewN | apply below_drew1) | (refine below_setA ?_ (by assumption)) | exact HB.out)))) :
    Calls Tryd.prog 49 #[.string a0, .agg #[.int .i64 a1_0, .int .i64 a1_1, .int .i64 a1_2, .int .i64 a1_3, .int .i64 a1_4, .int .i64 a1_5, .int .i64 a1_6]] w fun e w' => e = .returned (.string r) ∧ Below w.heap.size w w' := by
  have hu66 := Tryd.underlying66
  have HB := Aside0.mk (Below.refl w.heap.size w)
  have H : (if a0.toList = ([101, 110] : List UInt8) then (if a1_3 ≥ 12 then ((moment_pad.f (wrap64 ((Int.tmod (wrap64 (a1_3 + 11)) 12) + 1)) 1).bind fun t114 => (if t114.size + 1 ≤ 9223372036854775807 then ((some (t114 ++ (⟨#[58]⟩ : ByteArray) : ByteArray)).bind fun y115 => ((moment_pad.f a1_4 2).bind fun t116 => (if y115.size + t116.size ≤ 9223372036854775807 then ((some (y115 ++ t116 : ByteArray)).bind fun y117 => (if y117.size + 1 ≤ 9223372036854775807 then ((some (y117 ++ (⟨#[32]⟩ : ByteArray) : ByteArray)).bind fun y118 => (if y118.size + 2 ≤ 9223372036854775807 then ((some (y118 ++ (⟨#[80, 77]⟩ : ByteArray) : ByteArray)).bind fun y119 => (some y119)) else (none))) else (none))) else (none)))) else (none))) else ((moment_pad.f (wrap64 ((Int.tmod (wrap64 (a1_3 + 11)) 12) + 1)) 1).bind fun t120 => (if t120.size + 1 ≤ 9223372036854775807 then ((some (t120 ++ (⟨#[58]⟩ : ByteArray) : ByteArray)).bind fun y121 => ((moment_pad.f a1_4 2).bind fun t122 => (if y121.size + t122.size ≤ 9223372036854775807 then ((some (y121 ++ t122 : ByteArray)).bind fun y123 => (if y123.size + 1 ≤ 9223372036854775807 then ((some (y123 ++ (⟨#[32]⟩ : ByteArray) : ByteArray)).bind fun y124 => (if y124.size + 2 ≤ 9223372036854775807 then ((some (y124 ++ (⟨#[65, 77]⟩ : ByteArray) : ByteArray)).bind fun y125 => (some y125)) else (none))) else (none))) else (none)))) else (none)))) else ((moment_pad.f a1_3 2).bind fun t110 => (if t110.size + 1 ≤ 9223372036854775807 then ((some (t110 ++ (⟨#[58]⟩ : ByteArray) : ByteArray)).bind fun y111 => ((moment_pad.f a1_4 2).bind fun t112 => (if y111.size + t112.size ≤ 9223372036854775807 then ((some (y111 ++ t112 : ByteArray)).bind fun y113 => (some y113)) else (none)))) else (none)))) = some r := h
  clear h
  by_cases c3 : a0.toList = ([101, 110] : List UInt8)
  · rw [if_pos c3] at H
    have c3b0 : (a0.toList == ([101, 110] : List UInt8)) = true := beq_iff_eq.mpr c3
    have c3b1 : (a0.toList != ([101, 110] : List UInt8)) = false := bne_eq_false_iff_eq.mpr c3
    clear c3
    by_cases c4 : a1_3 ≥ 12
    · rw [if_pos c4] at H
      have c4b0 : decide (12 ≤ a1_3) = true := decide_eq_true c4
      clear c4
      replace H := Option.bind_eq_some_iff.mp H
      obtain ⟨t114, A50, H⟩ := H
      replace H : (if t114.size + 1 ≤ 9223372036854775807 then ((some (t114 ++ (⟨#[58]⟩ : ByteArray) : ByteArray)).bind fun y115 => ((moment_pad.f a1_4 2).bind fun t116 => (if y115.size + t116.size ≤ 9223372036854775807 then ((some (y115 ++ t116 : ByteArray)).bind fun y117 => (if y117.size + 1 ≤ 9223372036854775807 then ((some (y117 ++ (⟨#[32]⟩ : ByteArray) : ByteArray)).bind fun y118 => (if y118.size + 2 ≤ 9223372036854775807 then ((some (y118 ++ (⟨#[80, 77]⟩ : ByteArray) : ByteArray)).bind fun y119 => (some y119)) else (none))) else (none))) else (none)))) else (none)) = some r := H
      have A5 := Aside0.mk A50
      clear A50
      by_cases c6 : t114.size + 1 ≤ 9223372036854775807
      · rw [if_pos c6] at H
        have c6b0 := eq_true c6
        have c6b1 : decide (t114.size + 1 ≤ 9223372036854775807) = true := decide_eq_true c6
        try have c6b2 : (9223372036854775807 < t114.size + 1) = False := eq_false (Nat.not_lt.2 c6)
        replace H := Option.bind_eq_some_iff.mp H
        obtain ⟨y115, hy1150, H⟩ := H
        replace H : ((moment_pad.f a1_4 2).bind fun t116 => (if y115.size + t116.size ≤ 9223372036854775807 then ((some (y115 ++ t116 : ByteArray)).bind fun y117 => (if y117.size + 1 ≤ 9223372036854775807 then ((some (y117 ++ (⟨#[32]⟩ : ByteArray) : ByteArray)).bind fun y118 => (if y118.size + 2 ≤ 9223372036854775807 then ((some (y118 ++ (⟨#[80, 77]⟩ : ByteArray) : ByteArray)).bind fun y119 => (some y119)) else (none))) else (none))) else (none))) = some r := H
        have hy115 : t114 ++ (⟨#[58]⟩ : ByteArray) = y115 := Option.some.inj hy1150
        clear hy1150
        replace H := Option.bind_eq_some_iff.mp H
        obtain ⟨t116, A70, H⟩ := H
        replace H : (if y115.size + t116.size ≤ 9223372036854775807 then ((some (y115 ++ t116 : ByteArray)).bind fun y117 => (if y117.size + 1 ≤ 9223372036854775807 then ((some (y117 ++ (⟨#[32]⟩ : ByteArray) : ByteArray)).bind fun y118 => (if y118.size + 2 ≤ 9223372036854775807 then ((some (y118 ++ (⟨#[80, 77]⟩ : ByteArray) : ByteArray)).bind fun y119 => (some y119)) else (none))) else (none))) else (none)) = some r := H
        have A7 := Aside0.mk A70
        clear A70
        by_cases c8 : y115.size + t116.size ≤ 9223372036854775807
        · rw [if_pos c8] at H
          have c8b0 := eq_true c8
          have c8b1 : decide (y115.size + t116.size ≤ 9223372036854775807) = true := decide_eq_true c8
          try have c8b2 : (9223372036854775807 < y115.size + t116.size) = False := eq_false (Nat.not_lt.2 c8)
          replace H := Option.bind_eq_some_iff.mp H
          obtain ⟨y117, hy1170, H⟩ := H
          replace H : (if y117.size + 1 ≤ 9223372036854775807 then ((some (y117 ++ (⟨#[32]⟩ : ByteArray) : ByteArray)).bind fun y118 => (if y118.size + 2 ≤ 9223372036854775807 then ((some (y118 ++ (⟨#[80, 77]⟩ : ByteArray) : ByteArray)).bind fun y119 => (some y119)) else (none))) else (none)) = some r := H
          have hy117 : y115 ++ t116 = y117 := Option.some.inj hy1170
          clear hy1170
          by_cases c9 : y117.size + 1 ≤ 9223372036854775807
          · rw [if_pos c9] at H
            have c9b0 := eq_true c9
            have c9b1 : decide (y117.size + 1 ≤ 9223372036854775807) = true := decide_eq_true c9
            try have c9b2 : (9223372036854775807 < y117.size + 1) = False := eq_false (Nat.not_lt.2 c9)
            replace H := Option.bind_eq_some_iff.mp H
            obtain ⟨y118, hy1180, H⟩ := H
            replace H : (if y118.size + 2 ≤ 9223372036854775807 then ((some (y118 ++ (⟨#[80, 77]⟩ : ByteArray) : ByteArray)).bind fun y119 => (some y119)) else (none)) = some r := H
            have hy118 : y117 ++ (⟨#[32]⟩ : ByteArray) = y118 := Option.some.inj hy1180
            clear hy1180
            by_cases c10 : y118.size + 2 ≤ 9223372036854775807
            · rw [if_pos c10] at H
              have c10b0 := eq_true c10
              have c10b1 : decide (y118.size + 2 ≤ 9223372036854775807) = true := decide_eq_true c10
              try have c10b2 : (9223372036854775807 < y118.size + 2) = False := eq_false (Nat.not_lt.2 c10)
              replace H := Option.bind_eq_some_iff.mp H
              obtain ⟨y119, hy1190, H⟩ := H
              replace H : (some y119) = some r := H
              have hy119 : y118 ++ (⟨#[80, 77]⟩ : ByteArray) = y119 := Option.some.inj hy1190
              clear hy1190
              obtain rfl := Option.some.inj H
              go_enter Tryd.func49, Tryd.ntmps49
              try go_wp2_with (first | ((with_reducible refine gate_dst (N := 3) rfl ?_); refine box_event ?hg (N := 3) ?hd (cs := #[.int .i64 a1_0, .int .i64 a1_1, .int .i64 a1_2, .int .i64 a1_3, .int .i64 a1_4, .int .i64 a1_5, .int .i64 a1_6]) (t := 66) ?hr ?_; (case hd => rfl); (case hg => rfl); (case hr => first | (go_simp; done) | (go_simp; rfl)); intro gb109 hg w11 hbox hb; have n0_ := Aside0.mk (below_step (by repeat (first | (with_reducible first | exact HB.out | apply below_alloc | apply pw_below_drewN | apply below_drew1) | exact HB.out)) hb); have n1_ := Aside0.mk (hbox); have n2_ := Aside0.mk ((by rw [hg]; exact (below_size (by repeat (first | (with_reducible first | exact HB.out | apply below_alloc | apply pw_below_drewN | apply below_drew1) | exact HB.out))) : w.heap.size ≤ gb109)); have n3_ := Aside0.mk ((by rw [hg]; exact (below_size (by repeat (first | (with_reducible first | exact HB.out | apply below_alloc | apply pw_below_drewN | apply below_drew1) | exact HB.out))) : w.heap.size ≤ gb109)); clear HB; have HB := n0_; have BK109 := n1_; have GW109 := n2_; have GE109 := n3_; clear n0_ n1_ n2_ n3_; clear hb hbox hg; have hcz12_0 : w11.cell? ⟨gb109, 0, none⟩ = some (.int .i64 a1_0) := (blk_cell BK109.out 0).trans rfl; have hcz12_1 : w11.cell? ⟨gb109, 1, none⟩ = some (.int .i64 a1_1) := (blk_cell BK109.out 1).trans rfl; have hcz12_2 : w11.cell? ⟨gb109, 2, none⟩ = some (.int .i64 a1_2) := (blk_cell BK109.out 2).trans rfl; have hcz12_3 : w11.cell? ⟨gb109, 3, none⟩ = some (.int .i64 a1_3) := (blk_cell BK109.out 3).trans rfl; have hcz12_4 : w11.cell? ⟨gb109, 4, none⟩ = some (.int .i64 a1_4) := (blk_cell BK109.out 4).trans rfl; have hcz12_5 : w11.cell? ⟨gb109, 5, none⟩ = some (.int .i64 a1_5) := (blk_cell BK109.out 5).trans rfl; have hcz12_6 : w11.cell? ⟨gb109, 6, none⟩ = some (.int .i64 a1_6) := (blk_cell BK109.out 6).trans rfl; have hfz12_0 := blk_frozen BK109.out 0; have hfz12_1 := blk_frozen BK109.out 1; have hfz12_2 := blk_frozen BK109.out 2; have hfz12_3 := blk_frozen BK109.out 3; have hfz12_4 := blk_frozen BK109.out 4; have hfz12_5 := blk_frozen BK109.out 5; have hfz12_6 := blk_frozen BK109.out 6))
              have n0_ := Aside0.mk (blk_drew BK109.out)
              have n1_ := Aside0.mk (below_drew1 HB.out)
              clear BK109
              clear HB
              have BK109 := n0_
              have HB := n1_
              clear n0_ n1_
              refine start_ (n := 15) (S := fun w' => w'.cell? ⟨gb109, 0, none⟩ = some (.int .i64 a1_0) ∧ w'.cell? ⟨gb109, 1, none⟩ = some (.int .i64 a1_1) ∧ w'.cell? ⟨gb109, 2, none⟩ = some (.int .i64 a1_2) ∧ w'.cell? ⟨gb109, 3, none⟩ = some (.int .i64 a1_3) ∧ w'.cell? ⟨gb109, 4, none⟩ = some (.int .i64 a1_4) ∧ w'.cell? ⟨gb109, 5, none⟩ = some (.int .i64 a1_5) ∧ w'.cell? ⟨gb109, 6, none⟩ = some (.int .i64 a1_6)) (ds := []) #[false, false, false, false, false, false, false, false, false, false, false, false, false, false, false] (by kernel_rfl) rfl rfl ⟨(blk_cell BK109.out 0).trans rfl, (blk_cell BK109.out 1).trans rfl, (blk_cell BK109.out 2).trans rfl, (blk_cell BK109.out 3).trans rfl, (blk_cell BK109.out 4).trans rfl, (blk_cell BK109.out 5).trans rfl, (blk_cell BK109.out 6).trans rfl⟩ (fun hHeld => ?_); refine with_tabW moment_clock.tab6 moment_clock.bits6 (fun HT_ HW_ => ?_)
              generalize w11.drew = w13 at BK109 HB hHeld ⊢
              refine pure_ (i := 0) (N := some 19) (v := ?_) (a' := ?_) #[true, false, false, false, false, false, false, false, false, false, false, false, false, false, false] rfl rfl (any_of HT_.out (by kernel_rfl)) (fun _ _ _ h => h) (Or.inl ⟨by rfl, ?_⟩) ?_ ?_
              rotate_left
              · intro w'
                go_simp
                with_reducible rfl
              rotate_left
              · simp only [Act.put, List.setIfInBounds_toArray, List.set_cons_zero, List.set_cons_succ, i64_w, i32_w]
                rfl
              refine pure_ (i := 7) (N := some 26) (v := ?_) (a' := ?_) #[true, false, false, false, false, false, false, true, false, false, false, false, false, false, false] rfl rfl (any_of HT_.out (by kernel_rfl)) (fun _ _ _ h => h) (Or.inl ⟨by rfl, ?_⟩) ?_ ?_
              rotate_left
              · intro w'
                go_simp
                with_reducible rfl
              rotate_left
              · simp only [Act.put, List.setIfInBounds_toArray, List.set_cons_zero, List.set_cons_succ, i64_w, i32_w]
                rfl
              refine pure_ (i := 12) (N := some 31) (v := ?_) (a' := ?_) #[true, false, false, false, false, false, false, true, false, false, false, false, true, false, false] rfl rfl (any_of HT_.out (by kernel_rfl)) (fun _ _ _ h => h) (Or.inl ⟨by rfl, ?_⟩) ?_ ?_
              rotate_left
              · intro w'
                go_simp
                with_reducible rfl
              rotate_left
              · simp only [Act.put, List.setIfInBounds_toArray, List.set_cons_zero, List.set_cons_succ, i64_w, i32_w]
                rfl
              refine take_ (i := 1) (N := some 20) (v := ?_) (a' := ?_) #[true, true, false, false, false, false, false, true, false, false, false, false, true, false, false] rfl rfl (take_ofW HT_.out HW_.out (by kernel_rfl)) (fun _ _ _ h => h) (Or.inl ⟨by rfl, ?_⟩) hHeld ?_ ?_
              rotate_left
              · rintro w' ⟨s0, s1, s2, s3, s4, s5, s6⟩
                go_simp
                with_reducible rfl
              rotate_left
              · simp only [Act.put, List.setIfInBounds_toArray, List.set_cons_zero, List.set_cons_succ, i64_w, i32_w]
                rfl
              refine pure_ (i := 2) (N := some 21) (v := ?_) (a' := ?_) #[true, true, true, false, false, false, false, true, false, false, false, false, true, false, false] rfl rfl (any_of HT_.out (by kernel_rfl)) (fun _ _ _ h => h) (Or.inl ⟨by rfl, ?_⟩) ?_ ?_
              rotate_left
              · intro w'
                go_simp
                with_reducible rfl
              rotate_left
              · simp only [Act.put, List.setIfInBounds_toArray, List.set_cons_zero, List.set_cons_succ, i64_w, i32_w]
                rfl
              refine pure_ (i := 3) (N := some 22) (v := ?_) (a' := ?_) #[true, true, true, true, false, false, false, true, false, false, false, false, true, false, false] rfl rfl (any_of HT_.out (by kernel_rfl)) (fun _ _ _ h => h) (Or.inl ⟨by rfl, ?_⟩) ?_ ?_
              rotate_left
              · intro w'
                go_simp
                with_reducible rfl
              rotate_left
              · simp only [Act.put, List.setIfInBounds_toArray, List.set_cons_zero, List.set_cons_succ, i64_w, i32_w]
                rfl
              refine pure_ (i := 4) (N := some 23) (v := ?_) (a' := ?_) #[true, true, true, true, true, false, false, true, false, false, false, false, true, false, false] rfl rfl (any_of HT_.out (by kernel_rfl)) (fun _ _ _ h => h) (Or.inl ⟨by rfl, ?_⟩) ?_ ?_
              rotate_left
              · intro w'
                go_simp
                with_reducible rfl
              rotate_left
              · simp only [Act.put, List.setIfInBounds_toArray, List.set_cons_zero, List.set_cons_succ, i64_w, i32_w]
                rfl
              refine take_ (i := 8) (N := some 27) (v := ?_) (a' := ?_) #[true, true, true, true, true, false, false, true, true, false, false, false, true, false, false] rfl rfl (take_ofW HT_.out HW_.out (by kernel_rfl)) (fun _ _ _ h => h) (Or.inl ⟨by rfl, ?_⟩) hHeld ?_ ?_
              rotate_left
              · rintro w' ⟨s0, s1, s2, s3, s4, s5, s6⟩
                go_simp
                with_reducible rfl
              rotate_left
              · simp only [Act.put, List.setIfInBounds_toArray, List.set_cons_zero, List.set_cons_succ, i64_w, i32_w]
                rfl
              refine one_ (i := 5) (N := some 24) #[true, true, true, true, true, true, false, true, true, false, false, false, true, false, false] rfl rfl (one_of HT_.out (by kernel_rfl)) (by decide) (fun K hK => ?_)
              refine goes_ Tryd.func68 (by kernel_rfl) rfl #[.int .i64 (wrap64 ((Int.tmod (wrap64 (a1_3 + 11)) 12) + 1)), .int .i64 1] (by rfl) rfl rfl (by (try simp only [List.map_toArray, List.map_cons, List.map_nil]); first | done | rfl | (simp only [List.length_drop, List.length_take]; rfl)) ?_
              with_reducible refine (moment_pad.calls (wrap64 ((Int.tmod (wrap64 (a1_3 + 11)) 12) + 1)) 1 t114 _ A5.out).mono ?_
              rintro e w14 ⟨rfl, hb⟩
              refine ⟨_, rfl, ?_⟩
              have n0_ := Aside0.mk (blk_below (g := gb109) (o := .cells #[.int .i64 a1_0, .int .i64 a1_1, .int .i64 a1_2, .int .i64 a1_3, .int .i64 a1_4, .int .i64 a1_5, .int .i64 a1_6] 66 (0, 0)) (by (with_reducible repeat (first | refine blk_drewN ?_ _ | refine blk_drew ?_ | refine blk_alloc ?_ _)); exact BK109.out) hb)
              have n1_ := Aside0.mk (below_step (by repeat (first | (with_reducible first | exact HB.out | apply below_alloc | apply pw_below_drewN | apply below_drew1 | refine below_set ?_ GE109.out) | exact HB.out)) hb)
              clear BK109
              clear HB
              have BK109 := n0_
              have HB := n1_
              clear n0_ n1_
              (try clear hb)
              (try clear hb2)
              (try clear hk)
              (try clear hi)
              refine hK.out _ _ ⟨(blk_cell BK109.out 0).trans rfl, (blk_cell BK109.out 1).trans rfl, (blk_cell BK109.out 2).trans rfl, (blk_cell BK109.out 3).trans rfl, (blk_cell BK109.out 4).trans rfl, (blk_cell BK109.out 5).trans rfl, (blk_cell BK109.out 6).trans rfl⟩ (fun hHeld => ?_)
              clear hK K
              refine norm_ (a' := ?_) ?_ ?_
              rotate_left
              · show Act.put _ (some 24) _ = _
                simp only [Act.put, List.setIfInBounds_toArray, List.set_cons_zero, List.set_cons_succ, i64_w, i32_w]
                rfl
              refine pure_ (i := 6) (N := some 25) (v := ?_) (a' := ?_) #[true, true, true, true, true, true, true, true, true, false, false, false, true, false, false] rfl rfl (any_of HT_.out (by kernel_rfl)) (fun _ _ _ h => h) (Or.inl ⟨by rfl, ?_⟩) ?_ ?_
              rotate_left
              · intro w'
                go_simp
                with_reducible rfl
              rotate_left
              · simp only [Act.put, List.setIfInBounds_toArray, List.set_cons_zero, List.set_cons_succ, i64_w, i32_w]
                rfl
              refine one_ (i := 9) (N := some 28) #[true, true, true, true, true, true, true, true, true, true, false, false, true, false, false] rfl rfl (one_of HT_.out (by kernel_rfl)) (by decide) (fun K hK => ?_)
              refine goes_ Tryd.func68 (by kernel_rfl) rfl #[.int .i64 a1_4, .int .i64 2] (by rfl) rfl rfl (by (try simp only [List.map_toArray, List.map_cons, List.map_nil]); first | done | rfl | (simp only [List.length_drop, List.length_take]; rfl)) ?_
              with_reducible refine (moment_pad.calls a1_4 2 t116 _ A7.out).mono ?_
              rintro e w15 ⟨rfl, hb⟩
              refine ⟨_, rfl, ?_⟩
              have n0_ := Aside0.mk (blk_below (g := gb109) (o := .cells #[.int .i64 a1_0, .int .i64 a1_1, .int .i64 a1_2, .int .i64 a1_3, .int .i64 a1_4, .int .i64 a1_5, .int .i64 a1_6] 66 (0, 0)) (by (with_reducible repeat (first | refine blk_drewN ?_ _ | refine blk_drew ?_ | refine blk_alloc ?_ _)); exact BK109.out) hb)
              have n1_ := Aside0.mk (below_step (by repeat (first | (with_reducible first | exact HB.out | apply below_alloc | apply pw_below_drewN | apply below_drew1 | refine below_set ?_ GE109.out) | exact HB.out)) hb)
              clear BK109
              clear HB
              have BK109 := n0_
              have HB := n1_
              clear n0_ n1_
              (try clear hb)
              (try clear hb2)
              (try clear hk)
              (try clear hi)
              refine hK.out _ _ ⟨(blk_cell BK109.out 0).trans rfl, (blk_cell BK109.out 1).trans rfl, (blk_cell BK109.out 2).trans rfl, (blk_cell BK109.out 3).trans rfl, (blk_cell BK109.out 4).trans rfl, (blk_cell BK109.out 5).trans rfl, (blk_cell BK109.out 6).trans rfl⟩ (fun hHeld => ?_)
              clear hK K
              refine norm_ (a' := ?_) ?_ ?_
              rotate_left
              · show Act.put _ (some 28) _ = _
                simp only [Act.put, List.setIfInBounds_toArray, List.set_cons_zero, List.set_cons_succ, i64_w, i32_w]
                rfl
              refine pure_ (i := 10) (N := some 29) (v := ?_) (a' := ?_) #[true, true, true, true, true, true, true, true, true, true, true, false, true, false, false] rfl rfl (any_of HT_.out (by kernel_rfl)) (fun _ _ _ h => h) (Or.inl ⟨by rfl, ?_⟩) ?_ ?_
              rotate_left
              · intro w'
                go_simp
                with_reducible rfl
              rotate_left
              · simp only [Act.put, List.setIfInBounds_toArray, List.set_cons_zero, List.set_cons_succ, i64_w, i32_w]
                rfl
              refine pure_ (i := 11) (N := some 30) (v := ?_) (a' := ?_) #[true, true, true, true, true, true, true, true, true, true, true, true, true, false, false] rfl rfl (any_of HT_.out (by kernel_rfl)) (fun _ _ _ h => h) (Or.inl ⟨by rfl, ?_⟩) ?_ ?_
              rotate_left
              · intro w'
                go_simp
                with_reducible rfl
              rotate_left
              · simp only [Act.put, List.setIfInBounds_toArray, List.set_cons_zero, List.set_cons_succ, i64_w, i32_w]
                rfl
              refine pure_ (i := 13) (N := some 32) (v := ?_) (a' := ?_) #[true, true, true, true, true, true, true, true, true, true, true, true, true, true, false] rfl rfl (any_of HT_.out (by kernel_rfl)) (fun _ _ _ h => h) (Or.inl ⟨by rfl, ?_⟩) ?_ ?_
              rotate_left
              · intro w'
                go_simp
                with_reducible rfl
              rotate_left
              · simp only [Act.put, List.setIfInBounds_toArray, List.set_cons_zero, List.set_cons_succ, i64_w, i32_w]
                rfl
              refine pure_ (i := 14) (N := some 4) (v := ?_) (a' := ?_) #[true, true, true, true, true, true, true, true, true, true, true, true, true, true, true] rfl rfl (any_of HT_.out (by kernel_rfl)) (fun _ _ _ h => h) (Or.inl ⟨by rfl, ?_⟩) ?_ ?_
              rotate_left
              · intro w'
                go_simp
                with_reducible rfl
              rotate_left
              · simp only [Act.put, List.setIfInBounds_toArray, List.set_cons_zero, List.set_cons_succ, i64_w, i32_w]
                rfl
              refine done_ (done_of HT_.out (by kernel_rfl)) ?_
              try go_wp2
              go_ret
              exact ⟨by first | rfl | (simp [errW_none, errW_some] <;> rfl) | (simp [*, errW_none, errW_some] <;> rfl), by repeat (first | (with_reducible first | exact HB.out | apply below_alloc | apply pw_below_drewN | apply below_drew1 | refine below_set ?_ GE109.out) | exact HB.out)⟩
            · rw [if_neg c10] at H
              exact absurd H (by simp)
          · rw [if_neg c9] at H
            exact absurd H (by simp)
        · rw [if_neg c8] at H
          exact absurd H (by simp)
      · rw [if_neg c6] at H
        exact absurd H (by simp)
    · rw [if_neg c4] at H
      have c4b0 : decide (12 ≤ a1_3) = false := decide_eq_false c4
      clear c4
      replace H := Option.bind_eq_some_iff.mp H
      obtain ⟨t120, A160, H⟩ := H
      replace H : (if t120.size + 1 ≤ 9223372036854775807 then ((some (t120 ++ (⟨#[58]⟩ : ByteArray) : ByteArray)).bind fun y121 => ((moment_pad.f a1_4 2).bind fun t122 => (if y121.size + t122.size ≤ 9223372036854775807 then ((some (y121 ++ t122 : ByteArray)).bind fun y123 => (if y123.size + 1 ≤ 9223372036854775807 then ((some (y123 ++ (⟨#[32]⟩ : ByteArray) : ByteArray)).bind fun y124 => (if y124.size + 2 ≤ 9223372036854775807 then ((some (y124 ++ (⟨#[65, 77]⟩ : ByteArray) : ByteArray)).bind fun y125 => (some y125)) else (none))) else (none))) else (none)))) else (none)) = some r := H
      have A16 := Aside0.mk A160
      clear A160
      by_cases c17 : t120.size + 1 ≤ 9223372036854775807
      · rw [if_pos c17] at H
        have c17b0 := eq_true c17
        have c17b1 : decide (t120.size + 1 ≤ 9223372036854775807) = true := decide_eq_true c17
        try have c17b2 : (9223372036854775807 < t120.size + 1) = False := eq_false (Nat.not_lt.2 c17)
        replace H := Option.bind_eq_some_iff.mp H
        obtain ⟨y121, hy1210, H⟩ := H
        replace H : ((moment_pad.f a1_4 2).bind fun t122 => (if y121.size + t122.size ≤ 9223372036854775807 then ((some (y121 ++ t122 : ByteArray)).bind fun y123 => (if y123.size + 1 ≤ 9223372036854775807 then ((some (y123 ++ (⟨#[32]⟩ : ByteArray) : ByteArray)).bind fun y124 => (if y124.size + 2 ≤ 9223372036854775807 then ((some (y124 ++ (⟨#[65, 77]⟩ : ByteArray) : ByteArray)).bind fun y125 => (some y125)) else (none))) else (none))) else (none))) = some r := H
        have hy121 : t120 ++ (⟨#[58]⟩ : ByteArray) = y121 := Option.some.inj hy1210
        clear hy1210
        replace H := Option.bind_eq_some_iff.mp H
        obtain ⟨t122, A180, H⟩ := H
        replace H : (if y121.size + t122.size ≤ 9223372036854775807 then ((some (y121 ++ t122 : ByteArray)).bind fun y123 => (if y123.size + 1 ≤ 9223372036854775807 then ((some (y123 ++ (⟨#[32]⟩ : ByteArray) : ByteArray)).bind fun y124 => (if y124.size + 2 ≤ 9223372036854775807 then ((some (y124 ++ (⟨#[65, 77]⟩ : ByteArray) : ByteArray)).bind fun y125 => (some y125)) else (none))) else (none))) else (none)) = some r := H
        have A18 := Aside0.mk A180
        clear A180
        by_cases c19 : y121.size + t122.size ≤ 9223372036854775807
        · rw [if_pos c19] at H
          have c19b0 := eq_true c19
          have c19b1 : decide (y121.size + t122.size ≤ 9223372036854775807) = true := decide_eq_true c19
          try have c19b2 : (9223372036854775807 < y121.size + t122.size) = False := eq_false (Nat.not_lt.2 c19)
          replace H := Option.bind_eq_some_iff.mp H
          obtain ⟨y123, hy1230, H⟩ := H
          replace H : (if y123.size + 1 ≤ 9223372036854775807 then ((some (y123 ++ (⟨#[32]⟩ : ByteArray) : ByteArray)).bind fun y124 => (if y124.size + 2 ≤ 9223372036854775807 then ((some (y124 ++ (⟨#[65, 77]⟩ : ByteArray) : ByteArray)).bind fun y125 => (some y125)) else (none))) else (none)) = some r := H
          have hy123 : y121 ++ t122 = y123 := Option.some.inj hy1230
          clear hy1230
          by_cases c20 : y123.size + 1 ≤ 9223372036854775807
          · rw [if_pos c20] at H
            have c20b0 := eq_true c20
            have c20b1 : decide (y123.size + 1 ≤ 9223372036854775807) = true := decide_eq_true c20
            try have c20b2 : (9223372036854775807 < y123.size + 1) = False := eq_false (Nat.not_lt.2 c20)
            replace H := Option.bind_eq_some_iff.mp H
            obtain ⟨y124, hy1240, H⟩ := H
            replace H : (if y124.size + 2 ≤ 9223372036854775807 then ((some (y124 ++ (⟨#[65, 77]⟩ : ByteArray) : ByteArray)).bind fun y125 => (some y125)) else (none)) = some r := H
            have hy124 : y123 ++ (⟨#[32]⟩ : ByteArray) = y124 := Option.some.inj hy1240
            clear hy1240
            by_cases c21 : y124.size + 2 ≤ 9223372036854775807
            · rw [if_pos c21] at H
              have c21b0 := eq_true c21
              have c21b1 : decide (y124.size + 2 ≤ 9223372036854775807) = true := decide_eq_true c21
              try have c21b2 : (9223372036854775807 < y124.size + 2) = False := eq_false (Nat.not_lt.2 c21)
              replace H := Option.bind_eq_some_iff.mp H
              obtain ⟨y125, hy1250, H⟩ := H
              replace H : (some y125) = some r := H
              have hy125 : y124 ++ (⟨#[65, 77]⟩ : ByteArray) = y125 := Option.some.inj hy1250
              clear hy1250
              obtain rfl := Option.some.inj H
              go_enter Tryd.func49, Tryd.ntmps49
              try go_wp2_with (first | ((with_reducible refine gate_dst (N := 3) rfl ?_); refine box_event ?hg (N := 3) ?hd (cs := #[.int .i64 a1_0, .int .i64 a1_1, .int .i64 a1_2, .int .i64 a1_3, .int .i64 a1_4, .int .i64 a1_5, .int .i64 a1_6]) (t := 66) ?hr ?_; (case hd => rfl); (case hg => rfl); (case hr => first | (go_simp; done) | (go_simp; rfl)); intro gb109 hg w22 hbox hb; have n0_ := Aside0.mk (below_step (by repeat (first | (with_reducible first | exact HB.out | apply below_alloc | apply pw_below_drewN | apply below_drew1) | exact HB.out)) hb); have n1_ := Aside0.mk (hbox); have n2_ := Aside0.mk ((by rw [hg]; exact (below_size (by repeat (first | (with_reducible first | exact HB.out | apply below_alloc | apply pw_below_drewN | apply below_drew1) | exact HB.out))) : w.heap.size ≤ gb109)); have n3_ := Aside0.mk ((by rw [hg]; exact (below_size (by repeat (first | (with_reducible first | exact HB.out | apply below_alloc | apply pw_below_drewN | apply below_drew1) | exact HB.out))) : w.heap.size ≤ gb109)); clear HB; have HB := n0_; have BK109 := n1_; have GW109 := n2_; have GE109 := n3_; clear n0_ n1_ n2_ n3_; clear hb hbox hg; have hcz23_0 : w22.cell? ⟨gb109, 0, none⟩ = some (.int .i64 a1_0) := (blk_cell BK109.out 0).trans rfl; have hcz23_1 : w22.cell? ⟨gb109, 1, none⟩ = some (.int .i64 a1_1) := (blk_cell BK109.out 1).trans rfl; have hcz23_2 : w22.cell? ⟨gb109, 2, none⟩ = some (.int .i64 a1_2) := (blk_cell BK109.out 2).trans rfl; have hcz23_3 : w22.cell? ⟨gb109, 3, none⟩ = some (.int .i64 a1_3) := (blk_cell BK109.out 3).trans rfl; have hcz23_4 : w22.cell? ⟨gb109, 4, none⟩ = some (.int .i64 a1_4) := (blk_cell BK109.out 4).trans rfl; have hcz23_5 : w22.cell? ⟨gb109, 5, none⟩ = some (.int .i64 a1_5) := (blk_cell BK109.out 5).trans rfl; have hcz23_6 : w22.cell? ⟨gb109, 6, none⟩ = some (.int .i64 a1_6) := (blk_cell BK109.out 6).trans rfl; have hfz23_0 := blk_frozen BK109.out 0; have hfz23_1 := blk_frozen BK109.out 1; have hfz23_2 := blk_frozen BK109.out 2; have hfz23_3 := blk_frozen BK109.out 3; have hfz23_4 := blk_frozen BK109.out 4; have hfz23_5 := blk_frozen BK109.out 5; have hfz23_6 := blk_frozen BK109.out 6))
              have n0_ := Aside0.mk (blk_drew BK109.out)
              have n1_ := Aside0.mk (below_drew1 HB.out)
              clear BK109
              clear HB
              have BK109 := n0_
              have HB := n1_
              clear n0_ n1_
              refine start_ (n := 15) (S := fun w' => w'.cell? ⟨gb109, 0, none⟩ = some (.int .i64 a1_0) ∧ w'.cell? ⟨gb109, 1, none⟩ = some (.int .i64 a1_1) ∧ w'.cell? ⟨gb109, 2, none⟩ = some (.int .i64 a1_2) ∧ w'.cell? ⟨gb109, 3, none⟩ = some (.int .i64 a1_3) ∧ w'.cell? ⟨gb109, 4, none⟩ = some (.int .i64 a1_4) ∧ w'.cell? ⟨gb109, 5, none⟩ = some (.int .i64 a1_5) ∧ w'.cell? ⟨gb109, 6, none⟩ = some (.int .i64 a1_6)) (ds := []) #[false, false, false, false, false, false, false, false, false, false, false, false, false, false, false] (by kernel_rfl) rfl rfl ⟨(blk_cell BK109.out 0).trans rfl, (blk_cell BK109.out 1).trans rfl, (blk_cell BK109.out 2).trans rfl, (blk_cell BK109.out 3).trans rfl, (blk_cell BK109.out 4).trans rfl, (blk_cell BK109.out 5).trans rfl, (blk_cell BK109.out 6).trans rfl⟩ (fun hHeld => ?_); refine with_tabW moment_clock.tab6 moment_clock.bits6 (fun HT_ HW_ => ?_)
              generalize w22.drew = w24 at BK109 HB hHeld ⊢
              refine pure_ (i := 0) (N := some 19) (v := ?_) (a' := ?_) #[true, false, false, false, false, false, false, false, false, false, false, false, false, false, false] rfl rfl (any_of HT_.out (by kernel_rfl)) (fun _ _ _ h => h) (Or.inl ⟨by rfl, ?_⟩) ?_ ?_
              rotate_left
              · intro w'
                go_simp
                with_reducible rfl
              rotate_left
              · simp only [Act.put, List.setIfInBounds_toArray, List.set_cons_zero, List.set_cons_succ, i64_w, i32_w]
                rfl
              refine pure_ (i := 7) (N := some 26) (v := ?_) (a' := ?_) #[true, false, false, false, false, false, false, true, false, false, false, false, false, false, false] rfl rfl (any_of HT_.out (by kernel_rfl)) (fun _ _ _ h => h) (Or.inl ⟨by rfl, ?_⟩) ?_ ?_
              rotate_left
              · intro w'
                go_simp
                with_reducible rfl
              rotate_left
              · simp only [Act.put, List.setIfInBounds_toArray, List.set_cons_zero, List.set_cons_succ, i64_w, i32_w]
                rfl
              refine pure_ (i := 12) (N := some 31) (v := ?_) (a' := ?_) #[true, false, false, false, false, false, false, true, false, false, false, false, true, false, false] rfl rfl (any_of HT_.out (by kernel_rfl)) (fun _ _ _ h => h) (Or.inl ⟨by rfl, ?_⟩) ?_ ?_
              rotate_left
              · intro w'
                go_simp
                with_reducible rfl
              rotate_left
              · simp only [Act.put, List.setIfInBounds_toArray, List.set_cons_zero, List.set_cons_succ, i64_w, i32_w]
                rfl
              refine take_ (i := 1) (N := some 20) (v := ?_) (a' := ?_) #[true, true, false, false, false, false, false, true, false, false, false, false, true, false, false] rfl rfl (take_ofW HT_.out HW_.out (by kernel_rfl)) (fun _ _ _ h => h) (Or.inl ⟨by rfl, ?_⟩) hHeld ?_ ?_
              rotate_left
              · rintro w' ⟨s0, s1, s2, s3, s4, s5, s6⟩
                go_simp
                with_reducible rfl
              rotate_left
              · simp only [Act.put, List.setIfInBounds_toArray, List.set_cons_zero, List.set_cons_succ, i64_w, i32_w]
                rfl
              refine pure_ (i := 2) (N := some 21) (v := ?_) (a' := ?_) #[true, true, true, false, false, false, false, true, false, false, false, false, true, false, false] rfl rfl (any_of HT_.out (by kernel_rfl)) (fun _ _ _ h => h) (Or.inl ⟨by rfl, ?_⟩) ?_ ?_
              rotate_left
              · intro w'
                go_simp
                with_reducible rfl
              rotate_left
              · simp only [Act.put, List.setIfInBounds_toArray, List.set_cons_zero, List.set_cons_succ, i64_w, i32_w]
                rfl
              refine pure_ (i := 3) (N := some 22) (v := ?_) (a' := ?_) #[true, true, true, true, false, false, false, true, false, false, false, false, true, false, false] rfl rfl (any_of HT_.out (by kernel_rfl)) (fun _ _ _ h => h) (Or.inl ⟨by rfl, ?_⟩) ?_ ?_
              rotate_left
              · intro w'
                go_simp
                with_reducible rfl
              rotate_left
              · simp only [Act.put, List.setIfInBounds_toArray, List.set_cons_zero, List.set_cons_succ, i64_w, i32_w]
                rfl
              refine pure_ (i := 4) (N := some 23) (v := ?_) (a' := ?_) #[true, true, true, true, true, false, false, true, false, false, false, false, true, false, false] rfl rfl (any_of HT_.out (by kernel_rfl)) (fun _ _ _ h => h) (Or.inl ⟨by rfl, ?_⟩) ?_ ?_
              rotate_left
              · intro w'
                go_simp
                with_reducible rfl
              rotate_left
              · simp only [Act.put, List.setIfInBounds_toArray, List.set_cons_zero, List.set_cons_succ, i64_w, i32_w]
                rfl
              refine take_ (i := 8) (N := some 27) (v := ?_) (a' := ?_) #[true, true, true, true, true, false, false, true, true, false, false, false, true, false, false] rfl rfl (take_ofW HT_.out HW_.out (by kernel_rfl)) (fun _ _ _ h => h) (Or.inl ⟨by rfl, ?_⟩) hHeld ?_ ?_
              rotate_left
              · rintro w' ⟨s0, s1, s2, s3, s4, s5, s6⟩
                go_simp
                with_reducible rfl
              rotate_left
              · simp only [Act.put, List.setIfInBounds_toArray, List.set_cons_zero, List.set_cons_succ, i64_w, i32_w]
                rfl
              refine one_ (i := 5) (N := some 24) #[true, true, true, true, true, true, false, true, true, false, false, false, true, false, false] rfl rfl (one_of HT_.out (by kernel_rfl)) (by decide) (fun K hK => ?_)
              refine goes_ Tryd.func68 (by kernel_rfl) rfl #[.int .i64 (wrap64 ((Int.tmod (wrap64 (a1_3 + 11)) 12) + 1)), .int .i64 1] (by rfl) rfl rfl (by (try simp only [List.map_toArray, List.map_cons, List.map_nil]); first | done | rfl | (simp only [List.length_drop, List.length_take]; rfl)) ?_
              with_reducible refine (moment_pad.calls (wrap64 ((Int.tmod (wrap64 (a1_3 + 11)) 12) + 1)) 1 t120 _ A16.out).mono ?_
              rintro e w25 ⟨rfl, hb⟩
              refine ⟨_, rfl, ?_⟩
              have n0_ := Aside0.mk (blk_below (g := gb109) (o := .cells #[.int .i64 a1_0, .int .i64 a1_1, .int .i64 a1_2, .int .i64 a1_3, .int .i64 a1_4, .int .i64 a1_5, .int .i64 a1_6] 66 (0, 0)) (by (with_reducible repeat (first | refine blk_drewN ?_ _ | refine blk_drew ?_ | refine blk_alloc ?_ _)); exact BK109.out) hb)
              have n1_ := Aside0.mk (below_step (by repeat (first | (with_reducible first | exact HB.out | apply below_alloc | apply pw_below_drewN | apply below_drew1 | refine below_set ?_ GE109.out) | exact HB.out)) hb)
              clear BK109
              clear HB
              have BK109 := n0_
              have HB := n1_
              clear n0_ n1_
              (try clear hb)
              (try clear hb2)
              (try clear hk)
              (try clear hi)
              refine hK.out _ _ ⟨(blk_cell BK109.out 0).trans rfl, (blk_cell BK109.out 1).trans rfl, (blk_cell BK109.out 2).trans rfl, (blk_cell BK109.out 3).trans rfl, (blk_cell BK109.out 4).trans rfl, (blk_cell BK109.out 5).trans rfl, (blk_cell BK109.out 6).trans rfl⟩ (fun hHeld => ?_)
              clear hK K
              refine norm_ (a' := ?_) ?_ ?_
              rotate_left
              · show Act.put _ (some 24) _ = _
                simp only [Act.put, List.setIfInBounds_toArray, List.set_cons_zero, List.set_cons_succ, i64_w, i32_w]
                rfl
              refine pure_ (i := 6) (N := some 25) (v := ?_) (a' := ?_) #[true, true, true, true, true, true, true, true, true, false, false, false, true, false, false] rfl rfl (any_of HT_.out (by kernel_rfl)) (fun _ _ _ h => h) (Or.inl ⟨by rfl, ?_⟩) ?_ ?_
              rotate_left
              · intro w'
                go_simp
                with_reducible rfl
              rotate_left
              · simp only [Act.put, List.setIfInBounds_toArray, List.set_cons_zero, List.set_cons_succ, i64_w, i32_w]
                rfl
              refine one_ (i := 9) (N := some 28) #[true, true, true, true, true, true, true, true, true, true, false, false, true, false, false] rfl rfl (one_of HT_.out (by kernel_rfl)) (by decide) (fun K hK => ?_)
              refine goes_ Tryd.func68 (by kernel_rfl) rfl #[.int .i64 a1_4, .int .i64 2] (by rfl) rfl rfl (by (try simp only [List.map_toArray, List.map_cons, List.map_nil]); first | done | rfl | (simp only [List.length_drop, List.length_take]; rfl)) ?_
              with_reducible refine (moment_pad.calls a1_4 2 t122 _ A18.out).mono ?_
              rintro e w26 ⟨rfl, hb⟩
              refine ⟨_, rfl, ?_⟩
              have n0_ := Aside0.mk (blk_below (g := gb109) (o := .cells #[.int .i64 a1_0, .int .i64 a1_1, .int .i64 a1_2, .int .i64 a1_3, .int .i64 a1_4, .int .i64 a1_5, .int .i64 a1_6] 66 (0, 0)) (by (with_reducible repeat (first | refine blk_drewN ?_ _ | refine blk_drew ?_ | refine blk_alloc ?_ _)); exact BK109.out) hb)
              have n1_ := Aside0.mk (below_step (by repeat (first | (with_reducible first | exact HB.out | apply below_alloc | apply pw_below_drewN | apply below_drew1 | refine below_set ?_ GE109.out) | exact HB.out)) hb)
              clear BK109
              clear HB
              have BK109 := n0_
              have HB := n1_
              clear n0_ n1_
              (try clear hb)
              (try clear hb2)
              (try clear hk)
              (try clear hi)
              refine hK.out _ _ ⟨(blk_cell BK109.out 0).trans rfl, (blk_cell BK109.out 1).trans rfl, (blk_cell BK109.out 2).trans rfl, (blk_cell BK109.out 3).trans rfl, (blk_cell BK109.out 4).trans rfl, (blk_cell BK109.out 5).trans rfl, (blk_cell BK109.out 6).trans rfl⟩ (fun hHeld => ?_)
              clear hK K
              refine norm_ (a' := ?_) ?_ ?_
              rotate_left
              · show Act.put _ (some 28) _ = _
                simp only [Act.put, List.setIfInBounds_toArray, List.set_cons_zero, List.set_cons_succ, i64_w, i32_w]
                rfl
              refine pure_ (i := 10) (N := some 29) (v := ?_) (a' := ?_) #[true, true, true, true, true, true, true, true, true, true, true, false, true, false, false] rfl rfl (any_of HT_.out (by kernel_rfl)) (fun _ _ _ h => h) (Or.inl ⟨by rfl, ?_⟩) ?_ ?_
              rotate_left
              · intro w'
                go_simp
                with_reducible rfl
              rotate_left
              · simp only [Act.put, List.setIfInBounds_toArray, List.set_cons_zero, List.set_cons_succ, i64_w, i32_w]
                rfl
              refine pure_ (i := 11) (N := some 30) (v := ?_) (a' := ?_) #[true, true, true, true, true, true, true, true, true, true, true, true, true, false, false] rfl rfl (any_of HT_.out (by kernel_rfl)) (fun _ _ _ h => h) (Or.inl ⟨by rfl, ?_⟩) ?_ ?_
              rotate_left
              · intro w'
                go_simp
                with_reducible rfl
              rotate_left
              · simp only [Act.put, List.setIfInBounds_toArray, List.set_cons_zero, List.set_cons_succ, i64_w, i32_w]
                rfl
              refine pure_ (i := 13) (N := some 32) (v := ?_) (a' := ?_) #[true, true, true, true, true, true, true, true, true, true, true, true, true, true, false] rfl rfl (any_of HT_.out (by kernel_rfl)) (fun _ _ _ h => h) (Or.inl ⟨by rfl, ?_⟩) ?_ ?_
              rotate_left
              · intro w'
                go_simp
                with_reducible rfl
              rotate_left
              · simp only [Act.put, List.setIfInBounds_toArray, List.set_cons_zero, List.set_cons_succ, i64_w, i32_w]
                rfl
              refine pure_ (i := 14) (N := some 4) (v := ?_) (a' := ?_) #[true, true, true, true, true, true, true, true, true, true, true, true, true, true, true] rfl rfl (any_of HT_.out (by kernel_rfl)) (fun _ _ _ h => h) (Or.inl ⟨by rfl, ?_⟩) ?_ ?_
              rotate_left
              · intro w'
                go_simp
                with_reducible rfl
              rotate_left
              · simp only [Act.put, List.setIfInBounds_toArray, List.set_cons_zero, List.set_cons_succ, i64_w, i32_w]
                rfl
              refine done_ (done_of HT_.out (by kernel_rfl)) ?_
              try go_wp2
              go_ret
              exact ⟨by first | rfl | (simp [errW_none, errW_some] <;> rfl) | (simp [*, errW_none, errW_some] <;> rfl), by repeat (first | (with_reducible first | exact HB.out | apply below_alloc | apply pw_below_drewN | apply below_drew1 | refine below_set ?_ GE109.out) | exact HB.out)⟩
            · rw [if_neg c21] at H
              exact absurd H (by simp)
          · rw [if_neg c20] at H
            exact absurd H (by simp)
        · rw [if_neg c19] at H
          exact absurd H (by simp)
      · rw [if_neg c17] at H
        exact absurd H (by simp)
  · rw [if_neg c3] at H
    have c3b0 : (a0.toList == ([101, 110] : List UInt8)) = false := beq_eq_false_iff_ne.mpr c3
    have c3b1 : (a0.toList != ([101, 110] : List UInt8)) = true := bne_iff_ne.mpr c3
    replace H := Option.bind_eq_some_iff.mp H
    obtain ⟨t110, A270, H⟩ := H
    replace H : (if t110.size + 1 ≤ 9223372036854775807 then ((some (t110 ++ (⟨#[58]⟩ : ByteArray) : ByteArray)).bind fun y111 => ((moment_pad.f a1_4 2).bind fun t112 => (if y111.size + t112.size ≤ 9223372036854775807 then ((some (y111 ++ t112 : ByteArray)).bind fun y113 => (some y113)) else (none)))) else (none)) = some r := H
    have A27 := Aside0.mk A270
    clear A270
    by_cases c28 : t110.size + 1 ≤ 9223372036854775807
    · rw [if_pos c28] at H
      have c28b0 := eq_true c28
      have c28b1 : decide (t110.size + 1 ≤ 9223372036854775807) = true := decide_eq_true c28
      try have c28b2 : (9223372036854775807 < t110.size + 1) = False := eq_false (Nat.not_lt.2 c28)
      replace H := Option.bind_eq_some_iff.mp H
      obtain ⟨y111, hy1110, H⟩ := H
      replace H : ((moment_pad.f a1_4 2).bind fun t112 => (if y111.size + t112.size ≤ 9223372036854775807 then ((some (y111 ++ t112 : ByteArray)).bind fun y113 => (some y113)) else (none))) = some r := H
      have hy111 : t110 ++ (⟨#[58]⟩ : ByteArray) = y111 := Option.some.inj hy1110
      clear hy1110
      replace H := Option.bind_eq_some_iff.mp H
      obtain ⟨t112, A290, H⟩ := H
      replace H : (if y111.size + t112.size ≤ 9223372036854775807 then ((some (y111 ++ t112 : ByteArray)).bind fun y113 => (some y113)) else (none)) = some r := H
      have A29 := Aside0.mk A290
      clear A290
      by_cases c30 : y111.size + t112.size ≤ 9223372036854775807
      · rw [if_pos c30] at H
        have c30b0 := eq_true c30
        have c30b1 : decide (y111.size + t112.size ≤ 9223372036854775807) = true := decide_eq_true c30
        try have c30b2 : (9223372036854775807 < y111.size + t112.size) = False := eq_false (Nat.not_lt.2 c30)
        replace H := Option.bind_eq_some_iff.mp H
        obtain ⟨y113, hy1130, H⟩ := H
        replace H : (some y113) = some r := H
        have hy113 : y111 ++ t112 = y113 := Option.some.inj hy1130
        clear hy1130
        obtain rfl := Option.some.inj H
        go_enter Tryd.func49, Tryd.ntmps49
        try go_wp2_with (first | ((with_reducible refine gate_dst (N := 3) rfl ?_); refine box_event ?hg (N := 3) ?hd (cs := #[.int .i64 a1_0, .int .i64 a1_1, .int .i64 a1_2, .int .i64 a1_3, .int .i64 a1_4, .int .i64 a1_5, .int .i64 a1_6]) (t := 66) ?hr ?_; (case hd => rfl); (case hg => rfl); (case hr => first | (go_simp; done) | (go_simp; rfl)); intro gb109 hg w31 hbox hb; have n0_ := Aside0.mk (below_step (by repeat (first | (with_reducible first | exact HB.out | apply below_alloc | apply pw_below_drewN | apply below_drew1) | exact HB.out)) hb); have n1_ := Aside0.mk (hbox); have n2_ := Aside0.mk ((by rw [hg]; exact (below_size (by repeat (first | (with_reducible first | exact HB.out | apply below_alloc | apply pw_below_drewN | apply below_drew1) | exact HB.out))) : w.heap.size ≤ gb109)); have n3_ := Aside0.mk ((by rw [hg]; exact (below_size (by repeat (first | (with_reducible first | exact HB.out | apply below_alloc | apply pw_below_drewN | apply below_drew1) | exact HB.out))) : w.heap.size ≤ gb109)); clear HB; have HB := n0_; have BK109 := n1_; have GW109 := n2_; have GE109 := n3_; clear n0_ n1_ n2_ n3_; clear hb hbox hg))
        have n0_ := Aside0.mk (blk_drew BK109.out)
        have n1_ := Aside0.mk (below_drew1 HB.out)
        clear BK109
        clear HB
        have BK109 := n0_
        have HB := n1_
        clear n0_ n1_
        refine start_ (n := 9) (S := fun w' => w'.cell? ⟨gb109, 0, none⟩ = some (.int .i64 a1_0) ∧ w'.cell? ⟨gb109, 1, none⟩ = some (.int .i64 a1_1) ∧ w'.cell? ⟨gb109, 2, none⟩ = some (.int .i64 a1_2) ∧ w'.cell? ⟨gb109, 3, none⟩ = some (.int .i64 a1_3) ∧ w'.cell? ⟨gb109, 4, none⟩ = some (.int .i64 a1_4) ∧ w'.cell? ⟨gb109, 5, none⟩ = some (.int .i64 a1_5) ∧ w'.cell? ⟨gb109, 6, none⟩ = some (.int .i64 a1_6)) (ds := []) #[false, false, false, false, false, false, false, false, false] (by kernel_rfl) rfl rfl ⟨(blk_cell BK109.out 0).trans rfl, (blk_cell BK109.out 1).trans rfl, (blk_cell BK109.out 2).trans rfl, (blk_cell BK109.out 3).trans rfl, (blk_cell BK109.out 4).trans rfl, (blk_cell BK109.out 5).trans rfl, (blk_cell BK109.out 6).trans rfl⟩ (fun hHeld => ?_); refine with_tabW moment_clock.tab2 moment_clock.bits2 (fun HT_ HW_ => ?_)
        generalize w31.drew = w32 at BK109 HB hHeld ⊢
        refine pure_ (i := 0) (N := some 8) (v := ?_) (a' := ?_) #[true, false, false, false, false, false, false, false, false] rfl rfl (any_of HT_.out (by kernel_rfl)) (fun _ _ _ h => h) (Or.inl ⟨by rfl, ?_⟩) ?_ ?_
        rotate_left
        · intro w'
          go_simp
          with_reducible rfl
        rotate_left
        · simp only [Act.put, List.setIfInBounds_toArray, List.set_cons_zero, List.set_cons_succ, i64_w, i32_w]
          rfl
        refine pure_ (i := 4) (N := some 12) (v := ?_) (a' := ?_) #[true, false, false, false, true, false, false, false, false] rfl rfl (any_of HT_.out (by kernel_rfl)) (fun _ _ _ h => h) (Or.inl ⟨by rfl, ?_⟩) ?_ ?_
        rotate_left
        · intro w'
          go_simp
          with_reducible rfl
        rotate_left
        · simp only [Act.put, List.setIfInBounds_toArray, List.set_cons_zero, List.set_cons_succ, i64_w, i32_w]
          rfl
        refine take_ (i := 1) (N := some 9) (v := ?_) (a' := ?_) #[true, true, false, false, true, false, false, false, false] rfl rfl (take_ofW HT_.out HW_.out (by kernel_rfl)) (fun _ _ _ h => h) (Or.inl ⟨by rfl, ?_⟩) hHeld ?_ ?_
        rotate_left
        · rintro w' ⟨s0, s1, s2, s3, s4, s5, s6⟩
          go_simp
          with_reducible rfl
        rotate_left
        · simp only [Act.put, List.setIfInBounds_toArray, List.set_cons_zero, List.set_cons_succ, i64_w, i32_w]
          rfl
        refine take_ (i := 5) (N := some 13) (v := ?_) (a' := ?_) #[true, true, false, false, true, true, false, false, false] rfl rfl (take_ofW HT_.out HW_.out (by kernel_rfl)) (fun _ _ _ h => h) (Or.inl ⟨by rfl, ?_⟩) hHeld ?_ ?_
        rotate_left
        · rintro w' ⟨s0, s1, s2, s3, s4, s5, s6⟩
          go_simp
          with_reducible rfl
        rotate_left
        · simp only [Act.put, List.setIfInBounds_toArray, List.set_cons_zero, List.set_cons_succ, i64_w, i32_w]
          rfl
        refine one_ (i := 2) (N := some 10) #[true, true, true, false, true, true, false, false, false] rfl rfl (one_of HT_.out (by kernel_rfl)) (by decide) (fun K hK => ?_)
        refine goes_ Tryd.func68 (by kernel_rfl) rfl #[.int .i64 a1_3, .int .i64 2] (by rfl) rfl rfl (by (try simp only [List.map_toArray, List.map_cons, List.map_nil]); first | done | rfl | (simp only [List.length_drop, List.length_take]; rfl)) ?_
        with_reducible refine (moment_pad.calls a1_3 2 t110 _ A27.out).mono ?_
        rintro e w33 ⟨rfl, hb⟩
        refine ⟨_, rfl, ?_⟩
        have n0_ := Aside0.mk (blk_below (g := gb109) (o := .cells #[.int .i64 a1_0, .int .i64 a1_1, .int .i64 a1_2, .int .i64 a1_3, .int .i64 a1_4, .int .i64 a1_5, .int .i64 a1_6] 66 (0, 0)) (by (with_reducible repeat (first | refine blk_drewN ?_ _ | refine blk_drew ?_ | refine blk_alloc ?_ _)); exact BK109.out) hb)
        have n1_ := Aside0.mk (below_step (by repeat (first | (with_reducible first | exact HB.out | apply below_alloc | apply pw_below_drewN | apply below_drew1 | refine below_set ?_ GE109.out) | exact HB.out)) hb)
        clear BK109
        clear HB
        have BK109 := n0_
        have HB := n1_
        clear n0_ n1_
        (try clear hb)
        (try clear hb2)
        (try clear hk)
        (try clear hi)
        refine hK.out _ _ ⟨(blk_cell BK109.out 0).trans rfl, (blk_cell BK109.out 1).trans rfl, (blk_cell BK109.out 2).trans rfl, (blk_cell BK109.out 3).trans rfl, (blk_cell BK109.out 4).trans rfl, (blk_cell BK109.out 5).trans rfl, (blk_cell BK109.out 6).trans rfl⟩ (fun hHeld => ?_)
        clear hK K
        refine norm_ (a' := ?_) ?_ ?_
        rotate_left
        · show Act.put _ (some 10) _ = _
          simp only [Act.put, List.setIfInBounds_toArray, List.set_cons_zero, List.set_cons_succ, i64_w, i32_w]
          rfl
        refine pure_ (i := 3) (N := some 11) (v := ?_) (a' := ?_) #[true, true, true, true, true, true, false, false, false] rfl rfl (any_of HT_.out (by kernel_rfl)) (fun _ _ _ h => h) (Or.inl ⟨by rfl, ?_⟩) ?_ ?_
        rotate_left
        · intro w'
          go_simp
          with_reducible rfl
        rotate_left
        · simp only [Act.put, List.setIfInBounds_toArray, List.set_cons_zero, List.set_cons_succ, i64_w, i32_w]
          rfl
        refine one_ (i := 6) (N := some 14) #[true, true, true, true, true, true, true, false, false] rfl rfl (one_of HT_.out (by kernel_rfl)) (by decide) (fun K hK => ?_)
        refine goes_ Tryd.func68 (by kernel_rfl) rfl #[.int .i64 a1_4, .int .i64 2] (by rfl) rfl rfl (by (try simp only [List.map_toArray, List.map_cons, List.map_nil]); first | done | rfl | (simp only [List.length_drop, List.length_take]; rfl)) ?_
        with_reducible refine (moment_pad.calls a1_4 2 t112 _ A29.out).mono ?_
        rintro e w34 ⟨rfl, hb⟩
        refine ⟨_, rfl, ?_⟩
        have n0_ := Aside0.mk (blk_below (g := gb109) (o := .cells #[.int .i64 a1_0, .int .i64 a1_1, .int .i64 a1_2, .int .i64 a1_3, .int .i64 a1_4, .int .i64 a1_5, .int .i64 a1_6] 66 (0, 0)) (by (with_reducible repeat (first | refine blk_drewN ?_ _ | refine blk_drew ?_ | refine blk_alloc ?_ _)); exact BK109.out) hb)
        have n1_ := Aside0.mk (below_step (by repeat (first | (with_reducible first | exact HB.out | apply below_alloc | apply pw_below_drewN | apply below_drew1 | refine below_set ?_ GE109.out) | exact HB.out)) hb)
        clear BK109
        clear HB
        have BK109 := n0_
        have HB := n1_
        clear n0_ n1_
        (try clear hb)
        (try clear hb2)
        (try clear hk)
        (try clear hi)
        refine hK.out _ _ ⟨(blk_cell BK109.out 0).trans rfl, (blk_cell BK109.out 1).trans rfl, (blk_cell BK109.out 2).trans rfl, (blk_cell BK109.out 3).trans rfl, (blk_cell BK109.out 4).trans rfl, (blk_cell BK109.out 5).trans rfl, (blk_cell BK109.out 6).trans rfl⟩ (fun hHeld => ?_)
        clear hK K
        refine norm_ (a' := ?_) ?_ ?_
        rotate_left
        · show Act.put _ (some 14) _ = _
          simp only [Act.put, List.setIfInBounds_toArray, List.set_cons_zero, List.set_cons_succ, i64_w, i32_w]
          rfl
        refine pure_ (i := 7) (N := some 15) (v := ?_) (a' := ?_) #[true, true, true, true, true, true, true, true, false] rfl rfl (any_of HT_.out (by kernel_rfl)) (fun _ _ _ h => h) (Or.inl ⟨by rfl, ?_⟩) ?_ ?_
        rotate_left
        · intro w'
          go_simp
          with_reducible rfl
        rotate_left
        · simp only [Act.put, List.setIfInBounds_toArray, List.set_cons_zero, List.set_cons_succ, i64_w, i32_w]
          rfl
        refine pure_ (i := 8) (N := some 4) (v := ?_) (a' := ?_) #[true, true, true, true, true, true, true, true, true] rfl rfl (any_of HT_.out (by kernel_rfl)) (fun _ _ _ h => h) (Or.inl ⟨by rfl, ?_⟩) ?_ ?_
        rotate_left
        · intro w'
          go_simp
          with_reducible rfl
        rotate_left
        · simp only [Act.put, List.setIfInBounds_toArray, List.set_cons_zero, List.set_cons_succ, i64_w, i32_w]
          rfl
        refine done_ (done_of HT_.out (by kernel_rfl)) ?_
        try go_wp2
        go_ret
        exact ⟨by first | rfl | (simp [errW_none, errW_some] <;> rfl) | (simp [*, errW_none, errW_some] <;> rfl), by repeat (first | (with_reducible first | exact HB.out | apply below_alloc | apply pw_below_drewN | apply below_drew1 | refine below_set ?_ GE109.out) | exact HB.out)⟩
      · rw [if_neg c30] at H
        exact absurd H (by simp)
    · rw [if_neg c28] at H
      exact absurd H (by simp)

end Go.Proofs.YtpedajhcfkohlaaDoor.PMom
