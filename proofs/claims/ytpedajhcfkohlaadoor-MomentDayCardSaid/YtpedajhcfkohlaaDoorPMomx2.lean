-- Written by this session's own program (wip/drive.py) over the kit's printer: not the printer's own text.
import Derived.Test.YtpedajhcfkohlaaDoorPMomx0
import Derived.Test.YtpedajhcfkohlaaDoorPMomx1
namespace Go.Proofs.YtpedajhcfkohlaaDoor.PMom
open Go.RowKit Go.Proofs.YtpedajhcfkohlaaDoorHand Go.Proofs.YtpedajhcfkohlaaDoorW.PrintWords Go.Proofs.YtpedajhcfkohlaaDoorW.PrintLast Go.Proofs.YtpedajhcfkohlaaDoorW.PrintMore
attribute [local go_sem] max2_int min2_int max_two min_two max_three min_three max_four min_four   -- for this text's walks alone
set_option linter.unusedVariables false
set_option linter.unusedSimpArgs false

/-! ### moment_day: function 50 -/
def moment_day.j0 : Nat → ByteArray → ByteArray → ByteArray → ByteArray → Bool → Option (ByteArray)
  | 0, _, _, _, _, _ => none
  | k + 1, x5, x6, x7, x17, x31 => if x31 = true then (if x7.size + 1 ≤ 9223372036854775807 then ((some (x7 ++ (⟨#[46]⟩ : ByteArray) : ByteArray)).bind fun y136 => (if y136.size + x6.size ≤ 9223372036854775807 then ((some (y136 ++ x6 : ByteArray)).bind fun y137 => (if y137.size + 1 ≤ 9223372036854775807 then ((some (y137 ++ (⟨#[46]⟩ : ByteArray) : ByteArray)).bind fun y138 => (if y138.size + x5.size ≤ 9223372036854775807 then ((some (y138 ++ x5 : ByteArray)).bind fun y139 => (some y139)) else (none))) else (none))) else (none))) else (none)) else (if x17.toList = ([102, 114] : List UInt8) then (if x7.size + 1 ≤ 9223372036854775807 then ((some (x7 ++ (⟨#[47]⟩ : ByteArray) : ByteArray)).bind fun y140 => (if y140.size + x6.size ≤ 9223372036854775807 then ((some (y140 ++ x6 : ByteArray)).bind fun y141 => (if y141.size + 1 ≤ 9223372036854775807 then ((some (y141 ++ (⟨#[47]⟩ : ByteArray) : ByteArray)).bind fun y142 => (if y142.size + x5.size ≤ 9223372036854775807 then ((some (y142 ++ x5 : ByteArray)).bind fun y143 => (some y143)) else (none))) else (none))) else (none))) else (none)) else (if x17.toList = ([101, 115] : List UInt8) then (if x7.size + 1 ≤ 9223372036854775807 then ((some (x7 ++ (⟨#[47]⟩ : ByteArray) : ByteArray)).bind fun y144 => (if y144.size + x6.size ≤ 9223372036854775807 then ((some (y144 ++ x6 : ByteArray)).bind fun y145 => (if y145.size + 1 ≤ 9223372036854775807 then ((some (y145 ++ (⟨#[47]⟩ : ByteArray) : ByteArray)).bind fun y146 => (if y146.size + x5.size ≤ 9223372036854775807 then ((some (y146 ++ x5 : ByteArray)).bind fun y147 => (some y147)) else (none))) else (none))) else (none))) else (none)) else (if x5.size + 1 ≤ 9223372036854775807 then ((some (x5 ++ (⟨#[45]⟩ : ByteArray) : ByteArray)).bind fun y148 => (if y148.size + x6.size ≤ 9223372036854775807 then ((some (y148 ++ x6 : ByteArray)).bind fun y149 => (if y149.size + 1 ≤ 9223372036854775807 then ((some (y149 ++ (⟨#[45]⟩ : ByteArray) : ByteArray)).bind fun y150 => (if y150.size + x7.size ≤ 9223372036854775807 then ((some (y150 ++ x7 : ByteArray)).bind fun y151 => (some y151)) else (none))) else (none))) else (none))) else (none))))
def moment_day.f (k : Nat) (a0 : ByteArray) (a1_0 : Int) (a1_1 : Int) (a1_2 : Int) (a1_3 : Int) (a1_4 : Int) (a1_5 : Int) (a1_6 : Int) : Option (ByteArray) := (moment_pad.f a1_0 4).bind fun t127 => ((moment_pad.f a1_1 2).bind fun t128 => ((moment_pad.f a1_2 2).bind fun t129 => (if a0.toList = ([101, 110] : List UInt8) then ((moment_pad.f a1_1 1).bind fun t130 => (if t130.size + 1 ≤ 9223372036854775807 then ((some (t130 ++ (⟨#[47]⟩ : ByteArray) : ByteArray)).bind fun y131 => ((moment_pad.f a1_2 1).bind fun t132 => (if y131.size + t132.size ≤ 9223372036854775807 then ((some (y131 ++ t132 : ByteArray)).bind fun y133 => (if y133.size + 1 ≤ 9223372036854775807 then ((some (y133 ++ (⟨#[47]⟩ : ByteArray) : ByteArray)).bind fun y134 => (if y134.size + t127.size ≤ 9223372036854775807 then ((some (y134 ++ t127 : ByteArray)).bind fun y135 => (some y135)) else (none))) else (none))) else (none)))) else (none))) else (if a0.toList = ([100, 101] : List UInt8) then (moment_day.j0 k t127 t128 t129 a0 (a0.toList == ([100, 101] : List UInt8))) else (if a0.toList = ([99, 115] : List UInt8) then (moment_day.j0 k t127 t128 t129 a0 (a0.toList == ([99, 115] : List UInt8))) else (if a0.toList = ([112, 108] : List UInt8) then (moment_day.j0 k t127 t128 t129 a0 (a0.toList == ([112, 108] : List UInt8))) else (moment_day.j0 k t127 t128 t129 a0 (a0.toList == ([114, 117] : List UInt8)))))))))
theorem moment_day.mono_l : ∀ k, (∀ y0 y1 y2 y3 y4, LeO (moment_day.j0 k y0 y1 y2 y3 y4) (moment_day.j0 (k + 1) y0 y1 y2 y3 y4))
  | 0 => fun _ _ _ _ _ r h => by simp [moment_day.j0] at h
  | k + 1 => by
    have ih0 := moment_day.mono_l k
    · intro y0 y1 y2 y3 y4
      unfold moment_day.j0
      repeat' first
      | (with_reducible exact ih0 _ _ _ _ _)
      | (with_reducible exact LeO.refl _)
      | (with_reducible exact LeO.none _)
      | (with_reducible refine LeO.ite ?_ ?_)
      | (with_reducible refine LeO.bind ?_ (fun _ => ?_))
      | exact ih0 _ _ _ _ _
      | exact LeO.none _
      | refine LeO.ite ?_ ?_
      | refine LeO.bind ?_ (fun _ => ?_)
theorem moment_day.mono : ∀ a0 a1 a2 a3 a4 a5 a6 a7 k, LeO (moment_day.f k a0 a1 a2 a3 a4 a5 a6 a7) (moment_day.f (k + 1) a0 a1 a2 a3 a4 a5 a6 a7) := by
  intro a0 a1 a2 a3 a4 a5 a6 a7 k
  have ih0 := moment_day.mono_l k
  unfold moment_day.f
  repeat' first
      | (with_reducible exact ih0 _ _ _ _ _)
      | (with_reducible exact LeO.refl _)
      | (with_reducible exact LeO.none _)
      | (with_reducible refine LeO.ite ?_ ?_)
      | (with_reducible refine LeO.bind ?_ (fun _ => ?_))
      | exact ih0 _ _ _ _ _
      | exact LeO.none _
      | refine LeO.ite ?_ ?_
      | refine LeO.bind ?_ (fun _ => ?_)
def moment_day.T1 : Bool × List (List Nat × List Nat) := (true, [([], []), ([0], [0]), ([1], [1]), ([], []), ([3], [3]), ([4, 2], [4]), ([], []), ([6], [6]), ([7, 5], [7]), ([2, 8, 0, 1, 2], [2]), ([5, 9, 0, 1, 2, 3, 4, 5, 9], [5]), ([8, 10, 0, 1, 2, 3, 4, 5, 6, 7, 8, 9, 10], [8])])
def moment_day.B1 : List Nat := [0, 1, 3, 0, 8, 31, 0, 64, 255, 511, 1023, 2047]
theorem moment_day.tab1 : rtab .any (opsOf Tryd.f50 1) = moment_day.T1 := by kernel_rfl
theorem moment_day.bits1 : waitsOk moment_day.T1.2 moment_day.B1 = true := by kernel_rfl
def moment_day.T4 : Bool × List (List Nat × List Nat) := (true, [([], []), ([0], [0]), ([1], [1]), ([2], [2]), ([], []), ([4], [4]), ([5, 2], [5]), ([3, 6], [3, 6]), ([7], [7]), ([], []), ([8, 9], [8, 9]), ([10, 6, 0, 1, 2, 3, 4, 5, 6, 7, 8, 9, 10], [10])])
def moment_day.B4 : List Nat := [0, 1, 3, 7, 0, 16, 55, 127, 255, 0, 1023, 2047]
theorem moment_day.tab4 : rtab .any (opsOf Tryd.f50 4) = moment_day.T4 := by kernel_rfl
theorem moment_day.bits4 : waitsOk moment_day.T4.2 moment_day.B4 = true := by kernel_rfl
set_option maxHeartbeats 8000000 in
set_option maxRecDepth 100000 in
theorem moment_day.calls (k : Nat) (a0 : ByteArray) (a1_0 : Int) (a1_1 : Int) (a1_2 : Int) (a1_3 : Int) (a1_4 : Int) (a1_5 : Int) (a1_6 : Int) (r : ByteArray) (w : World) (h : moment_day.f k a0 a1_0 a1_1 a1_2 a1_3 a1_4 a1_5 a1_6 = some r) (hG : GW w := by first | exact hG | exact GW.drewN hG _ | exact GW.below hG (by first | exact HB.out | (with_reducible exact HB.out) | (repeat (first | (with_reducible first | exact HB.out | apply below_alloc | apply pw_below_drewN | apply below_drew1) | (refine below_setA ?_ (by assumption)) | exact HB.out)))) :
    Calls Tryd.prog 50 #[.string a0, .agg #[.int .i64 a1_0, .int .i64 a1_1, .int .i64 a1_2, .int .i64 a1_3, .int .i64 a1_4, .int .i64 a1_5, .int .i64 a1_6]] w fun e w' => e = .returned (.string r) ∧ Below w.heap.size w w' := by
  have hu66 := Tryd.underlying66
  have HB := Aside0.mk (Below.refl w.heap.size w)
  have H : ((moment_pad.f a1_0 4).bind fun t127 => ((moment_pad.f a1_1 2).bind fun t128 => ((moment_pad.f a1_2 2).bind fun t129 => (if a0.toList = ([101, 110] : List UInt8) then ((moment_pad.f a1_1 1).bind fun t130 => (if t130.size + 1 ≤ 9223372036854775807 then ((some (t130 ++ (⟨#[47]⟩ : ByteArray) : ByteArray)).bind fun y131 => ((moment_pad.f a1_2 1).bind fun t132 => (if y131.size + t132.size ≤ 9223372036854775807 then ((some (y131 ++ t132 : ByteArray)).bind fun y133 => (if y133.size + 1 ≤ 9223372036854775807 then ((some (y133 ++ (⟨#[47]⟩ : ByteArray) : ByteArray)).bind fun y134 => (if y134.size + t127.size ≤ 9223372036854775807 then ((some (y134 ++ t127 : ByteArray)).bind fun y135 => (some y135)) else (none))) else (none))) else (none)))) else (none))) else (if a0.toList = ([100, 101] : List UInt8) then (moment_day.j0 k t127 t128 t129 a0 (a0.toList == ([100, 101] : List UInt8))) else (if a0.toList = ([99, 115] : List UInt8) then (moment_day.j0 k t127 t128 t129 a0 (a0.toList == ([99, 115] : List UInt8))) else (if a0.toList = ([112, 108] : List UInt8) then (moment_day.j0 k t127 t128 t129 a0 (a0.toList == ([112, 108] : List UInt8))) else (moment_day.j0 k t127 t128 t129 a0 (a0.toList == ([114, 117] : List UInt8)))))))))) = some r := h
  clear h
  replace H := Option.bind_eq_some_iff.mp H
  obtain ⟨t127, A30, H⟩ := H
  replace H : ((moment_pad.f a1_1 2).bind fun t128 => ((moment_pad.f a1_2 2).bind fun t129 => (if a0.toList = ([101, 110] : List UInt8) then ((moment_pad.f a1_1 1).bind fun t130 => (if t130.size + 1 ≤ 9223372036854775807 then ((some (t130 ++ (⟨#[47]⟩ : ByteArray) : ByteArray)).bind fun y131 => ((moment_pad.f a1_2 1).bind fun t132 => (if y131.size + t132.size ≤ 9223372036854775807 then ((some (y131 ++ t132 : ByteArray)).bind fun y133 => (if y133.size + 1 ≤ 9223372036854775807 then ((some (y133 ++ (⟨#[47]⟩ : ByteArray) : ByteArray)).bind fun y134 => (if y134.size + t127.size ≤ 9223372036854775807 then ((some (y134 ++ t127 : ByteArray)).bind fun y135 => (some y135)) else (none))) else (none))) else (none)))) else (none))) else (if a0.toList = ([100, 101] : List UInt8) then (moment_day.j0 k t127 t128 t129 a0 (a0.toList == ([100, 101] : List UInt8))) else (if a0.toList = ([99, 115] : List UInt8) then (moment_day.j0 k t127 t128 t129 a0 (a0.toList == ([99, 115] : List UInt8))) else (if a0.toList = ([112, 108] : List UInt8) then (moment_day.j0 k t127 t128 t129 a0 (a0.toList == ([112, 108] : List UInt8))) else (moment_day.j0 k t127 t128 t129 a0 (a0.toList == ([114, 117] : List UInt8))))))))) = some r := H
  have A3 := Aside0.mk A30
  clear A30
  replace H := Option.bind_eq_some_iff.mp H
  obtain ⟨t128, A40, H⟩ := H
  replace H : ((moment_pad.f a1_2 2).bind fun t129 => (if a0.toList = ([101, 110] : List UInt8) then ((moment_pad.f a1_1 1).bind fun t130 => (if t130.size + 1 ≤ 9223372036854775807 then ((some (t130 ++ (⟨#[47]⟩ : ByteArray) : ByteArray)).bind fun y131 => ((moment_pad.f a1_2 1).bind fun t132 => (if y131.size + t132.size ≤ 9223372036854775807 then ((some (y131 ++ t132 : ByteArray)).bind fun y133 => (if y133.size + 1 ≤ 9223372036854775807 then ((some (y133 ++ (⟨#[47]⟩ : ByteArray) : ByteArray)).bind fun y134 => (if y134.size + t127.size ≤ 9223372036854775807 then ((some (y134 ++ t127 : ByteArray)).bind fun y135 => (some y135)) else (none))) else (none))) else (none)))) else (none))) else (if a0.toList = ([100, 101] : List UInt8) then (moment_day.j0 k t127 t128 t129 a0 (a0.toList == ([100, 101] : List UInt8))) else (if a0.toList = ([99, 115] : List UInt8) then (moment_day.j0 k t127 t128 t129 a0 (a0.toList == ([99, 115] : List UInt8))) else (if a0.toList = ([112, 108] : List UInt8) then (moment_day.j0 k t127 t128 t129 a0 (a0.toList == ([112, 108] : List UInt8))) else (moment_day.j0 k t127 t128 t129 a0 (a0.toList == ([114, 117] : List UInt8)))))))) = some r := H
  have A4 := Aside0.mk A40
  clear A40
  replace H := Option.bind_eq_some_iff.mp H
  obtain ⟨t129, A50, H⟩ := H
  replace H : (if a0.toList = ([101, 110] : List UInt8) then ((moment_pad.f a1_1 1).bind fun t130 => (if t130.size + 1 ≤ 9223372036854775807 then ((some (t130 ++ (⟨#[47]⟩ : ByteArray) : ByteArray)).bind fun y131 => ((moment_pad.f a1_2 1).bind fun t132 => (if y131.size + t132.size ≤ 9223372036854775807 then ((some (y131 ++ t132 : ByteArray)).bind fun y133 => (if y133.size + 1 ≤ 9223372036854775807 then ((some (y133 ++ (⟨#[47]⟩ : ByteArray) : ByteArray)).bind fun y134 => (if y134.size + t127.size ≤ 9223372036854775807 then ((some (y134 ++ t127 : ByteArray)).bind fun y135 => (some y135)) else (none))) else (none))) else (none)))) else (none))) else (if a0.toList = ([100, 101] : List UInt8) then (moment_day.j0 k t127 t128 t129 a0 (a0.toList == ([100, 101] : List UInt8))) else (if a0.toList = ([99, 115] : List UInt8) then (moment_day.j0 k t127 t128 t129 a0 (a0.toList == ([99, 115] : List UInt8))) else (if a0.toList = ([112, 108] : List UInt8) then (moment_day.j0 k t127 t128 t129 a0 (a0.toList == ([112, 108] : List UInt8))) else (moment_day.j0 k t127 t128 t129 a0 (a0.toList == ([114, 117] : List UInt8))))))) = some r := H
  have A5 := Aside0.mk A50
  clear A50
  by_cases c6 : a0.toList = ([101, 110] : List UInt8)
  · rw [if_pos c6] at H
    have c6b0 : (a0.toList == ([101, 110] : List UInt8)) = true := beq_iff_eq.mpr c6
    have c6b1 : (a0.toList != ([101, 110] : List UInt8)) = false := bne_eq_false_iff_eq.mpr c6
    clear c6
    replace H := Option.bind_eq_some_iff.mp H
    obtain ⟨t130, A70, H⟩ := H
    replace H : (if t130.size + 1 ≤ 9223372036854775807 then ((some (t130 ++ (⟨#[47]⟩ : ByteArray) : ByteArray)).bind fun y131 => ((moment_pad.f a1_2 1).bind fun t132 => (if y131.size + t132.size ≤ 9223372036854775807 then ((some (y131 ++ t132 : ByteArray)).bind fun y133 => (if y133.size + 1 ≤ 9223372036854775807 then ((some (y133 ++ (⟨#[47]⟩ : ByteArray) : ByteArray)).bind fun y134 => (if y134.size + t127.size ≤ 9223372036854775807 then ((some (y134 ++ t127 : ByteArray)).bind fun y135 => (some y135)) else (none))) else (none))) else (none)))) else (none)) = some r := H
    have A7 := Aside0.mk A70
    clear A70
    by_cases c8 : t130.size + 1 ≤ 9223372036854775807
    · rw [if_pos c8] at H
      have c8b0 := eq_true c8
      have c8b1 : decide (t130.size + 1 ≤ 9223372036854775807) = true := decide_eq_true c8
      try have c8b2 : (9223372036854775807 < t130.size + 1) = False := eq_false (Nat.not_lt.2 c8)
      replace H := Option.bind_eq_some_iff.mp H
      obtain ⟨y131, hy1310, H⟩ := H
      replace H : ((moment_pad.f a1_2 1).bind fun t132 => (if y131.size + t132.size ≤ 9223372036854775807 then ((some (y131 ++ t132 : ByteArray)).bind fun y133 => (if y133.size + 1 ≤ 9223372036854775807 then ((some (y133 ++ (⟨#[47]⟩ : ByteArray) : ByteArray)).bind fun y134 => (if y134.size + t127.size ≤ 9223372036854775807 then ((some (y134 ++ t127 : ByteArray)).bind fun y135 => (some y135)) else (none))) else (none))) else (none))) = some r := H
      have hy131 : t130 ++ (⟨#[47]⟩ : ByteArray) = y131 := Option.some.inj hy1310
      clear hy1310
      replace H := Option.bind_eq_some_iff.mp H
      obtain ⟨t132, A90, H⟩ := H
      replace H : (if y131.size + t132.size ≤ 9223372036854775807 then ((some (y131 ++ t132 : ByteArray)).bind fun y133 => (if y133.size + 1 ≤ 9223372036854775807 then ((some (y133 ++ (⟨#[47]⟩ : ByteArray) : ByteArray)).bind fun y134 => (if y134.size + t127.size ≤ 9223372036854775807 then ((some (y134 ++ t127 : ByteArray)).bind fun y135 => (some y135)) else (none))) else (none))) else (none)) = some r := H
      have A9 := Aside0.mk A90
      clear A90
      by_cases c10 : y131.size + t132.size ≤ 9223372036854775807
      · rw [if_pos c10] at H
        have c10b0 := eq_true c10
        have c10b1 : decide (y131.size + t132.size ≤ 9223372036854775807) = true := decide_eq_true c10
        try have c10b2 : (9223372036854775807 < y131.size + t132.size) = False := eq_false (Nat.not_lt.2 c10)
        replace H := Option.bind_eq_some_iff.mp H
        obtain ⟨y133, hy1330, H⟩ := H
        replace H : (if y133.size + 1 ≤ 9223372036854775807 then ((some (y133 ++ (⟨#[47]⟩ : ByteArray) : ByteArray)).bind fun y134 => (if y134.size + t127.size ≤ 9223372036854775807 then ((some (y134 ++ t127 : ByteArray)).bind fun y135 => (some y135)) else (none))) else (none)) = some r := H
        have hy133 : y131 ++ t132 = y133 := Option.some.inj hy1330
        clear hy1330
        by_cases c11 : y133.size + 1 ≤ 9223372036854775807
        · rw [if_pos c11] at H
          have c11b0 := eq_true c11
          have c11b1 : decide (y133.size + 1 ≤ 9223372036854775807) = true := decide_eq_true c11
          try have c11b2 : (9223372036854775807 < y133.size + 1) = False := eq_false (Nat.not_lt.2 c11)
          replace H := Option.bind_eq_some_iff.mp H
          obtain ⟨y134, hy1340, H⟩ := H
          replace H : (if y134.size + t127.size ≤ 9223372036854775807 then ((some (y134 ++ t127 : ByteArray)).bind fun y135 => (some y135)) else (none)) = some r := H
          have hy134 : y133 ++ (⟨#[47]⟩ : ByteArray) = y134 := Option.some.inj hy1340
          clear hy1340
          by_cases c12 : y134.size + t127.size ≤ 9223372036854775807
          · rw [if_pos c12] at H
            have c12b0 := eq_true c12
            have c12b1 : decide (y134.size + t127.size ≤ 9223372036854775807) = true := decide_eq_true c12
            try have c12b2 : (9223372036854775807 < y134.size + t127.size) = False := eq_false (Nat.not_lt.2 c12)
            replace H := Option.bind_eq_some_iff.mp H
            obtain ⟨y135, hy1350, H⟩ := H
            replace H : (some y135) = some r := H
            have hy135 : y134 ++ t127 = y135 := Option.some.inj hy1350
            clear hy1350
            obtain rfl := Option.some.inj H
            go_enter Tryd.func50, Tryd.ntmps50
            try go_wp2_with (first | ((with_reducible refine gate_dst (N := 3) rfl ?_); refine box_event ?hg (N := 3) ?hd (cs := #[.int .i64 a1_0, .int .i64 a1_1, .int .i64 a1_2, .int .i64 a1_3, .int .i64 a1_4, .int .i64 a1_5, .int .i64 a1_6]) (t := 66) ?hr ?_; (case hd => rfl); (case hg => rfl); (case hr => first | (go_simp; done) | (go_simp; rfl)); intro gb126 hg w13 hbox hb; have n0_ := Aside0.mk (below_step (by repeat (first | (with_reducible first | exact HB.out | apply below_alloc | apply pw_below_drewN | apply below_drew1) | exact HB.out)) hb); have n1_ := Aside0.mk (hbox); have n2_ := Aside0.mk ((by rw [hg]; exact (below_size (by repeat (first | (with_reducible first | exact HB.out | apply below_alloc | apply pw_below_drewN | apply below_drew1) | exact HB.out))) : w.heap.size ≤ gb126)); have n3_ := Aside0.mk ((by rw [hg]; exact (below_size (by repeat (first | (with_reducible first | exact HB.out | apply below_alloc | apply pw_below_drewN | apply below_drew1) | exact HB.out))) : w.heap.size ≤ gb126)); clear HB; have HB := n0_; have BK126 := n1_; have GW126 := n2_; have GE126 := n3_; clear n0_ n1_ n2_ n3_; clear hb hbox hg))
            have n0_ := Aside0.mk (blk_drew BK126.out)
            have n1_ := Aside0.mk (below_drew1 HB.out)
            clear BK126
            clear HB
            have BK126 := n0_
            have HB := n1_
            clear n0_ n1_
            refine start_ (n := 12) (S := fun w' => w'.cell? ⟨gb126, 0, none⟩ = some (.int .i64 a1_0) ∧ w'.cell? ⟨gb126, 1, none⟩ = some (.int .i64 a1_1) ∧ w'.cell? ⟨gb126, 2, none⟩ = some (.int .i64 a1_2) ∧ w'.cell? ⟨gb126, 3, none⟩ = some (.int .i64 a1_3) ∧ w'.cell? ⟨gb126, 4, none⟩ = some (.int .i64 a1_4) ∧ w'.cell? ⟨gb126, 5, none⟩ = some (.int .i64 a1_5) ∧ w'.cell? ⟨gb126, 6, none⟩ = some (.int .i64 a1_6)) (ds := []) #[false, false, false, false, false, false, false, false, false, false, false, false] (by kernel_rfl) rfl rfl ⟨(blk_cell BK126.out 0).trans rfl, (blk_cell BK126.out 1).trans rfl, (blk_cell BK126.out 2).trans rfl, (blk_cell BK126.out 3).trans rfl, (blk_cell BK126.out 4).trans rfl, (blk_cell BK126.out 5).trans rfl, (blk_cell BK126.out 6).trans rfl⟩ (fun hHeld => ?_); refine with_tabW moment_day.tab1 moment_day.bits1 (fun HT_ HW_ => ?_)
            generalize w13.drew = w14 at BK126 HB hHeld ⊢
            refine pure_ (i := 0) (N := some 8) (v := ?_) (a' := ?_) #[true, false, false, false, false, false, false, false, false, false, false, false] rfl rfl (any_of HT_.out (by kernel_rfl)) (fun _ _ _ h => h) (Or.inl ⟨by rfl, ?_⟩) ?_ ?_
            rotate_left
            · intro w'
              go_simp
              with_reducible rfl
            rotate_left
            · simp only [Act.put, List.setIfInBounds_toArray, List.set_cons_zero, List.set_cons_succ, i64_w, i32_w]
              rfl
            refine pure_ (i := 3) (N := some 11) (v := ?_) (a' := ?_) #[true, false, false, true, false, false, false, false, false, false, false, false] rfl rfl (any_of HT_.out (by kernel_rfl)) (fun _ _ _ h => h) (Or.inl ⟨by rfl, ?_⟩) ?_ ?_
            rotate_left
            · intro w'
              go_simp
              with_reducible rfl
            rotate_left
            · simp only [Act.put, List.setIfInBounds_toArray, List.set_cons_zero, List.set_cons_succ, i64_w, i32_w]
              rfl
            refine pure_ (i := 6) (N := some 14) (v := ?_) (a' := ?_) #[true, false, false, true, false, false, true, false, false, false, false, false] rfl rfl (any_of HT_.out (by kernel_rfl)) (fun _ _ _ h => h) (Or.inl ⟨by rfl, ?_⟩) ?_ ?_
            rotate_left
            · intro w'
              go_simp
              with_reducible rfl
            rotate_left
            · simp only [Act.put, List.setIfInBounds_toArray, List.set_cons_zero, List.set_cons_succ, i64_w, i32_w]
              rfl
            refine take_ (i := 1) (N := some 9) (v := ?_) (a' := ?_) #[true, true, false, true, false, false, true, false, false, false, false, false] rfl rfl (take_ofW HT_.out HW_.out (by kernel_rfl)) (fun _ _ _ h => h) (Or.inl ⟨by rfl, ?_⟩) hHeld ?_ ?_
            rotate_left
            · rintro w' ⟨s0, s1, s2, s3, s4, s5, s6⟩
              go_simp
              with_reducible rfl
            rotate_left
            · simp only [Act.put, List.setIfInBounds_toArray, List.set_cons_zero, List.set_cons_succ, i64_w, i32_w]
              rfl
            refine take_ (i := 4) (N := some 12) (v := ?_) (a' := ?_) #[true, true, false, true, true, false, true, false, false, false, false, false] rfl rfl (take_ofW HT_.out HW_.out (by kernel_rfl)) (fun _ _ _ h => h) (Or.inl ⟨by rfl, ?_⟩) hHeld ?_ ?_
            rotate_left
            · rintro w' ⟨s0, s1, s2, s3, s4, s5, s6⟩
              go_simp
              with_reducible rfl
            rotate_left
            · simp only [Act.put, List.setIfInBounds_toArray, List.set_cons_zero, List.set_cons_succ, i64_w, i32_w]
              rfl
            refine take_ (i := 7) (N := some 15) (v := ?_) (a' := ?_) #[true, true, false, true, true, false, true, true, false, false, false, false] rfl rfl (take_ofW HT_.out HW_.out (by kernel_rfl)) (fun _ _ _ h => h) (Or.inl ⟨by rfl, ?_⟩) hHeld ?_ ?_
            rotate_left
            · rintro w' ⟨s0, s1, s2, s3, s4, s5, s6⟩
              go_simp
              with_reducible rfl
            rotate_left
            · simp only [Act.put, List.setIfInBounds_toArray, List.set_cons_zero, List.set_cons_succ, i64_w, i32_w]
              rfl
            refine one_ (i := 2) (N := some 10) #[true, true, true, true, true, false, true, true, false, false, false, false] rfl rfl (one_of HT_.out (by kernel_rfl)) (by decide) (fun K hK => ?_)
            refine goes_ Tryd.func68 (by kernel_rfl) rfl #[.int .i64 a1_0, .int .i64 4] (by rfl) rfl rfl (by (try simp only [List.map_toArray, List.map_cons, List.map_nil]); first | done | rfl | (simp only [List.length_drop, List.length_take]; rfl)) ?_
            with_reducible refine (moment_pad.calls a1_0 4 t127 _ A3.out).mono ?_
            rintro e w15 ⟨rfl, hb⟩
            refine ⟨_, rfl, ?_⟩
            have n0_ := Aside0.mk (blk_below (g := gb126) (o := .cells #[.int .i64 a1_0, .int .i64 a1_1, .int .i64 a1_2, .int .i64 a1_3, .int .i64 a1_4, .int .i64 a1_5, .int .i64 a1_6] 66 (0, 0)) (by (with_reducible repeat (first | refine blk_drewN ?_ _ | refine blk_drew ?_ | refine blk_alloc ?_ _)); exact BK126.out) hb)
            have n1_ := Aside0.mk (below_step (by repeat (first | (with_reducible first | exact HB.out | apply below_alloc | apply pw_below_drewN | apply below_drew1 | refine below_set ?_ GE126.out) | exact HB.out)) hb)
            clear BK126
            clear HB
            have BK126 := n0_
            have HB := n1_
            clear n0_ n1_
            (try clear hb)
            (try clear hb2)
            (try clear hk)
            (try clear hi)
            refine hK.out _ _ ⟨(blk_cell BK126.out 0).trans rfl, (blk_cell BK126.out 1).trans rfl, (blk_cell BK126.out 2).trans rfl, (blk_cell BK126.out 3).trans rfl, (blk_cell BK126.out 4).trans rfl, (blk_cell BK126.out 5).trans rfl, (blk_cell BK126.out 6).trans rfl⟩ (fun hHeld => ?_)
            clear hK K
            refine norm_ (a' := ?_) ?_ ?_
            rotate_left
            · show Act.put _ (some 10) _ = _
              simp only [Act.put, List.setIfInBounds_toArray, List.set_cons_zero, List.set_cons_succ, i64_w, i32_w]
              rfl
            refine one_ (i := 5) (N := some 13) #[true, true, true, true, true, true, true, true, false, false, false, false] rfl rfl (one_of HT_.out (by kernel_rfl)) (by decide) (fun K hK => ?_)
            refine goes_ Tryd.func68 (by kernel_rfl) rfl #[.int .i64 a1_1, .int .i64 2] (by rfl) rfl rfl (by (try simp only [List.map_toArray, List.map_cons, List.map_nil]); first | done | rfl | (simp only [List.length_drop, List.length_take]; rfl)) ?_
            with_reducible refine (moment_pad.calls a1_1 2 t128 _ A4.out).mono ?_
            rintro e w16 ⟨rfl, hb⟩
            refine ⟨_, rfl, ?_⟩
            have n0_ := Aside0.mk (blk_below (g := gb126) (o := .cells #[.int .i64 a1_0, .int .i64 a1_1, .int .i64 a1_2, .int .i64 a1_3, .int .i64 a1_4, .int .i64 a1_5, .int .i64 a1_6] 66 (0, 0)) (by (with_reducible repeat (first | refine blk_drewN ?_ _ | refine blk_drew ?_ | refine blk_alloc ?_ _)); exact BK126.out) hb)
            have n1_ := Aside0.mk (below_step (by repeat (first | (with_reducible first | exact HB.out | apply below_alloc | apply pw_below_drewN | apply below_drew1 | refine below_set ?_ GE126.out) | exact HB.out)) hb)
            clear BK126
            clear HB
            have BK126 := n0_
            have HB := n1_
            clear n0_ n1_
            (try clear hb)
            (try clear hb2)
            (try clear hk)
            (try clear hi)
            refine hK.out _ _ ⟨(blk_cell BK126.out 0).trans rfl, (blk_cell BK126.out 1).trans rfl, (blk_cell BK126.out 2).trans rfl, (blk_cell BK126.out 3).trans rfl, (blk_cell BK126.out 4).trans rfl, (blk_cell BK126.out 5).trans rfl, (blk_cell BK126.out 6).trans rfl⟩ (fun hHeld => ?_)
            clear hK K
            refine norm_ (a' := ?_) ?_ ?_
            rotate_left
            · show Act.put _ (some 13) _ = _
              simp only [Act.put, List.setIfInBounds_toArray, List.set_cons_zero, List.set_cons_succ, i64_w, i32_w]
              rfl
            refine one_ (i := 8) (N := some 16) #[true, true, true, true, true, true, true, true, true, false, false, false] rfl rfl (one_of HT_.out (by kernel_rfl)) (by decide) (fun K hK => ?_)
            refine goes_ Tryd.func68 (by kernel_rfl) rfl #[.int .i64 a1_2, .int .i64 2] (by rfl) rfl rfl (by (try simp only [List.map_toArray, List.map_cons, List.map_nil]); first | done | rfl | (simp only [List.length_drop, List.length_take]; rfl)) ?_
            with_reducible refine (moment_pad.calls a1_2 2 t129 _ A5.out).mono ?_
            rintro e w17 ⟨rfl, hb⟩
            refine ⟨_, rfl, ?_⟩
            have n0_ := Aside0.mk (blk_below (g := gb126) (o := .cells #[.int .i64 a1_0, .int .i64 a1_1, .int .i64 a1_2, .int .i64 a1_3, .int .i64 a1_4, .int .i64 a1_5, .int .i64 a1_6] 66 (0, 0)) (by (with_reducible repeat (first | refine blk_drewN ?_ _ | refine blk_drew ?_ | refine blk_alloc ?_ _)); exact BK126.out) hb)
            have n1_ := Aside0.mk (below_step (by repeat (first | (with_reducible first | exact HB.out | apply below_alloc | apply pw_below_drewN | apply below_drew1 | refine below_set ?_ GE126.out) | exact HB.out)) hb)
            clear BK126
            clear HB
            have BK126 := n0_
            have HB := n1_
            clear n0_ n1_
            (try clear hb)
            (try clear hb2)
            (try clear hk)
            (try clear hi)
            refine hK.out _ _ ⟨(blk_cell BK126.out 0).trans rfl, (blk_cell BK126.out 1).trans rfl, (blk_cell BK126.out 2).trans rfl, (blk_cell BK126.out 3).trans rfl, (blk_cell BK126.out 4).trans rfl, (blk_cell BK126.out 5).trans rfl, (blk_cell BK126.out 6).trans rfl⟩ (fun hHeld => ?_)
            clear hK K
            refine norm_ (a' := ?_) ?_ ?_
            rotate_left
            · show Act.put _ (some 16) _ = _
              simp only [Act.put, List.setIfInBounds_toArray, List.set_cons_zero, List.set_cons_succ, i64_w, i32_w]
              rfl
            refine pure_ (i := 9) (N := some 5) (v := ?_) (a' := ?_) #[true, true, true, true, true, true, true, true, true, true, false, false] rfl rfl (any_of HT_.out (by kernel_rfl)) (fun _ _ _ h => h) (Or.inl ⟨by rfl, ?_⟩) ?_ ?_
            rotate_left
            · intro w'
              go_simp
              with_reducible rfl
            rotate_left
            · simp only [Act.put, List.setIfInBounds_toArray, List.set_cons_zero, List.set_cons_succ, i64_w, i32_w]
              rfl
            refine pure_ (i := 10) (N := some 6) (v := ?_) (a' := ?_) #[true, true, true, true, true, true, true, true, true, true, true, false] rfl rfl (any_of HT_.out (by kernel_rfl)) (fun _ _ _ h => h) (Or.inl ⟨by rfl, ?_⟩) ?_ ?_
            rotate_left
            · intro w'
              go_simp
              with_reducible rfl
            rotate_left
            · simp only [Act.put, List.setIfInBounds_toArray, List.set_cons_zero, List.set_cons_succ, i64_w, i32_w]
              rfl
            refine pure_ (i := 11) (N := some 7) (v := ?_) (a' := ?_) #[true, true, true, true, true, true, true, true, true, true, true, true] rfl rfl (any_of HT_.out (by kernel_rfl)) (fun _ _ _ h => h) (Or.inl ⟨by rfl, ?_⟩) ?_ ?_
            rotate_left
            · intro w'
              go_simp
              with_reducible rfl
            rotate_left
            · simp only [Act.put, List.setIfInBounds_toArray, List.set_cons_zero, List.set_cons_succ, i64_w, i32_w]
              rfl
            refine done_ (done_of HT_.out (by kernel_rfl)) ?_
            try go_wp2
            have n0_ := Aside0.mk (blk_drew BK126.out)
            have n1_ := Aside0.mk (below_drew1 HB.out)
            clear BK126
            clear HB
            have BK126 := n0_
            have HB := n1_
            clear n0_ n1_
            refine start_ (n := 12) (S := fun w' => w'.cell? ⟨gb126, 0, none⟩ = some (.int .i64 a1_0) ∧ w'.cell? ⟨gb126, 1, none⟩ = some (.int .i64 a1_1) ∧ w'.cell? ⟨gb126, 2, none⟩ = some (.int .i64 a1_2) ∧ w'.cell? ⟨gb126, 3, none⟩ = some (.int .i64 a1_3) ∧ w'.cell? ⟨gb126, 4, none⟩ = some (.int .i64 a1_4) ∧ w'.cell? ⟨gb126, 5, none⟩ = some (.int .i64 a1_5) ∧ w'.cell? ⟨gb126, 6, none⟩ = some (.int .i64 a1_6)) (ds := []) #[false, false, false, false, false, false, false, false, false, false, false, false] (by kernel_rfl) rfl rfl ⟨(blk_cell BK126.out 0).trans rfl, (blk_cell BK126.out 1).trans rfl, (blk_cell BK126.out 2).trans rfl, (blk_cell BK126.out 3).trans rfl, (blk_cell BK126.out 4).trans rfl, (blk_cell BK126.out 5).trans rfl, (blk_cell BK126.out 6).trans rfl⟩ (fun hHeld => ?_); refine with_tabW moment_day.tab4 moment_day.bits4 (fun HT_ HW_ => ?_)
            generalize w17.drew = w18 at BK126 HB hHeld ⊢
            refine pure_ (i := 0) (N := some 20) (v := ?_) (a' := ?_) #[true, false, false, false, false, false, false, false, false, false, false, false] rfl rfl (any_of HT_.out (by kernel_rfl)) (fun _ _ _ h => h) (Or.inl ⟨by rfl, ?_⟩) ?_ ?_
            rotate_left
            · intro w'
              go_simp
              with_reducible rfl
            rotate_left
            · simp only [Act.put, List.setIfInBounds_toArray, List.set_cons_zero, List.set_cons_succ, i64_w, i32_w]
              rfl
            refine pure_ (i := 4) (N := some 24) (v := ?_) (a' := ?_) #[true, false, false, false, true, false, false, false, false, false, false, false] rfl rfl (any_of HT_.out (by kernel_rfl)) (fun _ _ _ h => h) (Or.inl ⟨by rfl, ?_⟩) ?_ ?_
            rotate_left
            · intro w'
              go_simp
              with_reducible rfl
            rotate_left
            · simp only [Act.put, List.setIfInBounds_toArray, List.set_cons_zero, List.set_cons_succ, i64_w, i32_w]
              rfl
            refine pure_ (i := 9) (N := some 29) (v := ?_) (a' := ?_) #[true, false, false, false, true, false, false, false, false, true, false, false] rfl rfl (any_of HT_.out (by kernel_rfl)) (fun _ _ _ h => h) (Or.inl ⟨by rfl, ?_⟩) ?_ ?_
            rotate_left
            · intro w'
              go_simp
              with_reducible rfl
            rotate_left
            · simp only [Act.put, List.setIfInBounds_toArray, List.set_cons_zero, List.set_cons_succ, i64_w, i32_w]
              rfl
            refine take_ (i := 1) (N := some 21) (v := ?_) (a' := ?_) #[true, true, false, false, true, false, false, false, false, true, false, false] rfl rfl (take_ofW HT_.out HW_.out (by kernel_rfl)) (fun _ _ _ h => h) (Or.inl ⟨by rfl, ?_⟩) hHeld ?_ ?_
            rotate_left
            · rintro w' ⟨s0, s1, s2, s3, s4, s5, s6⟩
              go_simp
              with_reducible rfl
            rotate_left
            · simp only [Act.put, List.setIfInBounds_toArray, List.set_cons_zero, List.set_cons_succ, i64_w, i32_w]
              rfl
            refine take_ (i := 5) (N := some 25) (v := ?_) (a' := ?_) #[true, true, false, false, true, true, false, false, false, true, false, false] rfl rfl (take_ofW HT_.out HW_.out (by kernel_rfl)) (fun _ _ _ h => h) (Or.inl ⟨by rfl, ?_⟩) hHeld ?_ ?_
            rotate_left
            · rintro w' ⟨s0, s1, s2, s3, s4, s5, s6⟩
              go_simp
              with_reducible rfl
            rotate_left
            · simp only [Act.put, List.setIfInBounds_toArray, List.set_cons_zero, List.set_cons_succ, i64_w, i32_w]
              rfl
            refine one_ (i := 2) (N := some 22) #[true, true, true, false, true, true, false, false, false, true, false, false] rfl rfl (one_of HT_.out (by kernel_rfl)) (by decide) (fun K hK => ?_)
            refine goes_ Tryd.func68 (by kernel_rfl) rfl #[.int .i64 a1_1, .int .i64 1] (by rfl) rfl rfl (by (try simp only [List.map_toArray, List.map_cons, List.map_nil]); first | done | rfl | (simp only [List.length_drop, List.length_take]; rfl)) ?_
            with_reducible refine (moment_pad.calls a1_1 1 t130 _ A7.out).mono ?_
            rintro e w19 ⟨rfl, hb⟩
            refine ⟨_, rfl, ?_⟩
            have n0_ := Aside0.mk (blk_below (g := gb126) (o := .cells #[.int .i64 a1_0, .int .i64 a1_1, .int .i64 a1_2, .int .i64 a1_3, .int .i64 a1_4, .int .i64 a1_5, .int .i64 a1_6] 66 (0, 0)) (by (with_reducible repeat (first | refine blk_drewN ?_ _ | refine blk_drew ?_ | refine blk_alloc ?_ _)); exact BK126.out) hb)
            have n1_ := Aside0.mk (below_step (by repeat (first | (with_reducible first | exact HB.out | apply below_alloc | apply pw_below_drewN | apply below_drew1 | refine below_set ?_ GE126.out) | exact HB.out)) hb)
            clear BK126
            clear HB
            have BK126 := n0_
            have HB := n1_
            clear n0_ n1_
            (try clear hb)
            (try clear hb2)
            (try clear hk)
            (try clear hi)
            refine hK.out _ _ ⟨(blk_cell BK126.out 0).trans rfl, (blk_cell BK126.out 1).trans rfl, (blk_cell BK126.out 2).trans rfl, (blk_cell BK126.out 3).trans rfl, (blk_cell BK126.out 4).trans rfl, (blk_cell BK126.out 5).trans rfl, (blk_cell BK126.out 6).trans rfl⟩ (fun hHeld => ?_)
            clear hK K
            refine norm_ (a' := ?_) ?_ ?_
            rotate_left
            · show Act.put _ (some 22) _ = _
              simp only [Act.put, List.setIfInBounds_toArray, List.set_cons_zero, List.set_cons_succ, i64_w, i32_w]
              rfl
            refine pure_ (i := 3) (N := some 23) (v := ?_) (a' := ?_) #[true, true, true, true, true, true, false, false, false, true, false, false] rfl rfl (any_of HT_.out (by kernel_rfl)) (fun _ _ _ h => h) (Or.inl ⟨by rfl, ?_⟩) ?_ ?_
            rotate_left
            · intro w'
              go_simp
              with_reducible rfl
            rotate_left
            · simp only [Act.put, List.setIfInBounds_toArray, List.set_cons_zero, List.set_cons_succ, i64_w, i32_w]
              rfl
            refine one_ (i := 6) (N := some 26) #[true, true, true, true, true, true, true, false, false, true, false, false] rfl rfl (one_of HT_.out (by kernel_rfl)) (by decide) (fun K hK => ?_)
            refine goes_ Tryd.func68 (by kernel_rfl) rfl #[.int .i64 a1_2, .int .i64 1] (by rfl) rfl rfl (by (try simp only [List.map_toArray, List.map_cons, List.map_nil]); first | done | rfl | (simp only [List.length_drop, List.length_take]; rfl)) ?_
            with_reducible refine (moment_pad.calls a1_2 1 t132 _ A9.out).mono ?_
            rintro e w20 ⟨rfl, hb⟩
            refine ⟨_, rfl, ?_⟩
            have n0_ := Aside0.mk (blk_below (g := gb126) (o := .cells #[.int .i64 a1_0, .int .i64 a1_1, .int .i64 a1_2, .int .i64 a1_3, .int .i64 a1_4, .int .i64 a1_5, .int .i64 a1_6] 66 (0, 0)) (by (with_reducible repeat (first | refine blk_drewN ?_ _ | refine blk_drew ?_ | refine blk_alloc ?_ _)); exact BK126.out) hb)
            have n1_ := Aside0.mk (below_step (by repeat (first | (with_reducible first | exact HB.out | apply below_alloc | apply pw_below_drewN | apply below_drew1 | refine below_set ?_ GE126.out) | exact HB.out)) hb)
            clear BK126
            clear HB
            have BK126 := n0_
            have HB := n1_
            clear n0_ n1_
            (try clear hb)
            (try clear hb2)
            (try clear hk)
            (try clear hi)
            refine hK.out _ _ ⟨(blk_cell BK126.out 0).trans rfl, (blk_cell BK126.out 1).trans rfl, (blk_cell BK126.out 2).trans rfl, (blk_cell BK126.out 3).trans rfl, (blk_cell BK126.out 4).trans rfl, (blk_cell BK126.out 5).trans rfl, (blk_cell BK126.out 6).trans rfl⟩ (fun hHeld => ?_)
            clear hK K
            refine norm_ (a' := ?_) ?_ ?_
            rotate_left
            · show Act.put _ (some 26) _ = _
              simp only [Act.put, List.setIfInBounds_toArray, List.set_cons_zero, List.set_cons_succ, i64_w, i32_w]
              rfl
            refine pure_ (i := 7) (N := some 27) (v := ?_) (a' := ?_) #[true, true, true, true, true, true, true, true, false, true, false, false] rfl rfl (any_of HT_.out (by kernel_rfl)) (fun _ _ _ h => h) (Or.inl ⟨by rfl, ?_⟩) ?_ ?_
            rotate_left
            · intro w'
              go_simp
              with_reducible rfl
            rotate_left
            · simp only [Act.put, List.setIfInBounds_toArray, List.set_cons_zero, List.set_cons_succ, i64_w, i32_w]
              rfl
            refine pure_ (i := 8) (N := some 28) (v := ?_) (a' := ?_) #[true, true, true, true, true, true, true, true, true, true, false, false] rfl rfl (any_of HT_.out (by kernel_rfl)) (fun _ _ _ h => h) (Or.inl ⟨by rfl, ?_⟩) ?_ ?_
            rotate_left
            · intro w'
              go_simp
              with_reducible rfl
            rotate_left
            · simp only [Act.put, List.setIfInBounds_toArray, List.set_cons_zero, List.set_cons_succ, i64_w, i32_w]
              rfl
            refine pure_ (i := 10) (N := some 30) (v := ?_) (a' := ?_) #[true, true, true, true, true, true, true, true, true, true, true, false] rfl rfl (any_of HT_.out (by kernel_rfl)) (fun _ _ _ h => h) (Or.inl ⟨by rfl, ?_⟩) ?_ ?_
            rotate_left
            · intro w'
              go_simp
              with_reducible rfl
            rotate_left
            · simp only [Act.put, List.setIfInBounds_toArray, List.set_cons_zero, List.set_cons_succ, i64_w, i32_w]
              rfl
            refine pure_ (i := 11) (N := some 4) (v := ?_) (a' := ?_) #[true, true, true, true, true, true, true, true, true, true, true, true] rfl rfl (any_of HT_.out (by kernel_rfl)) (fun _ _ _ h => h) (Or.inl ⟨by rfl, ?_⟩) ?_ ?_
            rotate_left
            · intro w'
              go_simp
              with_reducible rfl
            rotate_left
            · simp only [Act.put, List.setIfInBounds_toArray, List.set_cons_zero, List.set_cons_succ, i64_w, i32_w]
              rfl
            refine done_ (done_of HT_.out (by kernel_rfl)) ?_
            try go_wp2
            go_ret
            exact ⟨by first | rfl | (simp [errW_none, errW_some] <;> rfl) | (simp [*, errW_none, errW_some] <;> rfl), by repeat (first | (with_reducible first | exact HB.out | apply below_alloc | apply pw_below_drewN | apply below_drew1 | refine below_set ?_ GE126.out) | exact HB.out)⟩
          · rw [if_neg c12] at H
            exact absurd H (by simp)
        · rw [if_neg c11] at H
          exact absurd H (by simp)
      · rw [if_neg c10] at H
        exact absurd H (by simp)
    · rw [if_neg c8] at H
      exact absurd H (by simp)
  · rw [if_neg c6] at H
    have c6b0 : (a0.toList == ([101, 110] : List UInt8)) = false := beq_eq_false_iff_ne.mpr c6
    have c6b1 : (a0.toList != ([101, 110] : List UInt8)) = true := bne_iff_ne.mpr c6
    have HC21 := Aside0.mk H
    clear H
    go_enter Tryd.func50, Tryd.ntmps50
    try go_wp2_with (first | ((with_reducible refine gate_dst (N := 3) rfl ?_); refine box_event ?hg (N := 3) ?hd (cs := #[.int .i64 a1_0, .int .i64 a1_1, .int .i64 a1_2, .int .i64 a1_3, .int .i64 a1_4, .int .i64 a1_5, .int .i64 a1_6]) (t := 66) ?hr ?_; (case hd => rfl); (case hg => rfl); (case hr => first | (go_simp; done) | (go_simp; rfl)); intro gb126 hg w22 hbox hb; have n0_ := Aside0.mk (below_step (by repeat (first | (with_reducible first | exact HB.out | apply below_alloc | apply pw_below_drewN | apply below_drew1) | exact HB.out)) hb); have n1_ := Aside0.mk (hbox); have n2_ := Aside0.mk ((by rw [hg]; exact (below_size (by repeat (first | (with_reducible first | exact HB.out | apply below_alloc | apply pw_below_drewN | apply below_drew1) | exact HB.out))) : w.heap.size ≤ gb126)); have n3_ := Aside0.mk ((by rw [hg]; exact (below_size (by repeat (first | (with_reducible first | exact HB.out | apply below_alloc | apply pw_below_drewN | apply below_drew1) | exact HB.out))) : w.heap.size ≤ gb126)); clear HB; have HB := n0_; have BK126 := n1_; have GW126 := n2_; have GE126 := n3_; clear n0_ n1_ n2_ n3_; clear hb hbox hg))
    have n0_ := Aside0.mk (blk_drew BK126.out)
    have n1_ := Aside0.mk (below_drew1 HB.out)
    clear BK126
    clear HB
    have BK126 := n0_
    have HB := n1_
    clear n0_ n1_
    refine start_ (n := 12) (S := fun w' => w'.cell? ⟨gb126, 0, none⟩ = some (.int .i64 a1_0) ∧ w'.cell? ⟨gb126, 1, none⟩ = some (.int .i64 a1_1) ∧ w'.cell? ⟨gb126, 2, none⟩ = some (.int .i64 a1_2) ∧ w'.cell? ⟨gb126, 3, none⟩ = some (.int .i64 a1_3) ∧ w'.cell? ⟨gb126, 4, none⟩ = some (.int .i64 a1_4) ∧ w'.cell? ⟨gb126, 5, none⟩ = some (.int .i64 a1_5) ∧ w'.cell? ⟨gb126, 6, none⟩ = some (.int .i64 a1_6)) (ds := []) #[false, false, false, false, false, false, false, false, false, false, false, false] (by kernel_rfl) rfl rfl ⟨(blk_cell BK126.out 0).trans rfl, (blk_cell BK126.out 1).trans rfl, (blk_cell BK126.out 2).trans rfl, (blk_cell BK126.out 3).trans rfl, (blk_cell BK126.out 4).trans rfl, (blk_cell BK126.out 5).trans rfl, (blk_cell BK126.out 6).trans rfl⟩ (fun hHeld => ?_); refine with_tabW moment_day.tab1 moment_day.bits1 (fun HT_ HW_ => ?_)
    generalize w22.drew = w23 at BK126 HB hHeld ⊢
    refine pure_ (i := 0) (N := some 8) (v := ?_) (a' := ?_) #[true, false, false, false, false, false, false, false, false, false, false, false] rfl rfl (any_of HT_.out (by kernel_rfl)) (fun _ _ _ h => h) (Or.inl ⟨by rfl, ?_⟩) ?_ ?_
    rotate_left
    · intro w'
      go_simp
      with_reducible rfl
    rotate_left
    · simp only [Act.put, List.setIfInBounds_toArray, List.set_cons_zero, List.set_cons_succ, i64_w, i32_w]
      rfl
    refine pure_ (i := 3) (N := some 11) (v := ?_) (a' := ?_) #[true, false, false, true, false, false, false, false, false, false, false, false] rfl rfl (any_of HT_.out (by kernel_rfl)) (fun _ _ _ h => h) (Or.inl ⟨by rfl, ?_⟩) ?_ ?_
    rotate_left
    · intro w'
      go_simp
      with_reducible rfl
    rotate_left
    · simp only [Act.put, List.setIfInBounds_toArray, List.set_cons_zero, List.set_cons_succ, i64_w, i32_w]
      rfl
    refine pure_ (i := 6) (N := some 14) (v := ?_) (a' := ?_) #[true, false, false, true, false, false, true, false, false, false, false, false] rfl rfl (any_of HT_.out (by kernel_rfl)) (fun _ _ _ h => h) (Or.inl ⟨by rfl, ?_⟩) ?_ ?_
    rotate_left
    · intro w'
      go_simp
      with_reducible rfl
    rotate_left
    · simp only [Act.put, List.setIfInBounds_toArray, List.set_cons_zero, List.set_cons_succ, i64_w, i32_w]
      rfl
    refine take_ (i := 1) (N := some 9) (v := ?_) (a' := ?_) #[true, true, false, true, false, false, true, false, false, false, false, false] rfl rfl (take_ofW HT_.out HW_.out (by kernel_rfl)) (fun _ _ _ h => h) (Or.inl ⟨by rfl, ?_⟩) hHeld ?_ ?_
    rotate_left
    · rintro w' ⟨s0, s1, s2, s3, s4, s5, s6⟩
      go_simp
      with_reducible rfl
    rotate_left
    · simp only [Act.put, List.setIfInBounds_toArray, List.set_cons_zero, List.set_cons_succ, i64_w, i32_w]
      rfl
    refine take_ (i := 4) (N := some 12) (v := ?_) (a' := ?_) #[true, true, false, true, true, false, true, false, false, false, false, false] rfl rfl (take_ofW HT_.out HW_.out (by kernel_rfl)) (fun _ _ _ h => h) (Or.inl ⟨by rfl, ?_⟩) hHeld ?_ ?_
    rotate_left
    · rintro w' ⟨s0, s1, s2, s3, s4, s5, s6⟩
      go_simp
      with_reducible rfl
    rotate_left
    · simp only [Act.put, List.setIfInBounds_toArray, List.set_cons_zero, List.set_cons_succ, i64_w, i32_w]
      rfl
    refine take_ (i := 7) (N := some 15) (v := ?_) (a' := ?_) #[true, true, false, true, true, false, true, true, false, false, false, false] rfl rfl (take_ofW HT_.out HW_.out (by kernel_rfl)) (fun _ _ _ h => h) (Or.inl ⟨by rfl, ?_⟩) hHeld ?_ ?_
    rotate_left
    · rintro w' ⟨s0, s1, s2, s3, s4, s5, s6⟩
      go_simp
      with_reducible rfl
    rotate_left
    · simp only [Act.put, List.setIfInBounds_toArray, List.set_cons_zero, List.set_cons_succ, i64_w, i32_w]
      rfl
    refine one_ (i := 2) (N := some 10) #[true, true, true, true, true, false, true, true, false, false, false, false] rfl rfl (one_of HT_.out (by kernel_rfl)) (by decide) (fun K hK => ?_)
    refine goes_ Tryd.func68 (by kernel_rfl) rfl #[.int .i64 a1_0, .int .i64 4] (by rfl) rfl rfl (by (try simp only [List.map_toArray, List.map_cons, List.map_nil]); first | done | rfl | (simp only [List.length_drop, List.length_take]; rfl)) ?_
    with_reducible refine (moment_pad.calls a1_0 4 t127 _ A3.out).mono ?_
    rintro e w24 ⟨rfl, hb⟩
    refine ⟨_, rfl, ?_⟩
    have n0_ := Aside0.mk (blk_below (g := gb126) (o := .cells #[.int .i64 a1_0, .int .i64 a1_1, .int .i64 a1_2, .int .i64 a1_3, .int .i64 a1_4, .int .i64 a1_5, .int .i64 a1_6] 66 (0, 0)) (by (with_reducible repeat (first | refine blk_drewN ?_ _ | refine blk_drew ?_ | refine blk_alloc ?_ _)); exact BK126.out) hb)
    have n1_ := Aside0.mk (below_step (by repeat (first | (with_reducible first | exact HB.out | apply below_alloc | apply pw_below_drewN | apply below_drew1 | refine below_set ?_ GE126.out) | exact HB.out)) hb)
    clear BK126
    clear HB
    have BK126 := n0_
    have HB := n1_
    clear n0_ n1_
    (try clear hb)
    (try clear hb2)
    (try clear hk)
    (try clear hi)
    refine hK.out _ _ ⟨(blk_cell BK126.out 0).trans rfl, (blk_cell BK126.out 1).trans rfl, (blk_cell BK126.out 2).trans rfl, (blk_cell BK126.out 3).trans rfl, (blk_cell BK126.out 4).trans rfl, (blk_cell BK126.out 5).trans rfl, (blk_cell BK126.out 6).trans rfl⟩ (fun hHeld => ?_)
    clear hK K
    refine norm_ (a' := ?_) ?_ ?_
    rotate_left
    · show Act.put _ (some 10) _ = _
      simp only [Act.put, List.setIfInBounds_toArray, List.set_cons_zero, List.set_cons_succ, i64_w, i32_w]
      rfl
    refine one_ (i := 5) (N := some 13) #[true, true, true, true, true, true, true, true, false, false, false, false] rfl rfl (one_of HT_.out (by kernel_rfl)) (by decide) (fun K hK => ?_)
    refine goes_ Tryd.func68 (by kernel_rfl) rfl #[.int .i64 a1_1, .int .i64 2] (by rfl) rfl rfl (by (try simp only [List.map_toArray, List.map_cons, List.map_nil]); first | done | rfl | (simp only [List.length_drop, List.length_take]; rfl)) ?_
    with_reducible refine (moment_pad.calls a1_1 2 t128 _ A4.out).mono ?_
    rintro e w25 ⟨rfl, hb⟩
    refine ⟨_, rfl, ?_⟩
    have n0_ := Aside0.mk (blk_below (g := gb126) (o := .cells #[.int .i64 a1_0, .int .i64 a1_1, .int .i64 a1_2, .int .i64 a1_3, .int .i64 a1_4, .int .i64 a1_5, .int .i64 a1_6] 66 (0, 0)) (by (with_reducible repeat (first | refine blk_drewN ?_ _ | refine blk_drew ?_ | refine blk_alloc ?_ _)); exact BK126.out) hb)
    have n1_ := Aside0.mk (below_step (by repeat (first | (with_reducible first | exact HB.out | apply below_alloc | apply pw_below_drewN | apply below_drew1 | refine below_set ?_ GE126.out) | exact HB.out)) hb)
    clear BK126
    clear HB
    have BK126 := n0_
    have HB := n1_
    clear n0_ n1_
    (try clear hb)
    (try clear hb2)
    (try clear hk)
    (try clear hi)
    refine hK.out _ _ ⟨(blk_cell BK126.out 0).trans rfl, (blk_cell BK126.out 1).trans rfl, (blk_cell BK126.out 2).trans rfl, (blk_cell BK126.out 3).trans rfl, (blk_cell BK126.out 4).trans rfl, (blk_cell BK126.out 5).trans rfl, (blk_cell BK126.out 6).trans rfl⟩ (fun hHeld => ?_)
    clear hK K
    refine norm_ (a' := ?_) ?_ ?_
    rotate_left
    · show Act.put _ (some 13) _ = _
      simp only [Act.put, List.setIfInBounds_toArray, List.set_cons_zero, List.set_cons_succ, i64_w, i32_w]
      rfl
    refine one_ (i := 8) (N := some 16) #[true, true, true, true, true, true, true, true, true, false, false, false] rfl rfl (one_of HT_.out (by kernel_rfl)) (by decide) (fun K hK => ?_)
    refine goes_ Tryd.func68 (by kernel_rfl) rfl #[.int .i64 a1_2, .int .i64 2] (by rfl) rfl rfl (by (try simp only [List.map_toArray, List.map_cons, List.map_nil]); first | done | rfl | (simp only [List.length_drop, List.length_take]; rfl)) ?_
    with_reducible refine (moment_pad.calls a1_2 2 t129 _ A5.out).mono ?_
    rintro e w26 ⟨rfl, hb⟩
    refine ⟨_, rfl, ?_⟩
    have n0_ := Aside0.mk (blk_below (g := gb126) (o := .cells #[.int .i64 a1_0, .int .i64 a1_1, .int .i64 a1_2, .int .i64 a1_3, .int .i64 a1_4, .int .i64 a1_5, .int .i64 a1_6] 66 (0, 0)) (by (with_reducible repeat (first | refine blk_drewN ?_ _ | refine blk_drew ?_ | refine blk_alloc ?_ _)); exact BK126.out) hb)
    have n1_ := Aside0.mk (below_step (by repeat (first | (with_reducible first | exact HB.out | apply below_alloc | apply pw_below_drewN | apply below_drew1 | refine below_set ?_ GE126.out) | exact HB.out)) hb)
    clear BK126
    clear HB
    have BK126 := n0_
    have HB := n1_
    clear n0_ n1_
    (try clear hb)
    (try clear hb2)
    (try clear hk)
    (try clear hi)
    refine hK.out _ _ ⟨(blk_cell BK126.out 0).trans rfl, (blk_cell BK126.out 1).trans rfl, (blk_cell BK126.out 2).trans rfl, (blk_cell BK126.out 3).trans rfl, (blk_cell BK126.out 4).trans rfl, (blk_cell BK126.out 5).trans rfl, (blk_cell BK126.out 6).trans rfl⟩ (fun hHeld => ?_)
    clear hK K
    refine norm_ (a' := ?_) ?_ ?_
    rotate_left
    · show Act.put _ (some 16) _ = _
      simp only [Act.put, List.setIfInBounds_toArray, List.set_cons_zero, List.set_cons_succ, i64_w, i32_w]
      rfl
    refine pure_ (i := 9) (N := some 5) (v := ?_) (a' := ?_) #[true, true, true, true, true, true, true, true, true, true, false, false] rfl rfl (any_of HT_.out (by kernel_rfl)) (fun _ _ _ h => h) (Or.inl ⟨by rfl, ?_⟩) ?_ ?_
    rotate_left
    · intro w'
      go_simp
      with_reducible rfl
    rotate_left
    · simp only [Act.put, List.setIfInBounds_toArray, List.set_cons_zero, List.set_cons_succ, i64_w, i32_w]
      rfl
    refine pure_ (i := 10) (N := some 6) (v := ?_) (a' := ?_) #[true, true, true, true, true, true, true, true, true, true, true, false] rfl rfl (any_of HT_.out (by kernel_rfl)) (fun _ _ _ h => h) (Or.inl ⟨by rfl, ?_⟩) ?_ ?_
    rotate_left
    · intro w'
      go_simp
      with_reducible rfl
    rotate_left
    · simp only [Act.put, List.setIfInBounds_toArray, List.set_cons_zero, List.set_cons_succ, i64_w, i32_w]
      rfl
    refine pure_ (i := 11) (N := some 7) (v := ?_) (a' := ?_) #[true, true, true, true, true, true, true, true, true, true, true, true] rfl rfl (any_of HT_.out (by kernel_rfl)) (fun _ _ _ h => h) (Or.inl ⟨by rfl, ?_⟩) ?_ ?_
    rotate_left
    · intro w'
      go_simp
      with_reducible rfl
    rotate_left
    · simp only [Act.put, List.setIfInBounds_toArray, List.set_cons_zero, List.set_cons_succ, i64_w, i32_w]
      rfl
    refine done_ (done_of HT_.out (by kernel_rfl)) ?_
    go_upto_if 31 with (fail)
    go_cut [31] (fun v31 wc => ∃ (kq : Nat) (x31_20 : Bool), v31 = .bool x31_20 ∧ Aside0 (moment_day.j0 kq t127 t128 t129 a0 x31_20 = some r) ∧ Aside0 (kq ≤ k) ∧ Aside0 (wc.heap[gb126]? = some (.cells #[.int .i64 a1_0, .int .i64 a1_1, .int .i64 a1_2, .int .i64 a1_3, .int .i64 a1_4, .int .i64 a1_5, .int .i64 a1_6] 66 (0, 0))) ∧ Aside0 (Below w.heap.size w wc))
    case first =>
      have H := HC21.out
      clear HC21
      by_cases c27 : a0.toList = ([100, 101] : List UInt8)
      · rw [if_pos c27] at H
        have c27b0 : (a0.toList == ([100, 101] : List UInt8)) = true := beq_iff_eq.mpr c27
        have c27b1 : (a0.toList != ([100, 101] : List UInt8)) = false := bne_eq_false_iff_eq.mpr c27
        clear c27
        (first | rw [c27b0] | (simp only [i64_w, i32_w]; rw [c27b0]) | skip)
        have H' := Aside0.mk H
        clear H
        go_wp2
        go_meet
        case rel => exact ⟨_, ((a0.toList == ([100, 101] : List UInt8))), (by first | rfl | (simp; done) | (simp [*]; done)), H', ⟨by first | omega | exact Nat.le_refl _⟩, ⟨by (with_reducible repeat (first | refine blk_drewN ?_ _ | refine blk_drew ?_ | refine blk_alloc ?_ _)); exact BK126.out⟩, ⟨by repeat (first | (with_reducible first | exact HB.out | apply below_alloc | apply pw_below_drewN | apply below_drew1 | refine below_set ?_ GE126.out) | exact HB.out)⟩⟩
      · rw [if_neg c27] at H
        have c27b0 : (a0.toList == ([100, 101] : List UInt8)) = false := beq_eq_false_iff_ne.mpr c27
        have c27b1 : (a0.toList != ([100, 101] : List UInt8)) = true := bne_iff_ne.mpr c27
        (first | rw [c27b0] | (simp only [i64_w, i32_w]; rw [c27b0]) | skip)
        by_cases c28 : a0.toList = ([99, 115] : List UInt8)
        · rw [if_pos c28] at H
          have c28b0 : (a0.toList == ([99, 115] : List UInt8)) = true := beq_iff_eq.mpr c28
          have c28b1 : (a0.toList != ([99, 115] : List UInt8)) = false := bne_eq_false_iff_eq.mpr c28
          clear c28
          have H' := Aside0.mk H
          clear H
          go_wp2
          go_meet
          case rel => exact ⟨_, ((a0.toList == ([99, 115] : List UInt8))), (by first | rfl | (simp; done) | (simp [*]; done)), H', ⟨by first | omega | exact Nat.le_refl _⟩, ⟨by (with_reducible repeat (first | refine blk_drewN ?_ _ | refine blk_drew ?_ | refine blk_alloc ?_ _)); exact BK126.out⟩, ⟨by repeat (first | (with_reducible first | exact HB.out | apply below_alloc | apply pw_below_drewN | apply below_drew1 | refine below_set ?_ GE126.out) | exact HB.out)⟩⟩
        · rw [if_neg c28] at H
          have c28b0 : (a0.toList == ([99, 115] : List UInt8)) = false := beq_eq_false_iff_ne.mpr c28
          have c28b1 : (a0.toList != ([99, 115] : List UInt8)) = true := bne_iff_ne.mpr c28
          by_cases c29 : a0.toList = ([112, 108] : List UInt8)
          · rw [if_pos c29] at H
            have c29b0 : (a0.toList == ([112, 108] : List UInt8)) = true := beq_iff_eq.mpr c29
            have c29b1 : (a0.toList != ([112, 108] : List UInt8)) = false := bne_eq_false_iff_eq.mpr c29
            clear c29
            have H' := Aside0.mk H
            clear H
            go_wp2
            go_meet
            case rel => exact ⟨_, ((a0.toList == ([112, 108] : List UInt8))), (by first | rfl | (simp; done) | (simp [*]; done)), H', ⟨by first | omega | exact Nat.le_refl _⟩, ⟨by (with_reducible repeat (first | refine blk_drewN ?_ _ | refine blk_drew ?_ | refine blk_alloc ?_ _)); exact BK126.out⟩, ⟨by repeat (first | (with_reducible first | exact HB.out | apply below_alloc | apply pw_below_drewN | apply below_drew1 | refine below_set ?_ GE126.out) | exact HB.out)⟩⟩
          · rw [if_neg c29] at H
            have c29b0 : (a0.toList == ([112, 108] : List UInt8)) = false := beq_eq_false_iff_ne.mpr c29
            have c29b1 : (a0.toList != ([112, 108] : List UInt8)) = true := bne_iff_ne.mpr c29
            have H' := Aside0.mk H
            clear H
            go_wp2
            go_meet
            case rel => exact ⟨_, ((a0.toList == ([114, 117] : List UInt8))), (by first | rfl | (simp; done) | (simp [*]; done)), H', ⟨by first | omega | exact Nat.le_refl _⟩, ⟨by (with_reducible repeat (first | refine blk_drewN ?_ _ | refine blk_drew ?_ | refine blk_alloc ?_ _)); exact BK126.out⟩, ⟨by repeat (first | (with_reducible first | exact HB.out | apply below_alloc | apply pw_below_drewN | apply below_drew1 | refine below_set ?_ GE126.out) | exact HB.out)⟩⟩
    case rest =>
      clear HC21
      try clear c1
      try clear c2
      try clear p2
      try clear c5
      try clear c6
      try clear c6b0
      try clear c6b1
      try clear c8
      try clear c8b0
      try clear c8b1
      try clear c8b2
      try clear c10
      try clear c10b0
      try clear c10b1
      try clear c10b2
      try clear c11
      try clear c11b0
      try clear c11b1
      try clear c11b2
      try clear c12
      try clear c12b0
      try clear c12b1
      try clear c12b2
      try clear c27
      try clear c27b0
      try clear c27b1
      try clear c28
      try clear c28b0
      try clear c28b1
      try clear c29
      try clear c29b0
      try clear c29b1
      obtain ⟨kq, x31_20, rfl, HA, HJ20, BK126, HB⟩ := hcut
      cases kq with
      | zero => exact absurd HA.out (by simp [moment_day.j0])
      | succ kj20 =>
        have H := HA.out
        clear HA
        simp only [moment_day.j0] at H
        by_cases c30 : x31_20 = true
        · subst c30
          have H1 : (if t129.size + 1 ≤ 9223372036854775807 then ((some (t129 ++ (⟨#[46]⟩ : ByteArray) : ByteArray)).bind fun y136 => (if y136.size + t128.size ≤ 9223372036854775807 then ((some (y136 ++ t128 : ByteArray)).bind fun y137 => (if y137.size + 1 ≤ 9223372036854775807 then ((some (y137 ++ (⟨#[46]⟩ : ByteArray) : ByteArray)).bind fun y138 => (if y138.size + t127.size ≤ 9223372036854775807 then ((some (y138 ++ t127 : ByteArray)).bind fun y139 => (some y139)) else (none))) else (none))) else (none))) else (none)) = some r := by rw [if_pos rfl] at H; exact H
          clear H
          have H := H1
          clear H1
          by_cases c31 : t129.size + 1 ≤ 9223372036854775807
          · rw [if_pos c31] at H
            have c31b0 := eq_true c31
            have c31b1 : decide (t129.size + 1 ≤ 9223372036854775807) = true := decide_eq_true c31
            try have c31b2 : (9223372036854775807 < t129.size + 1) = False := eq_false (Nat.not_lt.2 c31)
            replace H := Option.bind_eq_some_iff.mp H
            obtain ⟨y136, hy1360, H⟩ := H
            replace H : (if y136.size + t128.size ≤ 9223372036854775807 then ((some (y136 ++ t128 : ByteArray)).bind fun y137 => (if y137.size + 1 ≤ 9223372036854775807 then ((some (y137 ++ (⟨#[46]⟩ : ByteArray) : ByteArray)).bind fun y138 => (if y138.size + t127.size ≤ 9223372036854775807 then ((some (y138 ++ t127 : ByteArray)).bind fun y139 => (some y139)) else (none))) else (none))) else (none)) = some r := H
            have hy136 : t129 ++ (⟨#[46]⟩ : ByteArray) = y136 := Option.some.inj hy1360
            clear hy1360
            by_cases c32 : y136.size + t128.size ≤ 9223372036854775807
            · rw [if_pos c32] at H
              have c32b0 := eq_true c32
              have c32b1 : decide (y136.size + t128.size ≤ 9223372036854775807) = true := decide_eq_true c32
              try have c32b2 : (9223372036854775807 < y136.size + t128.size) = False := eq_false (Nat.not_lt.2 c32)
              replace H := Option.bind_eq_some_iff.mp H
              obtain ⟨y137, hy1370, H⟩ := H
              replace H : (if y137.size + 1 ≤ 9223372036854775807 then ((some (y137 ++ (⟨#[46]⟩ : ByteArray) : ByteArray)).bind fun y138 => (if y138.size + t127.size ≤ 9223372036854775807 then ((some (y138 ++ t127 : ByteArray)).bind fun y139 => (some y139)) else (none))) else (none)) = some r := H
              have hy137 : y136 ++ t128 = y137 := Option.some.inj hy1370
              clear hy1370
              by_cases c33 : y137.size + 1 ≤ 9223372036854775807
              · rw [if_pos c33] at H
                have c33b0 := eq_true c33
                have c33b1 : decide (y137.size + 1 ≤ 9223372036854775807) = true := decide_eq_true c33
                try have c33b2 : (9223372036854775807 < y137.size + 1) = False := eq_false (Nat.not_lt.2 c33)
                replace H := Option.bind_eq_some_iff.mp H
                obtain ⟨y138, hy1380, H⟩ := H
                replace H : (if y138.size + t127.size ≤ 9223372036854775807 then ((some (y138 ++ t127 : ByteArray)).bind fun y139 => (some y139)) else (none)) = some r := H
                have hy138 : y137 ++ (⟨#[46]⟩ : ByteArray) = y138 := Option.some.inj hy1380
                clear hy1380
                by_cases c34 : y138.size + t127.size ≤ 9223372036854775807
                · rw [if_pos c34] at H
                  have c34b0 := eq_true c34
                  have c34b1 : decide (y138.size + t127.size ≤ 9223372036854775807) = true := decide_eq_true c34
                  try have c34b2 : (9223372036854775807 < y138.size + t127.size) = False := eq_false (Nat.not_lt.2 c34)
                  replace H := Option.bind_eq_some_iff.mp H
                  obtain ⟨y139, hy1390, H⟩ := H
                  replace H : (some y139) = some r := H
                  have hy139 : y138 ++ t127 = y139 := Option.some.inj hy1390
                  clear hy1390
                  obtain rfl := Option.some.inj H
                  go_wp2
                  go_ret
                  exact ⟨by first | rfl | (simp [errW_none, errW_some] <;> rfl) | (simp [*, errW_none, errW_some] <;> rfl), by repeat (first | (with_reducible first | exact HB.out | apply below_alloc | apply pw_below_drewN | apply below_drew1 | refine below_set ?_ GE126.out) | exact HB.out)⟩
                · rw [if_neg c34] at H
                  exact absurd H (by simp)
              · rw [if_neg c33] at H
                exact absurd H (by simp)
            · rw [if_neg c32] at H
              exact absurd H (by simp)
          · rw [if_neg c31] at H
            exact absurd H (by simp)
        · replace c30 := Bool.eq_false_iff.mpr c30
          subst c30
          have H1 : (if a0.toList = ([102, 114] : List UInt8) then (if t129.size + 1 ≤ 9223372036854775807 then ((some (t129 ++ (⟨#[47]⟩ : ByteArray) : ByteArray)).bind fun y140 => (if y140.size + t128.size ≤ 9223372036854775807 then ((some (y140 ++ t128 : ByteArray)).bind fun y141 => (if y141.size + 1 ≤ 9223372036854775807 then ((some (y141 ++ (⟨#[47]⟩ : ByteArray) : ByteArray)).bind fun y142 => (if y142.size + t127.size ≤ 9223372036854775807 then ((some (y142 ++ t127 : ByteArray)).bind fun y143 => (some y143)) else (none))) else (none))) else (none))) else (none)) else (if a0.toList = ([101, 115] : List UInt8) then (if t129.size + 1 ≤ 9223372036854775807 then ((some (t129 ++ (⟨#[47]⟩ : ByteArray) : ByteArray)).bind fun y144 => (if y144.size + t128.size ≤ 9223372036854775807 then ((some (y144 ++ t128 : ByteArray)).bind fun y145 => (if y145.size + 1 ≤ 9223372036854775807 then ((some (y145 ++ (⟨#[47]⟩ : ByteArray) : ByteArray)).bind fun y146 => (if y146.size + t127.size ≤ 9223372036854775807 then ((some (y146 ++ t127 : ByteArray)).bind fun y147 => (some y147)) else (none))) else (none))) else (none))) else (none)) else (if t127.size + 1 ≤ 9223372036854775807 then ((some (t127 ++ (⟨#[45]⟩ : ByteArray) : ByteArray)).bind fun y148 => (if y148.size + t128.size ≤ 9223372036854775807 then ((some (y148 ++ t128 : ByteArray)).bind fun y149 => (if y149.size + 1 ≤ 9223372036854775807 then ((some (y149 ++ (⟨#[45]⟩ : ByteArray) : ByteArray)).bind fun y150 => (if y150.size + t129.size ≤ 9223372036854775807 then ((some (y150 ++ t129 : ByteArray)).bind fun y151 => (some y151)) else (none))) else (none))) else (none))) else (none)))) = some r := by rw [if_neg (show ¬ (false = true) by decide)] at H; exact H
          clear H
          have H := H1
          clear H1
          by_cases c35 : a0.toList = ([102, 114] : List UInt8)
          · rw [if_pos c35] at H
            have c35b0 : (a0.toList == ([102, 114] : List UInt8)) = true := beq_iff_eq.mpr c35
            have c35b1 : (a0.toList != ([102, 114] : List UInt8)) = false := bne_eq_false_iff_eq.mpr c35
            clear c35
            by_cases c36 : t129.size + 1 ≤ 9223372036854775807
            · rw [if_pos c36] at H
              have c36b0 := eq_true c36
              have c36b1 : decide (t129.size + 1 ≤ 9223372036854775807) = true := decide_eq_true c36
              try have c36b2 : (9223372036854775807 < t129.size + 1) = False := eq_false (Nat.not_lt.2 c36)
              replace H := Option.bind_eq_some_iff.mp H
              obtain ⟨y140, hy1400, H⟩ := H
              replace H : (if y140.size + t128.size ≤ 9223372036854775807 then ((some (y140 ++ t128 : ByteArray)).bind fun y141 => (if y141.size + 1 ≤ 9223372036854775807 then ((some (y141 ++ (⟨#[47]⟩ : ByteArray) : ByteArray)).bind fun y142 => (if y142.size + t127.size ≤ 9223372036854775807 then ((some (y142 ++ t127 : ByteArray)).bind fun y143 => (some y143)) else (none))) else (none))) else (none)) = some r := H
              have hy140 : t129 ++ (⟨#[47]⟩ : ByteArray) = y140 := Option.some.inj hy1400
              clear hy1400
              by_cases c37 : y140.size + t128.size ≤ 9223372036854775807
              · rw [if_pos c37] at H
                have c37b0 := eq_true c37
                have c37b1 : decide (y140.size + t128.size ≤ 9223372036854775807) = true := decide_eq_true c37
                try have c37b2 : (9223372036854775807 < y140.size + t128.size) = False := eq_false (Nat.not_lt.2 c37)
                replace H := Option.bind_eq_some_iff.mp H
                obtain ⟨y141, hy1410, H⟩ := H
                replace H : (if y141.size + 1 ≤ 9223372036854775807 then ((some (y141 ++ (⟨#[47]⟩ : ByteArray) : ByteArray)).bind fun y142 => (if y142.size + t127.size ≤ 9223372036854775807 then ((some (y142 ++ t127 : ByteArray)).bind fun y143 => (some y143)) else (none))) else (none)) = some r := H
                have hy141 : y140 ++ t128 = y141 := Option.some.inj hy1410
                clear hy1410
                by_cases c38 : y141.size + 1 ≤ 9223372036854775807
                · rw [if_pos c38] at H
                  have c38b0 := eq_true c38
                  have c38b1 : decide (y141.size + 1 ≤ 9223372036854775807) = true := decide_eq_true c38
                  try have c38b2 : (9223372036854775807 < y141.size + 1) = False := eq_false (Nat.not_lt.2 c38)
                  replace H := Option.bind_eq_some_iff.mp H
                  obtain ⟨y142, hy1420, H⟩ := H
                  replace H : (if y142.size + t127.size ≤ 9223372036854775807 then ((some (y142 ++ t127 : ByteArray)).bind fun y143 => (some y143)) else (none)) = some r := H
                  have hy142 : y141 ++ (⟨#[47]⟩ : ByteArray) = y142 := Option.some.inj hy1420
                  clear hy1420
                  by_cases c39 : y142.size + t127.size ≤ 9223372036854775807
                  · rw [if_pos c39] at H
                    have c39b0 := eq_true c39
                    have c39b1 : decide (y142.size + t127.size ≤ 9223372036854775807) = true := decide_eq_true c39
                    try have c39b2 : (9223372036854775807 < y142.size + t127.size) = False := eq_false (Nat.not_lt.2 c39)
                    replace H := Option.bind_eq_some_iff.mp H
                    obtain ⟨y143, hy1430, H⟩ := H
                    replace H : (some y143) = some r := H
                    have hy143 : y142 ++ t127 = y143 := Option.some.inj hy1430
                    clear hy1430
                    obtain rfl := Option.some.inj H
                    go_wp2
                    go_ret
                    exact ⟨by first | rfl | (simp [errW_none, errW_some] <;> rfl) | (simp [*, errW_none, errW_some] <;> rfl), by repeat (first | (with_reducible first | exact HB.out | apply below_alloc | apply pw_below_drewN | apply below_drew1 | refine below_set ?_ GE126.out) | exact HB.out)⟩
                  · rw [if_neg c39] at H
                    exact absurd H (by simp)
                · rw [if_neg c38] at H
                  exact absurd H (by simp)
              · rw [if_neg c37] at H
                exact absurd H (by simp)
            · rw [if_neg c36] at H
              exact absurd H (by simp)
          · rw [if_neg c35] at H
            have c35b0 : (a0.toList == ([102, 114] : List UInt8)) = false := beq_eq_false_iff_ne.mpr c35
            have c35b1 : (a0.toList != ([102, 114] : List UInt8)) = true := bne_iff_ne.mpr c35
            by_cases c40 : a0.toList = ([101, 115] : List UInt8)
            · rw [if_pos c40] at H
              have c40b0 : (a0.toList == ([101, 115] : List UInt8)) = true := beq_iff_eq.mpr c40
              have c40b1 : (a0.toList != ([101, 115] : List UInt8)) = false := bne_eq_false_iff_eq.mpr c40
              clear c40
              by_cases c41 : t129.size + 1 ≤ 9223372036854775807
              · rw [if_pos c41] at H
                have c41b0 := eq_true c41
                have c41b1 : decide (t129.size + 1 ≤ 9223372036854775807) = true := decide_eq_true c41
                try have c41b2 : (9223372036854775807 < t129.size + 1) = False := eq_false (Nat.not_lt.2 c41)
                replace H := Option.bind_eq_some_iff.mp H
                obtain ⟨y144, hy1440, H⟩ := H
                replace H : (if y144.size + t128.size ≤ 9223372036854775807 then ((some (y144 ++ t128 : ByteArray)).bind fun y145 => (if y145.size + 1 ≤ 9223372036854775807 then ((some (y145 ++ (⟨#[47]⟩ : ByteArray) : ByteArray)).bind fun y146 => (if y146.size + t127.size ≤ 9223372036854775807 then ((some (y146 ++ t127 : ByteArray)).bind fun y147 => (some y147)) else (none))) else (none))) else (none)) = some r := H
                have hy144 : t129 ++ (⟨#[47]⟩ : ByteArray) = y144 := Option.some.inj hy1440
                clear hy1440
                by_cases c42 : y144.size + t128.size ≤ 9223372036854775807
                · rw [if_pos c42] at H
                  have c42b0 := eq_true c42
                  have c42b1 : decide (y144.size + t128.size ≤ 9223372036854775807) = true := decide_eq_true c42
                  try have c42b2 : (9223372036854775807 < y144.size + t128.size) = False := eq_false (Nat.not_lt.2 c42)
                  replace H := Option.bind_eq_some_iff.mp H
                  obtain ⟨y145, hy1450, H⟩ := H
                  replace H : (if y145.size + 1 ≤ 9223372036854775807 then ((some (y145 ++ (⟨#[47]⟩ : ByteArray) : ByteArray)).bind fun y146 => (if y146.size + t127.size ≤ 9223372036854775807 then ((some (y146 ++ t127 : ByteArray)).bind fun y147 => (some y147)) else (none))) else (none)) = some r := H
                  have hy145 : y144 ++ t128 = y145 := Option.some.inj hy1450
                  clear hy1450
                  by_cases c43 : y145.size + 1 ≤ 9223372036854775807
                  · rw [if_pos c43] at H
                    have c43b0 := eq_true c43
                    have c43b1 : decide (y145.size + 1 ≤ 9223372036854775807) = true := decide_eq_true c43
                    try have c43b2 : (9223372036854775807 < y145.size + 1) = False := eq_false (Nat.not_lt.2 c43)
                    replace H := Option.bind_eq_some_iff.mp H
                    obtain ⟨y146, hy1460, H⟩ := H
                    replace H : (if y146.size + t127.size ≤ 9223372036854775807 then ((some (y146 ++ t127 : ByteArray)).bind fun y147 => (some y147)) else (none)) = some r := H
                    have hy146 : y145 ++ (⟨#[47]⟩ : ByteArray) = y146 := Option.some.inj hy1460
                    clear hy1460
                    by_cases c44 : y146.size + t127.size ≤ 9223372036854775807
                    · rw [if_pos c44] at H
                      have c44b0 := eq_true c44
                      have c44b1 : decide (y146.size + t127.size ≤ 9223372036854775807) = true := decide_eq_true c44
                      try have c44b2 : (9223372036854775807 < y146.size + t127.size) = False := eq_false (Nat.not_lt.2 c44)
                      replace H := Option.bind_eq_some_iff.mp H
                      obtain ⟨y147, hy1470, H⟩ := H
                      replace H : (some y147) = some r := H
                      have hy147 : y146 ++ t127 = y147 := Option.some.inj hy1470
                      clear hy1470
                      obtain rfl := Option.some.inj H
                      go_wp2
                      go_ret
                      exact ⟨by first | rfl | (simp [errW_none, errW_some] <;> rfl) | (simp [*, errW_none, errW_some] <;> rfl), by repeat (first | (with_reducible first | exact HB.out | apply below_alloc | apply pw_below_drewN | apply below_drew1 | refine below_set ?_ GE126.out) | exact HB.out)⟩
                    · rw [if_neg c44] at H
                      exact absurd H (by simp)
                  · rw [if_neg c43] at H
                    exact absurd H (by simp)
                · rw [if_neg c42] at H
                  exact absurd H (by simp)
              · rw [if_neg c41] at H
                exact absurd H (by simp)
            · rw [if_neg c40] at H
              have c40b0 : (a0.toList == ([101, 115] : List UInt8)) = false := beq_eq_false_iff_ne.mpr c40
              have c40b1 : (a0.toList != ([101, 115] : List UInt8)) = true := bne_iff_ne.mpr c40
              by_cases c45 : t127.size + 1 ≤ 9223372036854775807
              · rw [if_pos c45] at H
                have c45b0 := eq_true c45
                have c45b1 : decide (t127.size + 1 ≤ 9223372036854775807) = true := decide_eq_true c45
                try have c45b2 : (9223372036854775807 < t127.size + 1) = False := eq_false (Nat.not_lt.2 c45)
                replace H := Option.bind_eq_some_iff.mp H
                obtain ⟨y148, hy1480, H⟩ := H
                replace H : (if y148.size + t128.size ≤ 9223372036854775807 then ((some (y148 ++ t128 : ByteArray)).bind fun y149 => (if y149.size + 1 ≤ 9223372036854775807 then ((some (y149 ++ (⟨#[45]⟩ : ByteArray) : ByteArray)).bind fun y150 => (if y150.size + t129.size ≤ 9223372036854775807 then ((some (y150 ++ t129 : ByteArray)).bind fun y151 => (some y151)) else (none))) else (none))) else (none)) = some r := H
                have hy148 : t127 ++ (⟨#[45]⟩ : ByteArray) = y148 := Option.some.inj hy1480
                clear hy1480
                by_cases c46 : y148.size + t128.size ≤ 9223372036854775807
                · rw [if_pos c46] at H
                  have c46b0 := eq_true c46
                  have c46b1 : decide (y148.size + t128.size ≤ 9223372036854775807) = true := decide_eq_true c46
                  try have c46b2 : (9223372036854775807 < y148.size + t128.size) = False := eq_false (Nat.not_lt.2 c46)
                  replace H := Option.bind_eq_some_iff.mp H
                  obtain ⟨y149, hy1490, H⟩ := H
                  replace H : (if y149.size + 1 ≤ 9223372036854775807 then ((some (y149 ++ (⟨#[45]⟩ : ByteArray) : ByteArray)).bind fun y150 => (if y150.size + t129.size ≤ 9223372036854775807 then ((some (y150 ++ t129 : ByteArray)).bind fun y151 => (some y151)) else (none))) else (none)) = some r := H
                  have hy149 : y148 ++ t128 = y149 := Option.some.inj hy1490
                  clear hy1490
                  by_cases c47 : y149.size + 1 ≤ 9223372036854775807
                  · rw [if_pos c47] at H
                    have c47b0 := eq_true c47
                    have c47b1 : decide (y149.size + 1 ≤ 9223372036854775807) = true := decide_eq_true c47
                    try have c47b2 : (9223372036854775807 < y149.size + 1) = False := eq_false (Nat.not_lt.2 c47)
                    replace H := Option.bind_eq_some_iff.mp H
                    obtain ⟨y150, hy1500, H⟩ := H
                    replace H : (if y150.size + t129.size ≤ 9223372036854775807 then ((some (y150 ++ t129 : ByteArray)).bind fun y151 => (some y151)) else (none)) = some r := H
                    have hy150 : y149 ++ (⟨#[45]⟩ : ByteArray) = y150 := Option.some.inj hy1500
                    clear hy1500
                    by_cases c48 : y150.size + t129.size ≤ 9223372036854775807
                    · rw [if_pos c48] at H
                      have c48b0 := eq_true c48
                      have c48b1 : decide (y150.size + t129.size ≤ 9223372036854775807) = true := decide_eq_true c48
                      try have c48b2 : (9223372036854775807 < y150.size + t129.size) = False := eq_false (Nat.not_lt.2 c48)
                      replace H := Option.bind_eq_some_iff.mp H
                      obtain ⟨y151, hy1510, H⟩ := H
                      replace H : (some y151) = some r := H
                      have hy151 : y150 ++ t129 = y151 := Option.some.inj hy1510
                      clear hy1510
                      obtain rfl := Option.some.inj H
                      go_wp2
                      go_ret
                      exact ⟨by first | rfl | (simp [errW_none, errW_some] <;> rfl) | (simp [*, errW_none, errW_some] <;> rfl), by repeat (first | (with_reducible first | exact HB.out | apply below_alloc | apply pw_below_drewN | apply below_drew1 | refine below_set ?_ GE126.out) | exact HB.out)⟩
                    · rw [if_neg c48] at H
                      exact absurd H (by simp)
                  · rw [if_neg c47] at H
                    exact absurd H (by simp)
                · rw [if_neg c46] at H
                  exact absurd H (by simp)
              · rw [if_neg c45] at H
                exact absurd H (by simp)

end Go.Proofs.YtpedajhcfkohlaaDoor.PMom
