-- Written by this session's own program (wip/drive.py) over the kit's printer: not the printer's own text.
import Derived.Test.YtajcpdiobkkcmaaPScanx0
import Derived.Test.YtajcpdiobkkcmaaPScanx1
import Derived.Test.YtajcpdiobkkcmaaPScanx2
import Derived.Test.YtajcpdiobkkcmaaPScanx3
namespace Go.Proofs.Ytajcpdiobkkcmaa.PScan
open Go.RowKit Go.Proofs.YtajcpdiobkkcmaaHand Go.Proofs.YtajcpdiobkkcmaaW.PrintWords Go.Proofs.YtajcpdiobkkcmaaW.PrintLast Go.Proofs.YtajcpdiobkkcmaaW.PrintMore
attribute [local go_sem] max2_int min2_int max_two min_two max_three min_three max_four min_four   -- for this text's walks alone
set_option linter.unusedVariables false
set_option linter.unusedSimpArgs false

/-! ### polyglotlaw06_longest: function 21 -/
mutual
def polyglotlaw06_longest.j0 : Nat → ByteArray → Int → Int → Bool → Option (Int)
  | 0, _, _, _, _ => none
  | k + 1, x0, x1, x2, x18 => if x18 = true then (some x1) else (polyglotlaw06_longest.l0 k x0 x1 x2 (x0.size : Int))
def polyglotlaw06_longest.l0 : Nat → ByteArray → Int → Int → Int → Option (Int)
  | 0, _, _, _, _ => none
  | k + 1, x0, x1, x2, x7 => if x7 > x1 then (if 0 ≤ x1 then (if x1 ≤ x7 then (if x7 ≤ (x0.size : Int) then ((some (x0.extract (x1 : Int).toNat (x7 : Int).toNat : ByteArray)).bind fun y128 => (if x2 = 0 then (polyglotlaw06_longest.j2 k x0 x1 x2 x7 y128 true x2 (x2 == 0)) else (polyglotlaw06_longest.j2 k x0 x1 x2 x7 y128 true x2 (x2 == 1)))) else (none)) else (none)) else (none)) else (some x1)
def polyglotlaw06_longest.j2 : Nat → ByteArray → Int → Int → Int → ByteArray → Bool → Int → Bool → Option (Int)
  | 0, _, _, _, _, _, _, _, _ => none
  | k + 1, x0, x1, x2, x7, x8, x9, x31, x34 => if x34 = true then (polyglotlaw06_longest.l1 k x0 x1 x2 x7 x8 x9 0) else (if x31 = 2 then ((polyglotlaw06_Name.f k x8).bind fun t129 => (if t129 = true then (some x7) else (polyglotlaw06_longest.l0 k x0 x1 x2 (wrap64 (x7 - 1))))) else ((polyglotlaw06_Number.f k x8).bind fun t130 => (if t130 = true then (some x7) else (polyglotlaw06_longest.l0 k x0 x1 x2 (wrap64 (x7 - 1))))))
def polyglotlaw06_longest.l1 : Nat → ByteArray → Int → Int → Int → ByteArray → Bool → Int → Option (Int)
  | 0, _, _, _, _, _, _, _ => none
  | k + 1, x0, x1, x2, x7, x8, x9, x10 => if x10 < (x8.size : Int) then (if x9 = true then (if 0 ≤ x10 then (if (bt x8 x10) = 32 then (polyglotlaw06_longest.l1 k x0 x1 x2 x7 x8 true (wrap64 (x10 + 1))) else (if x2 = 1 then (polyglotlaw06_longest.l1 k x0 x1 x2 x7 x8 ((bt x8 x10) == 10) (wrap64 (x10 + 1))) else (polyglotlaw06_longest.l1 k x0 x1 x2 x7 x8 false (wrap64 (x10 + 1))))) else (none)) else (polyglotlaw06_longest.l1 k x0 x1 x2 x7 x8 false (wrap64 (x10 + 1)))) else (if x9 = true then (some x7) else (polyglotlaw06_longest.l0 k x0 x1 x2 (wrap64 (x7 - 1))))
end
def polyglotlaw06_longest.f (k : Nat) (a0 : ByteArray) (a1 : Int) (a2 : Int) : Option (Int) := if a1 < 0 then (polyglotlaw06_longest.j0 k a0 a1 a2 true) else (polyglotlaw06_longest.j0 k a0 a1 a2 (decide (a1 > (a0.size : Int))))
theorem polyglotlaw06_longest.mono_l : ∀ k, (∀ y0 y1 y2 y3, LeO (polyglotlaw06_longest.j0 k y0 y1 y2 y3) (polyglotlaw06_longest.j0 (k + 1) y0 y1 y2 y3)) ∧ (∀ y0 y1 y2 y3, LeO (polyglotlaw06_longest.l0 k y0 y1 y2 y3) (polyglotlaw06_longest.l0 (k + 1) y0 y1 y2 y3)) ∧ (∀ y0 y1 y2 y3 y4 y5 y6 y7, LeO (polyglotlaw06_longest.j2 k y0 y1 y2 y3 y4 y5 y6 y7) (polyglotlaw06_longest.j2 (k + 1) y0 y1 y2 y3 y4 y5 y6 y7)) ∧ (∀ y0 y1 y2 y3 y4 y5 y6, LeO (polyglotlaw06_longest.l1 k y0 y1 y2 y3 y4 y5 y6) (polyglotlaw06_longest.l1 (k + 1) y0 y1 y2 y3 y4 y5 y6))
  | 0 => ⟨fun _ _ _ _ r h => by simp [polyglotlaw06_longest.j0] at h, fun _ _ _ _ r h => by simp [polyglotlaw06_longest.l0] at h, fun _ _ _ _ _ _ _ _ r h => by simp [polyglotlaw06_longest.j2] at h, fun _ _ _ _ _ _ _ r h => by simp [polyglotlaw06_longest.l1] at h⟩
  | k + 1 => by
    obtain ⟨ih0, ih1, ih2, ih3⟩ := polyglotlaw06_longest.mono_l k
    refine ⟨?_, ?_, ?_, ?_⟩
    · intro y0 y1 y2 y3
      unfold polyglotlaw06_longest.j0
      repeat' first
      | (with_reducible exact ih0 _ _ _ _)
      | (with_reducible exact ih1 _ _ _ _)
      | (with_reducible exact ih2 _ _ _ _ _ _ _ _)
      | (with_reducible exact ih3 _ _ _ _ _ _ _)
      | (with_reducible exact polyglotlaw06_Name.mono _ _)
      | (with_reducible exact polyglotlaw06_Number.mono _ _)
      | (with_reducible exact LeO.refl _)
      | (with_reducible exact LeO.none _)
      | (with_reducible refine LeO.ite ?_ ?_)
      | (with_reducible refine LeO.bind ?_ (fun _ => ?_))
      | exact ih0 _ _ _ _
      | exact ih1 _ _ _ _
      | exact ih2 _ _ _ _ _ _ _ _
      | exact ih3 _ _ _ _ _ _ _
      | exact polyglotlaw06_Name.mono _ _
      | exact polyglotlaw06_Number.mono _ _
      | exact LeO.none _
      | refine LeO.ite ?_ ?_
      | refine LeO.bind ?_ (fun _ => ?_)
    · intro y0 y1 y2 y3
      unfold polyglotlaw06_longest.l0
      repeat' first
      | (with_reducible exact ih0 _ _ _ _)
      | (with_reducible exact ih1 _ _ _ _)
      | (with_reducible exact ih2 _ _ _ _ _ _ _ _)
      | (with_reducible exact ih3 _ _ _ _ _ _ _)
      | (with_reducible exact polyglotlaw06_Name.mono _ _)
      | (with_reducible exact polyglotlaw06_Number.mono _ _)
      | (with_reducible exact LeO.refl _)
      | (with_reducible exact LeO.none _)
      | (with_reducible refine LeO.ite ?_ ?_)
      | (with_reducible refine LeO.bind ?_ (fun _ => ?_))
      | exact ih0 _ _ _ _
      | exact ih1 _ _ _ _
      | exact ih2 _ _ _ _ _ _ _ _
      | exact ih3 _ _ _ _ _ _ _
      | exact polyglotlaw06_Name.mono _ _
      | exact polyglotlaw06_Number.mono _ _
      | exact LeO.none _
      | refine LeO.ite ?_ ?_
      | refine LeO.bind ?_ (fun _ => ?_)
    · intro y0 y1 y2 y3 y4 y5 y6 y7
      unfold polyglotlaw06_longest.j2
      repeat' first
      | (with_reducible exact ih0 _ _ _ _)
      | (with_reducible exact ih1 _ _ _ _)
      | (with_reducible exact ih2 _ _ _ _ _ _ _ _)
      | (with_reducible exact ih3 _ _ _ _ _ _ _)
      | (with_reducible exact polyglotlaw06_Name.mono _ _)
      | (with_reducible exact polyglotlaw06_Number.mono _ _)
      | (with_reducible exact LeO.refl _)
      | (with_reducible exact LeO.none _)
      | (with_reducible refine LeO.ite ?_ ?_)
      | (with_reducible refine LeO.bind ?_ (fun _ => ?_))
      | exact ih0 _ _ _ _
      | exact ih1 _ _ _ _
      | exact ih2 _ _ _ _ _ _ _ _
      | exact ih3 _ _ _ _ _ _ _
      | exact polyglotlaw06_Name.mono _ _
      | exact polyglotlaw06_Number.mono _ _
      | exact LeO.none _
      | refine LeO.ite ?_ ?_
      | refine LeO.bind ?_ (fun _ => ?_)
    · intro y0 y1 y2 y3 y4 y5 y6
      unfold polyglotlaw06_longest.l1
      repeat' first
      | (with_reducible exact ih0 _ _ _ _)
      | (with_reducible exact ih1 _ _ _ _)
      | (with_reducible exact ih2 _ _ _ _ _ _ _ _)
      | (with_reducible exact ih3 _ _ _ _ _ _ _)
      | (with_reducible exact polyglotlaw06_Name.mono _ _)
      | (with_reducible exact polyglotlaw06_Number.mono _ _)
      | (with_reducible exact LeO.refl _)
      | (with_reducible exact LeO.none _)
      | (with_reducible refine LeO.ite ?_ ?_)
      | (with_reducible refine LeO.bind ?_ (fun _ => ?_))
      | exact ih0 _ _ _ _
      | exact ih1 _ _ _ _
      | exact ih2 _ _ _ _ _ _ _ _
      | exact ih3 _ _ _ _ _ _ _
      | exact polyglotlaw06_Name.mono _ _
      | exact polyglotlaw06_Number.mono _ _
      | exact LeO.none _
      | refine LeO.ite ?_ ?_
      | refine LeO.bind ?_ (fun _ => ?_)
theorem polyglotlaw06_longest.mono : ∀ a0 a1 a2 k, LeO (polyglotlaw06_longest.f k a0 a1 a2) (polyglotlaw06_longest.f (k + 1) a0 a1 a2) := by
  intro a0 a1 a2 k
  obtain ⟨ih0, ih1, ih2, ih3⟩ := polyglotlaw06_longest.mono_l k
  unfold polyglotlaw06_longest.f
  repeat' first
      | (with_reducible exact ih0 _ _ _ _)
      | (with_reducible exact ih1 _ _ _ _)
      | (with_reducible exact ih2 _ _ _ _ _ _ _ _)
      | (with_reducible exact ih3 _ _ _ _ _ _ _)
      | (with_reducible exact polyglotlaw06_Name.mono _ _)
      | (with_reducible exact polyglotlaw06_Number.mono _ _)
      | (with_reducible exact LeO.refl _)
      | (with_reducible exact LeO.none _)
      | (with_reducible refine LeO.ite ?_ ?_)
      | (with_reducible refine LeO.bind ?_ (fun _ => ?_))
      | exact ih0 _ _ _ _
      | exact ih1 _ _ _ _
      | exact ih2 _ _ _ _ _ _ _ _
      | exact ih3 _ _ _ _ _ _ _
      | exact polyglotlaw06_Name.mono _ _
      | exact polyglotlaw06_Number.mono _ _
      | exact LeO.none _
      | refine LeO.ite ?_ ?_
      | refine LeO.bind ?_ (fun _ => ?_)
set_option maxHeartbeats 8000000 in
set_option maxRecDepth 100000 in
theorem polyglotlaw06_longest.calls (k : Nat) (a0 : ByteArray) (a1 : Int) (a2 : Int) (r : Int) (w : World) (h : polyglotlaw06_longest.f k a0 a1 a2 = some r) :
    Calls Try.prog 21 #[.string a0, .int .i64 a1, .int .i64 a2] w fun e w' => e = .returned (.int .i64 r) ∧ Drawn0 w w' := by
  have H : (if a1 < 0 then (polyglotlaw06_longest.j0 k a0 a1 a2 true) else (polyglotlaw06_longest.j0 k a0 a1 a2 (decide (a1 > (a0.size : Int))))) = some r := h
  clear h
  have HC4 := Aside0.mk H
  clear H
  go_enter Try.func21, Try.ntmps21
  go_upto_region 1 with (fail)
  go_cut [18] (fun v18 wc => ∃ (kq : Nat) (x18_3 : Bool), v18 = .bool x18_3 ∧ Aside0 (polyglotlaw06_longest.j0 kq a0 a1 a2 x18_3 = some r) ∧ Aside0 (kq ≤ k) ∧ Drawn0 w wc)
  case first =>
    have H := HC4.out
    clear HC4
    by_cases c5 : a1 < 0
    · rw [if_pos c5] at H
      have c5b0 : decide (a1 < 0) = true := decide_eq_true c5
      clear c5
      (first | rw [c5b0] | (simp only [i64_w, i32_w]; rw [c5b0]) | skip)
      have H' := Aside0.mk H
      clear H
      go_wp2
      go_meet
      case rel => exact ⟨_, (true), (by first | rfl | (simp; done) | (simp [*]; done)), H', ⟨by first | omega | exact Nat.le_refl _⟩, by repeat (first | exact Drawn0.refl _ | apply Drawn0.step)⟩
    · rw [if_neg c5] at H
      have c5b0 : decide (a1 < 0) = false := decide_eq_false c5
      clear c5
      (first | rw [c5b0] | (simp only [i64_w, i32_w]; rw [c5b0]) | skip)
      have H' := Aside0.mk H
      clear H
      go_wp2
      go_meet
      case rel => exact ⟨_, (decide (a1 > (a0.size : Int))), (by first | rfl | (simp; done) | (simp [*]; done)), H', ⟨by first | omega | exact Nat.le_refl _⟩, by repeat (first | exact Drawn0.refl _ | apply Drawn0.step)⟩
  case rest =>
    clear HC4
    try clear c2
    try clear p2
    try clear c5
    try clear c5b0
    obtain ⟨kq, x18_3, rfl, HA, HJ3, ⟨mc3, rfl⟩⟩ := hcut
    cases kq with
    | zero => exact absurd HA.out (by simp [polyglotlaw06_longest.j0])
    | succ kj3 =>
      have H := HA.out
      clear HA
      simp only [polyglotlaw06_longest.j0] at H
      by_cases c6 : x18_3 = true
      · subst c6
        have H1 : (some a1) = some r := by rw [if_pos rfl] at H; exact H
        clear H
        have H := H1
        clear H1
        obtain rfl := Option.some.inj H
        go_wp2
        go_ret
        exact ⟨by first | rfl | (simp; done) | (simp [*]; done), by repeat (first | exact Drawn0.refl _ | apply Drawn0.step)⟩
      · replace c6 := Bool.eq_false_iff.mpr c6
        subst c6
        have H1 : (polyglotlaw06_longest.l0 kj3 a0 a1 a2 (a0.size : Int)) = some r := by rw [if_neg (show ¬ (false = true) by decide)] at H; exact H
        clear H
        have H := H1
        clear H1
        have H' := Aside0.mk H
        clear H
        go_wp2
        go_loopg [7] kj3 (fun kq v7 w' => ∃ (x7_2 : Int), v7 = .int .i64 x7_2 ∧ Aside0 (polyglotlaw06_longest.l0 kq a0 a1 a2 x7_2 = some r) ∧ Aside0 (kq ≤ kj3) ∧ Drawn0 w w')
        case atStart => exact ⟨((a0.size : Int)), (by first | rfl | (simp; done) | (simp [*]; done)), H', ⟨Nat.le_refl _⟩, by repeat (first | exact Drawn0.refl _ | apply Drawn0.step)⟩
        case round =>
          clear H'
          try clear c2
          try clear p2
          try clear c3
          try clear c5
          try clear c5b0
          try clear c6
          try clear p2
          obtain ⟨x7_2, rfl, HA, HK2, ⟨m2, rfl⟩⟩ := hrel
          cases gk with
          | zero => exact absurd HA.out (by simp [polyglotlaw06_longest.l0])
          | succ k2 =>
            have H := HA.out
            clear HA
            simp only [polyglotlaw06_longest.l0] at H
            by_cases c7 : x7_2 > a1
            · rw [if_pos c7] at H
              have c7b0 : decide (a1 < x7_2) = true := decide_eq_true c7
              clear c7
              by_cases c8 : 0 ≤ a1
              · rw [if_pos c8] at H
                have c8b0 := eq_true c8
                have c8b1 : decide (0 ≤ a1) = true := decide_eq_true c8
                clear c8
                by_cases c9 : a1 ≤ x7_2
                · rw [if_pos c9] at H
                  have c9b0 := eq_true c9
                  have c9b1 : decide (a1 ≤ x7_2) = true := decide_eq_true c9
                  clear c9
                  by_cases c10 : x7_2 ≤ (a0.size : Int)
                  · rw [if_pos c10] at H
                    have c10b0 := eq_true c10
                    have c10b1 : decide (x7_2 ≤ (a0.size : Int)) = true := decide_eq_true c10
                    clear c10
                    replace H := Option.bind_eq_some_iff.mp H
                    obtain ⟨y128, hy1280, H⟩ := H
                    replace H : (if a2 = 0 then (polyglotlaw06_longest.j2 k2 a0 a1 a2 x7_2 y128 true a2 (a2 == 0)) else (polyglotlaw06_longest.j2 k2 a0 a1 a2 x7_2 y128 true a2 (a2 == 1))) = some r := H
                    have hy128 : a0.extract (a1 : Int).toNat (x7_2 : Int).toNat = y128 := Option.some.inj hy1280
                    clear hy1280
                    have HC11 := Aside0.mk H
                    clear H
                    go_upto_if 34 with (fail)
                    go_cut [34] (fun v34 wc => ∃ (kq : Nat) (x34_10 : Bool), v34 = .bool x34_10 ∧ Aside0 (polyglotlaw06_longest.j2 kq a0 a1 a2 x7_2 y128 true a2 x34_10 = some r) ∧ Aside0 (kq ≤ k2) ∧ Drawn0 w wc)
                    case first =>
                      have H := HC11.out
                      clear HC11
                      by_cases c12 : a2 = 0
                      · rw [if_pos c12] at H
                        have c12b0 : (a2 == 0) = true := beq_iff_eq.mpr c12
                        have c12b1 : (a2 != 0) = false := bne_eq_false_iff_eq.mpr c12
                        clear c12
                        (first | rw [c12b0] | (simp only [i64_w, i32_w]; rw [c12b0]) | skip)
                        have H' := Aside0.mk H
                        clear H
                        go_wp2
                        go_meet
                        case rel => exact ⟨_, ((a2 == 0)), (by first | rfl | (simp; done) | (simp [*]; done)), H', ⟨by have := HJ3.out; have := HK2.out; first | omega | exact Nat.le_refl _⟩, by repeat (first | exact Drawn0.refl _ | apply Drawn0.step)⟩
                      · rw [if_neg c12] at H
                        have c12b0 : (a2 == 0) = false := beq_eq_false_iff_ne.mpr c12
                        have c12b1 : (a2 != 0) = true := bne_iff_ne.mpr c12
                        (first | rw [c12b0] | (simp only [i64_w, i32_w]; rw [c12b0]) | skip)
                        have H' := Aside0.mk H
                        clear H
                        go_wp2
                        go_meet
                        case rel => exact ⟨_, ((a2 == 1)), (by first | rfl | (simp; done) | (simp [*]; done)), H', ⟨by have := HJ3.out; have := HK2.out; first | omega | exact Nat.le_refl _⟩, by repeat (first | exact Drawn0.refl _ | apply Drawn0.step)⟩
                    case rest =>
                      clear HC11
                      try clear c1
                      try clear c2
                      try clear p2
                      try clear c3
                      try clear c5
                      try clear c5b0
                      try clear c6
                      try clear c7
                      try clear c7b0
                      try clear c8
                      try clear c8b0
                      try clear c8b1
                      try clear c9
                      try clear c9b0
                      try clear c9b1
                      try clear c10
                      try clear c10b0
                      try clear c10b1
                      try clear c12
                      try clear c12b0
                      try clear c12b1
                      try clear p2
                      obtain ⟨kq, x34_10, rfl, HA, HJ10, ⟨mc10, rfl⟩⟩ := hcut
                      cases kq with
                      | zero => exact absurd HA.out (by simp [polyglotlaw06_longest.j2])
                      | succ kj10 =>
                        have H := HA.out
                        clear HA
                        simp only [polyglotlaw06_longest.j2] at H
                        by_cases c13 : x34_10 = true
                        · subst c13
                          have H1 : (polyglotlaw06_longest.l1 kj10 a0 a1 a2 x7_2 y128 true 0) = some r := by rw [if_pos rfl] at H; exact H
                          clear H
                          have H := H1
                          clear H1
                          have H' := Aside0.mk H
                          clear H
                          go_wp2
                          go_loopg [9, 10] kj10 (fun kq v9 v10 w' => ∃ (x9_4 : Bool) (x10_4 : Int), v9 = .bool x9_4 ∧ v10 = .int .i64 x10_4 ∧ Aside0 (polyglotlaw06_longest.l1 kq a0 a1 a2 x7_2 y128 x9_4 x10_4 = some r) ∧ Aside0 (kq ≤ kj10) ∧ Drawn0 w w')
                          case atStart => exact ⟨(true), (0), (by first | rfl | (simp; done) | (simp [*]; done)), (by first | rfl | (simp; done) | (simp [*]; done)), H', ⟨Nat.le_refl _⟩, by repeat (first | exact Drawn0.refl _ | apply Drawn0.step)⟩
                          case round =>
                            clear H'
                            try clear c1
                            try clear c2
                            try clear p2
                            try clear c3
                            try clear c5
                            try clear c5b0
                            try clear c6
                            try clear c7
                            try clear c7b0
                            try clear c8
                            try clear c8b0
                            try clear c8b1
                            try clear c9
                            try clear c9b0
                            try clear c9b1
                            try clear c10
                            try clear c10b0
                            try clear c10b1
                            try clear c12
                            try clear c12b0
                            try clear c12b1
                            try clear c13
                            try clear p2
                            obtain ⟨x9_4, x10_4, rfl, rfl, HA, HK4, ⟨m4, rfl⟩⟩ := hrel
                            cases gk with
                            | zero => exact absurd HA.out (by simp [polyglotlaw06_longest.l1])
                            | succ k4 =>
                              have H := HA.out
                              clear HA
                              simp only [polyglotlaw06_longest.l1] at H
                              by_cases c14 : x10_4 < (y128.size : Int)
                              · rw [if_pos c14] at H
                                have c14b0 : decide (x10_4 < (y128.size : Int)) = true := decide_eq_true c14
                                clear c14
                                by_cases c15 : x9_4 = true
                                · subst c15
                                  have H1 : (if 0 ≤ x10_4 then (if (bt y128 x10_4) = 32 then (polyglotlaw06_longest.l1 k4 a0 a1 a2 x7_2 y128 true (wrap64 (x10_4 + 1))) else (if a2 = 1 then (polyglotlaw06_longest.l1 k4 a0 a1 a2 x7_2 y128 ((bt y128 x10_4) == 10) (wrap64 (x10_4 + 1))) else (polyglotlaw06_longest.l1 k4 a0 a1 a2 x7_2 y128 false (wrap64 (x10_4 + 1))))) else (none)) = some r := by rw [if_pos rfl] at H; exact H
                                  clear H
                                  have H := H1
                                  clear H1
                                  by_cases c16 : 0 ≤ x10_4
                                  · rw [if_pos c16] at H
                                    have c16b0 : decide (0 ≤ x10_4) = true := decide_eq_true c16
                                    clear c16
                                    by_cases c18 : (bt y128 x10_4) = 32
                                    · rw [if_pos c18] at H
                                      have c18b0 : ((bt y128 x10_4) == 32) = true := beq_iff_eq.mpr c18
                                      have c18b1 : ((bt y128 x10_4) != 32) = false := bne_eq_false_iff_eq.mpr c18
                                      clear c18
                                      have H' := Aside0.mk H
                                      clear H
                                      have p17 : 0 ≤ (x10_4 : Int) := of_decide_eq_true (by first | (with_reducible assumption) | assumption)
                                      have q17 : x10_4 < (y128.size : Int) := of_decide_eq_true (by first | (with_reducible assumption) | assumption)
                                      have hx17 := bt_at y128 x10_4
                                      replace p17 := eq_true p17
                                      replace q17 := eq_true q17
                                      go_wp2
                                      go_roundg k4
                                      case measure => have := HJ3.out; have := HK2.out; have := HJ10.out; have := HK4.out; omega
                                      case rel => exact ⟨(true), (wrap64 (x10_4 + 1)), (by first | rfl | (simp; done) | (simp [*]; done)), (by first | rfl | (simp; done) | (simp [*]; done)), H', ⟨by have := HJ3.out; have := HK2.out; have := HJ10.out; have := HK4.out; omega⟩, by repeat (first | exact Drawn0.refl _ | apply Drawn0.step)⟩
                                    · rw [if_neg c18] at H
                                      have c18b0 : ((bt y128 x10_4) == 32) = false := beq_eq_false_iff_ne.mpr c18
                                      have c18b1 : ((bt y128 x10_4) != 32) = true := bne_iff_ne.mpr c18
                                      by_cases c19 : a2 = 1
                                      · rw [if_pos c19] at H
                                        have c19b0 : (a2 == 1) = true := beq_iff_eq.mpr c19
                                        have c19b1 : (a2 != 1) = false := bne_eq_false_iff_eq.mpr c19
                                        clear c19
                                        have H' := Aside0.mk H
                                        clear H
                                        have p17 : 0 ≤ (x10_4 : Int) := of_decide_eq_true (by first | (with_reducible assumption) | assumption)
                                        have q17 : x10_4 < (y128.size : Int) := of_decide_eq_true (by first | (with_reducible assumption) | assumption)
                                        have hx17 := bt_at y128 x10_4
                                        replace p17 := eq_true p17
                                        replace q17 := eq_true q17
                                        have p20 : 0 ≤ (x10_4 : Int) := of_decide_eq_true (by first | (with_reducible assumption) | assumption)
                                        have q20 : x10_4 < (y128.size : Int) := of_decide_eq_true (by first | (with_reducible assumption) | assumption)
                                        have hx20 := bt_at y128 x10_4
                                        replace p20 := eq_true p20
                                        replace q20 := eq_true q20
                                        go_wp2
                                        go_roundg k4
                                        case measure => have := HJ3.out; have := HK2.out; have := HJ10.out; have := HK4.out; omega
                                        case rel => exact ⟨(((bt y128 x10_4) == 10)), (wrap64 (x10_4 + 1)), (by first | rfl | (simp; done) | (simp [*]; done)), (by first | rfl | (simp; done) | (simp [*]; done)), H', ⟨by have := HJ3.out; have := HK2.out; have := HJ10.out; have := HK4.out; omega⟩, by repeat (first | exact Drawn0.refl _ | apply Drawn0.step)⟩
                                      · rw [if_neg c19] at H
                                        have c19b0 : (a2 == 1) = false := beq_eq_false_iff_ne.mpr c19
                                        have c19b1 : (a2 != 1) = true := bne_iff_ne.mpr c19
                                        have H' := Aside0.mk H
                                        clear H
                                        have p17 : 0 ≤ (x10_4 : Int) := of_decide_eq_true (by first | (with_reducible assumption) | assumption)
                                        have q17 : x10_4 < (y128.size : Int) := of_decide_eq_true (by first | (with_reducible assumption) | assumption)
                                        have hx17 := bt_at y128 x10_4
                                        replace p17 := eq_true p17
                                        replace q17 := eq_true q17
                                        go_wp2
                                        go_roundg k4
                                        case measure => have := HJ3.out; have := HK2.out; have := HJ10.out; have := HK4.out; omega
                                        case rel => exact ⟨(false), (wrap64 (x10_4 + 1)), (by first | rfl | (simp; done) | (simp [*]; done)), (by first | rfl | (simp; done) | (simp [*]; done)), H', ⟨by have := HJ3.out; have := HK2.out; have := HJ10.out; have := HK4.out; omega⟩, by repeat (first | exact Drawn0.refl _ | apply Drawn0.step)⟩
                                  · rw [if_neg c16] at H
                                    exact absurd H (by simp)
                                · replace c15 := Bool.eq_false_iff.mpr c15
                                  subst c15
                                  have H1 : (polyglotlaw06_longest.l1 k4 a0 a1 a2 x7_2 y128 false (wrap64 (x10_4 + 1))) = some r := by rw [if_neg (show ¬ (false = true) by decide)] at H; exact H
                                  clear H
                                  have H := H1
                                  clear H1
                                  have H' := Aside0.mk H
                                  clear H
                                  go_wp2
                                  go_roundg k4
                                  case measure => have := HJ3.out; have := HK2.out; have := HJ10.out; have := HK4.out; omega
                                  case rel => exact ⟨(false), (wrap64 (x10_4 + 1)), (by first | rfl | (simp; done) | (simp [*]; done)), (by first | rfl | (simp; done) | (simp [*]; done)), H', ⟨by have := HJ3.out; have := HK2.out; have := HJ10.out; have := HK4.out; omega⟩, by repeat (first | exact Drawn0.refl _ | apply Drawn0.step)⟩
                              · rw [if_neg c14] at H
                                have c14b0 : decide (x10_4 < (y128.size : Int)) = false := decide_eq_false c14
                                clear c14
                                by_cases c21 : x9_4 = true
                                · subst c21
                                  have H1 : (some x7_2) = some r := by rw [if_pos rfl] at H; exact H
                                  clear H
                                  have H := H1
                                  clear H1
                                  obtain rfl := Option.some.inj H
                                  go_wp2
                                  go_ret
                                  exact ⟨by first | rfl | (simp; done) | (simp [*]; done), by repeat (first | exact Drawn0.refl _ | apply Drawn0.step)⟩
                                · replace c21 := Bool.eq_false_iff.mpr c21
                                  subst c21
                                  have H1 : (polyglotlaw06_longest.l0 k4 a0 a1 a2 (wrap64 (x7_2 - 1))) = some r := by rw [if_neg (show ¬ (false = true) by decide)] at H; exact H
                                  clear H
                                  have H := H1
                                  clear H1
                                  have H' := Aside0.mk H
                                  clear H
                                  go_wp2
                                  go_roundg k4
                                  case measure => have := HJ3.out; have := HK2.out; have := HJ10.out; have := HK4.out; omega
                                  case rel => exact ⟨(wrap64 (x7_2 - 1)), (by first | rfl | (simp; done) | (simp [*]; done)), H', ⟨by have := HJ3.out; have := HK2.out; have := HJ10.out; have := HK4.out; omega⟩, by repeat (first | exact Drawn0.refl _ | apply Drawn0.step)⟩
                        · replace c13 := Bool.eq_false_iff.mpr c13
                          subst c13
                          have H1 : (if a2 = 2 then ((polyglotlaw06_Name.f kj10 y128).bind fun t129 => (if t129 = true then (some x7_2) else (polyglotlaw06_longest.l0 kj10 a0 a1 a2 (wrap64 (x7_2 - 1))))) else ((polyglotlaw06_Number.f kj10 y128).bind fun t130 => (if t130 = true then (some x7_2) else (polyglotlaw06_longest.l0 kj10 a0 a1 a2 (wrap64 (x7_2 - 1)))))) = some r := by rw [if_neg (show ¬ (false = true) by decide)] at H; exact H
                          clear H
                          have H := H1
                          clear H1
                          by_cases c22 : a2 = 2
                          · rw [if_pos c22] at H
                            have c22b0 : (a2 == 2) = true := beq_iff_eq.mpr c22
                            have c22b1 : (a2 != 2) = false := bne_eq_false_iff_eq.mpr c22
                            clear c22
                            replace H := Option.bind_eq_some_iff.mp H
                            obtain ⟨t129, A230, H⟩ := H
                            replace H : (if t129 = true then (some x7_2) else (polyglotlaw06_longest.l0 kj10 a0 a1 a2 (wrap64 (x7_2 - 1)))) = some r := H
                            have A23 := Aside0.mk A230
                            clear A230
                            by_cases c24 : t129 = true
                            · subst c24
                              have H1 : (some x7_2) = some r := by rw [if_pos rfl] at H; exact H
                              clear H
                              have H := H1
                              clear H1
                              obtain rfl := Option.some.inj H
                              go_wp2_with (first | ((with_reducible refine gate_callee (f := 27) rfl ?_); refine goesL_ (some 63) rfl rfl Try.func27 (by kernel_rfl) rfl #[.string y128] rfl (by (try simp only [List.map_toArray, List.map_cons, List.map_nil]); first | done | rfl | (simp only [List.length_drop, List.length_take]; rfl)) ?_; (with_reducible refine (polyglotlaw06_Name.calls kj10 y128 true _ A23.out).mono ?_); rintro e w' ⟨rfl, ⟨nd, rfl⟩⟩; refine ⟨_, rfl, ?_⟩))
                              go_ret
                              exact ⟨by first | rfl | (simp; done) | (simp [*]; done), by repeat (first | exact Drawn0.refl _ | apply Drawn0.step)⟩
                            · replace c24 := Bool.eq_false_iff.mpr c24
                              subst c24
                              have H1 : (polyglotlaw06_longest.l0 kj10 a0 a1 a2 (wrap64 (x7_2 - 1))) = some r := by rw [if_neg (show ¬ (false = true) by decide)] at H; exact H
                              clear H
                              have H := H1
                              clear H1
                              have H' := Aside0.mk H
                              clear H
                              go_wp2_with (first | ((with_reducible refine gate_callee (f := 27) rfl ?_); refine goesL_ (some 63) rfl rfl Try.func27 (by kernel_rfl) rfl #[.string y128] rfl (by (try simp only [List.map_toArray, List.map_cons, List.map_nil]); first | done | rfl | (simp only [List.length_drop, List.length_take]; rfl)) ?_; (with_reducible refine (polyglotlaw06_Name.calls kj10 y128 false _ A23.out).mono ?_); rintro e w' ⟨rfl, ⟨nd, rfl⟩⟩; refine ⟨_, rfl, ?_⟩))
                              go_roundg kj10
                              case measure => have := HJ3.out; have := HK2.out; have := HJ10.out; omega
                              case rel => exact ⟨(wrap64 (x7_2 - 1)), (by first | rfl | (simp; done) | (simp [*]; done)), H', ⟨by have := HJ3.out; have := HK2.out; have := HJ10.out; omega⟩, by repeat (first | exact Drawn0.refl _ | apply Drawn0.step)⟩
                          · rw [if_neg c22] at H
                            have c22b0 : (a2 == 2) = false := beq_eq_false_iff_ne.mpr c22
                            have c22b1 : (a2 != 2) = true := bne_iff_ne.mpr c22
                            replace H := Option.bind_eq_some_iff.mp H
                            obtain ⟨t130, A250, H⟩ := H
                            replace H : (if t130 = true then (some x7_2) else (polyglotlaw06_longest.l0 kj10 a0 a1 a2 (wrap64 (x7_2 - 1)))) = some r := H
                            have A25 := Aside0.mk A250
                            clear A250
                            by_cases c26 : t130 = true
                            · subst c26
                              have H1 : (some x7_2) = some r := by rw [if_pos rfl] at H; exact H
                              clear H
                              have H := H1
                              clear H1
                              obtain rfl := Option.some.inj H
                              go_wp2_with (first | ((with_reducible refine gate_callee (f := 34) rfl ?_); refine goesL_ (some 33) rfl rfl Try.func34 (by kernel_rfl) rfl #[.string y128] rfl (by (try simp only [List.map_toArray, List.map_cons, List.map_nil]); first | done | rfl | (simp only [List.length_drop, List.length_take]; rfl)) ?_; (with_reducible refine (polyglotlaw06_Number.calls kj10 y128 true _ A25.out).mono ?_); rintro e w' ⟨rfl, ⟨nd, rfl⟩⟩; refine ⟨_, rfl, ?_⟩))
                              go_ret
                              exact ⟨by first | rfl | (simp; done) | (simp [*]; done), by repeat (first | exact Drawn0.refl _ | apply Drawn0.step)⟩
                            · replace c26 := Bool.eq_false_iff.mpr c26
                              subst c26
                              have H1 : (polyglotlaw06_longest.l0 kj10 a0 a1 a2 (wrap64 (x7_2 - 1))) = some r := by rw [if_neg (show ¬ (false = true) by decide)] at H; exact H
                              clear H
                              have H := H1
                              clear H1
                              have H' := Aside0.mk H
                              clear H
                              go_wp2_with (first | ((with_reducible refine gate_callee (f := 34) rfl ?_); refine goesL_ (some 33) rfl rfl Try.func34 (by kernel_rfl) rfl #[.string y128] rfl (by (try simp only [List.map_toArray, List.map_cons, List.map_nil]); first | done | rfl | (simp only [List.length_drop, List.length_take]; rfl)) ?_; (with_reducible refine (polyglotlaw06_Number.calls kj10 y128 false _ A25.out).mono ?_); rintro e w' ⟨rfl, ⟨nd, rfl⟩⟩; refine ⟨_, rfl, ?_⟩))
                              go_roundg kj10
                              case measure => have := HJ3.out; have := HK2.out; have := HJ10.out; omega
                              case rel => exact ⟨(wrap64 (x7_2 - 1)), (by first | rfl | (simp; done) | (simp [*]; done)), H', ⟨by have := HJ3.out; have := HK2.out; have := HJ10.out; omega⟩, by repeat (first | exact Drawn0.refl _ | apply Drawn0.step)⟩
                  · rw [if_neg c10] at H
                    exact absurd H (by simp)
                · rw [if_neg c9] at H
                  exact absurd H (by simp)
              · rw [if_neg c8] at H
                exact absurd H (by simp)
            · rw [if_neg c7] at H
              have c7b0 : decide (a1 < x7_2) = false := decide_eq_false c7
              clear c7
              obtain rfl := Option.some.inj H
              go_wp2
              go_ret
              exact ⟨by first | rfl | (simp; done) | (simp [*]; done), by repeat (first | exact Drawn0.refl _ | apply Drawn0.step)⟩

/-! ### polyglotlaw06_ScanPlaces: function 8 -/
def polyglotlaw06_ScanPlaces.f (k : Nat) (a0 : ByteArray) (a1 : Int) : Option (Bool) := (polyglotlaw06_head.f k).bind fun t131 => (if t131 = true then (if (a0.size : Int) > 100 then (some true) else ((scan_Spaces.f k a0 a1).bind fun t132 => ((polyglotlaw06_longest.f k a0 a1 0).bind fun t133 => (if t132 = t133 then ((scan_Blank.f k a0 a1).bind fun t134 => ((polyglotlaw06_longest.f k a0 a1 1).bind fun t135 => (if t134 = t135 then ((scan_Name.f k a0 a1).bind fun t136 => ((polyglotlaw06_longest.f k a0 a1 2).bind fun t137 => (if t136 = t137 then ((scan_Number.f k a0 a1).bind fun t138 => ((polyglotlaw06_longest.f k a0 a1 3).bind fun t139 => (some (t138 == t139)))) else (some false)))) else (some false)))) else (some false))))) else (some false))
theorem polyglotlaw06_ScanPlaces.mono : ∀ a0 a1 k, LeO (polyglotlaw06_ScanPlaces.f k a0 a1) (polyglotlaw06_ScanPlaces.f (k + 1) a0 a1) := by
  intro a0 a1 k
  unfold polyglotlaw06_ScanPlaces.f
  repeat' first
      | (with_reducible exact polyglotlaw06_head.mono _)
      | (with_reducible exact polyglotlaw06_longest.mono _ _ _ _)
      | (with_reducible exact scan_Blank.mono _ _ _)
      | (with_reducible exact scan_Name.mono _ _ _)
      | (with_reducible exact scan_Number.mono _ _ _)
      | (with_reducible exact scan_Spaces.mono _ _ _)
      | (with_reducible exact LeO.refl _)
      | (with_reducible exact LeO.none _)
      | (with_reducible refine LeO.ite ?_ ?_)
      | (with_reducible refine LeO.bind ?_ (fun _ => ?_))
      | exact polyglotlaw06_head.mono _
      | exact polyglotlaw06_longest.mono _ _ _ _
      | exact scan_Blank.mono _ _ _
      | exact scan_Name.mono _ _ _
      | exact scan_Number.mono _ _ _
      | exact scan_Spaces.mono _ _ _
      | exact LeO.none _
      | refine LeO.ite ?_ ?_
      | refine LeO.bind ?_ (fun _ => ?_)
set_option maxHeartbeats 8000000 in
set_option maxRecDepth 100000 in
theorem polyglotlaw06_ScanPlaces.calls (k : Nat) (a0 : ByteArray) (a1 : Int) (r : Bool) (w : World) (h : polyglotlaw06_ScanPlaces.f k a0 a1 = some r) :
    Calls Try.prog 8 #[.string a0, .int .i64 a1] w fun e w' => e = .returned (.bool r) ∧ Drawn0 w w' := by
  have H : ((polyglotlaw06_head.f k).bind fun t131 => (if t131 = true then (if (a0.size : Int) > 100 then (some true) else ((scan_Spaces.f k a0 a1).bind fun t132 => ((polyglotlaw06_longest.f k a0 a1 0).bind fun t133 => (if t132 = t133 then ((scan_Blank.f k a0 a1).bind fun t134 => ((polyglotlaw06_longest.f k a0 a1 1).bind fun t135 => (if t134 = t135 then ((scan_Name.f k a0 a1).bind fun t136 => ((polyglotlaw06_longest.f k a0 a1 2).bind fun t137 => (if t136 = t137 then ((scan_Number.f k a0 a1).bind fun t138 => ((polyglotlaw06_longest.f k a0 a1 3).bind fun t139 => (some (t138 == t139)))) else (some false)))) else (some false)))) else (some false))))) else (some false))) = some r := h
  clear h
  replace H := Option.bind_eq_some_iff.mp H
  obtain ⟨t131, A30, H⟩ := H
  replace H : (if t131 = true then (if (a0.size : Int) > 100 then (some true) else ((scan_Spaces.f k a0 a1).bind fun t132 => ((polyglotlaw06_longest.f k a0 a1 0).bind fun t133 => (if t132 = t133 then ((scan_Blank.f k a0 a1).bind fun t134 => ((polyglotlaw06_longest.f k a0 a1 1).bind fun t135 => (if t134 = t135 then ((scan_Name.f k a0 a1).bind fun t136 => ((polyglotlaw06_longest.f k a0 a1 2).bind fun t137 => (if t136 = t137 then ((scan_Number.f k a0 a1).bind fun t138 => ((polyglotlaw06_longest.f k a0 a1 3).bind fun t139 => (some (t138 == t139)))) else (some false)))) else (some false)))) else (some false))))) else (some false)) = some r := H
  have A3 := Aside0.mk A30
  clear A30
  by_cases c4 : t131 = true
  · subst c4
    have H1 : (if (a0.size : Int) > 100 then (some true) else ((scan_Spaces.f k a0 a1).bind fun t132 => ((polyglotlaw06_longest.f k a0 a1 0).bind fun t133 => (if t132 = t133 then ((scan_Blank.f k a0 a1).bind fun t134 => ((polyglotlaw06_longest.f k a0 a1 1).bind fun t135 => (if t134 = t135 then ((scan_Name.f k a0 a1).bind fun t136 => ((polyglotlaw06_longest.f k a0 a1 2).bind fun t137 => (if t136 = t137 then ((scan_Number.f k a0 a1).bind fun t138 => ((polyglotlaw06_longest.f k a0 a1 3).bind fun t139 => (some (t138 == t139)))) else (some false)))) else (some false)))) else (some false))))) = some r := by rw [if_pos rfl] at H; exact H
    clear H
    have H := H1
    clear H1
    by_cases c5 : (a0.size : Int) > 100
    · rw [if_pos c5] at H
      have c5b0 : decide (100 < (a0.size : Int)) = true := decide_eq_true c5
      have c5b1 : decide (100 < a0.size) = true := decide_eq_true (by omega)
      clear c5
      obtain rfl := Option.some.inj H
      go_enter Try.func8, Try.ntmps8
      go_wp2_with (first | ((with_reducible refine gate_callee (f := 18) rfl ?_); refine goesL_ (some 5) rfl rfl Try.func18 (by kernel_rfl) rfl #[] rfl (by (try simp only [List.map_toArray, List.map_cons, List.map_nil]); first | done | rfl | (simp only [List.length_drop, List.length_take]; rfl)) ?_; (with_reducible refine (polyglotlaw06_head.calls k  true _ A3.out).mono ?_); rintro e w' ⟨rfl, ⟨nd, rfl⟩⟩; refine ⟨_, rfl, ?_⟩))
      go_ret
      exact ⟨by first | rfl | (simp; done) | (simp [*]; done), by repeat (first | exact Drawn0.refl _ | apply Drawn0.step)⟩
    · rw [if_neg c5] at H
      have c5b0 : decide (100 < (a0.size : Int)) = false := decide_eq_false c5
      have c5b1 : decide (100 < a0.size) = false := decide_eq_false (by omega)
      clear c5
      replace H := Option.bind_eq_some_iff.mp H
      obtain ⟨t132, A60, H⟩ := H
      replace H : ((polyglotlaw06_longest.f k a0 a1 0).bind fun t133 => (if t132 = t133 then ((scan_Blank.f k a0 a1).bind fun t134 => ((polyglotlaw06_longest.f k a0 a1 1).bind fun t135 => (if t134 = t135 then ((scan_Name.f k a0 a1).bind fun t136 => ((polyglotlaw06_longest.f k a0 a1 2).bind fun t137 => (if t136 = t137 then ((scan_Number.f k a0 a1).bind fun t138 => ((polyglotlaw06_longest.f k a0 a1 3).bind fun t139 => (some (t138 == t139)))) else (some false)))) else (some false)))) else (some false))) = some r := H
      have A6 := Aside0.mk A60
      clear A60
      replace H := Option.bind_eq_some_iff.mp H
      obtain ⟨t133, A70, H⟩ := H
      replace H : (if t132 = t133 then ((scan_Blank.f k a0 a1).bind fun t134 => ((polyglotlaw06_longest.f k a0 a1 1).bind fun t135 => (if t134 = t135 then ((scan_Name.f k a0 a1).bind fun t136 => ((polyglotlaw06_longest.f k a0 a1 2).bind fun t137 => (if t136 = t137 then ((scan_Number.f k a0 a1).bind fun t138 => ((polyglotlaw06_longest.f k a0 a1 3).bind fun t139 => (some (t138 == t139)))) else (some false)))) else (some false)))) else (some false)) = some r := H
      have A7 := Aside0.mk A70
      clear A70
      by_cases c8 : t132 = t133
      · rw [if_pos c8] at H
        have c8b0 : (t132 == t133) = true := beq_iff_eq.mpr c8
        have c8b1 : (t132 != t133) = false := bne_eq_false_iff_eq.mpr c8
        clear c8
        replace H := Option.bind_eq_some_iff.mp H
        obtain ⟨t134, A90, H⟩ := H
        replace H : ((polyglotlaw06_longest.f k a0 a1 1).bind fun t135 => (if t134 = t135 then ((scan_Name.f k a0 a1).bind fun t136 => ((polyglotlaw06_longest.f k a0 a1 2).bind fun t137 => (if t136 = t137 then ((scan_Number.f k a0 a1).bind fun t138 => ((polyglotlaw06_longest.f k a0 a1 3).bind fun t139 => (some (t138 == t139)))) else (some false)))) else (some false))) = some r := H
        have A9 := Aside0.mk A90
        clear A90
        replace H := Option.bind_eq_some_iff.mp H
        obtain ⟨t135, A100, H⟩ := H
        replace H : (if t134 = t135 then ((scan_Name.f k a0 a1).bind fun t136 => ((polyglotlaw06_longest.f k a0 a1 2).bind fun t137 => (if t136 = t137 then ((scan_Number.f k a0 a1).bind fun t138 => ((polyglotlaw06_longest.f k a0 a1 3).bind fun t139 => (some (t138 == t139)))) else (some false)))) else (some false)) = some r := H
        have A10 := Aside0.mk A100
        clear A100
        by_cases c11 : t134 = t135
        · rw [if_pos c11] at H
          have c11b0 : (t134 == t135) = true := beq_iff_eq.mpr c11
          have c11b1 : (t134 != t135) = false := bne_eq_false_iff_eq.mpr c11
          clear c11
          replace H := Option.bind_eq_some_iff.mp H
          obtain ⟨t136, A120, H⟩ := H
          replace H : ((polyglotlaw06_longest.f k a0 a1 2).bind fun t137 => (if t136 = t137 then ((scan_Number.f k a0 a1).bind fun t138 => ((polyglotlaw06_longest.f k a0 a1 3).bind fun t139 => (some (t138 == t139)))) else (some false))) = some r := H
          have A12 := Aside0.mk A120
          clear A120
          replace H := Option.bind_eq_some_iff.mp H
          obtain ⟨t137, A130, H⟩ := H
          replace H : (if t136 = t137 then ((scan_Number.f k a0 a1).bind fun t138 => ((polyglotlaw06_longest.f k a0 a1 3).bind fun t139 => (some (t138 == t139)))) else (some false)) = some r := H
          have A13 := Aside0.mk A130
          clear A130
          by_cases c14 : t136 = t137
          · rw [if_pos c14] at H
            have c14b0 : (t136 == t137) = true := beq_iff_eq.mpr c14
            have c14b1 : (t136 != t137) = false := bne_eq_false_iff_eq.mpr c14
            clear c14
            replace H := Option.bind_eq_some_iff.mp H
            obtain ⟨t138, A150, H⟩ := H
            replace H : ((polyglotlaw06_longest.f k a0 a1 3).bind fun t139 => (some (t138 == t139))) = some r := H
            have A15 := Aside0.mk A150
            clear A150
            replace H := Option.bind_eq_some_iff.mp H
            obtain ⟨t139, A160, H⟩ := H
            replace H : (some (t138 == t139)) = some r := H
            have A16 := Aside0.mk A160
            clear A160
            obtain rfl := Option.some.inj H
            go_enter Try.func8, Try.ntmps8
            go_wp2_with (first | ((with_reducible refine gate_callee (f := 18) rfl ?_); refine goesL_ (some 5) rfl rfl Try.func18 (by kernel_rfl) rfl #[] rfl (by (try simp only [List.map_toArray, List.map_cons, List.map_nil]); first | done | rfl | (simp only [List.length_drop, List.length_take]; rfl)) ?_; (with_reducible refine (polyglotlaw06_head.calls k  true _ A3.out).mono ?_); rintro e w' ⟨rfl, ⟨nd, rfl⟩⟩; refine ⟨_, rfl, ?_⟩) | ((with_reducible refine gate_callee (f := 20) rfl ?_); refine goesL_ (some 12) rfl rfl Try.func20 (by kernel_rfl) rfl #[.string a0, .int .i64 a1] rfl (by (try simp only [List.map_toArray, List.map_cons, List.map_nil]); first | done | rfl | (simp only [List.length_drop, List.length_take]; rfl)) ?_; (with_reducible refine (scan_Spaces.calls k a0 a1 t132 _ A6.out).mono ?_); rintro e w' ⟨rfl, ⟨nd, rfl⟩⟩; refine ⟨_, rfl, ?_⟩) | ((with_reducible refine gate_callee (f := 21) rfl ?_); refine goesL_ (some 15) rfl rfl Try.func21 (by kernel_rfl) rfl #[.string a0, .int .i64 a1, .int .i64 0] rfl (by (try simp only [List.map_toArray, List.map_cons, List.map_nil]); first | done | rfl | (simp only [List.length_drop, List.length_take]; rfl)) ?_; (with_reducible refine (polyglotlaw06_longest.calls k a0 a1 0 t133 _ A7.out).mono ?_); rintro e w' ⟨rfl, ⟨nd, rfl⟩⟩; refine ⟨_, rfl, ?_⟩) | (go_at_call 22; (with_reducible refine (scan_Blank.calls k a0 a1 t134 _ A9.out).mono ?_); rintro e w' ⟨rfl, ⟨nd, rfl⟩⟩) | (go_at_call 21; (with_reducible refine (polyglotlaw06_longest.calls k a0 a1 1 t135 _ A10.out).mono ?_); rintro e w' ⟨rfl, ⟨nd, rfl⟩⟩) | (go_at_call 23; (with_reducible refine (scan_Name.calls k a0 a1 t136 _ A12.out).mono ?_); rintro e w' ⟨rfl, ⟨nd, rfl⟩⟩) | (go_at_call 21; (with_reducible refine (polyglotlaw06_longest.calls k a0 a1 2 t137 _ A13.out).mono ?_); rintro e w' ⟨rfl, ⟨nd, rfl⟩⟩) | (go_at_call 24; (with_reducible refine (scan_Number.calls k a0 a1 t138 _ A15.out).mono ?_); rintro e w' ⟨rfl, ⟨nd, rfl⟩⟩) | (go_at_call 21; (with_reducible refine (polyglotlaw06_longest.calls k a0 a1 3 t139 _ A16.out).mono ?_); rintro e w' ⟨rfl, ⟨nd, rfl⟩⟩))
            go_ret
            exact ⟨by first | rfl | (simp; done) | (simp [*]; done), by repeat (first | exact Drawn0.refl _ | apply Drawn0.step)⟩
          · rw [if_neg c14] at H
            have c14b0 : (t136 == t137) = false := beq_eq_false_iff_ne.mpr c14
            have c14b1 : (t136 != t137) = true := bne_iff_ne.mpr c14
            obtain rfl := Option.some.inj H
            go_enter Try.func8, Try.ntmps8
            go_wp2_with (first | ((with_reducible refine gate_callee (f := 18) rfl ?_); refine goesL_ (some 5) rfl rfl Try.func18 (by kernel_rfl) rfl #[] rfl (by (try simp only [List.map_toArray, List.map_cons, List.map_nil]); first | done | rfl | (simp only [List.length_drop, List.length_take]; rfl)) ?_; (with_reducible refine (polyglotlaw06_head.calls k  true _ A3.out).mono ?_); rintro e w' ⟨rfl, ⟨nd, rfl⟩⟩; refine ⟨_, rfl, ?_⟩) | ((with_reducible refine gate_callee (f := 20) rfl ?_); refine goesL_ (some 12) rfl rfl Try.func20 (by kernel_rfl) rfl #[.string a0, .int .i64 a1] rfl (by (try simp only [List.map_toArray, List.map_cons, List.map_nil]); first | done | rfl | (simp only [List.length_drop, List.length_take]; rfl)) ?_; (with_reducible refine (scan_Spaces.calls k a0 a1 t132 _ A6.out).mono ?_); rintro e w' ⟨rfl, ⟨nd, rfl⟩⟩; refine ⟨_, rfl, ?_⟩) | ((with_reducible refine gate_callee (f := 21) rfl ?_); refine goesL_ (some 15) rfl rfl Try.func21 (by kernel_rfl) rfl #[.string a0, .int .i64 a1, .int .i64 0] rfl (by (try simp only [List.map_toArray, List.map_cons, List.map_nil]); first | done | rfl | (simp only [List.length_drop, List.length_take]; rfl)) ?_; (with_reducible refine (polyglotlaw06_longest.calls k a0 a1 0 t133 _ A7.out).mono ?_); rintro e w' ⟨rfl, ⟨nd, rfl⟩⟩; refine ⟨_, rfl, ?_⟩) | (go_at_call 22; (with_reducible refine (scan_Blank.calls k a0 a1 t134 _ A9.out).mono ?_); rintro e w' ⟨rfl, ⟨nd, rfl⟩⟩) | (go_at_call 21; (with_reducible refine (polyglotlaw06_longest.calls k a0 a1 1 t135 _ A10.out).mono ?_); rintro e w' ⟨rfl, ⟨nd, rfl⟩⟩) | (go_at_call 23; (with_reducible refine (scan_Name.calls k a0 a1 t136 _ A12.out).mono ?_); rintro e w' ⟨rfl, ⟨nd, rfl⟩⟩) | (go_at_call 21; (with_reducible refine (polyglotlaw06_longest.calls k a0 a1 2 t137 _ A13.out).mono ?_); rintro e w' ⟨rfl, ⟨nd, rfl⟩⟩))
            go_ret
            exact ⟨by first | rfl | (simp; done) | (simp [*]; done), by repeat (first | exact Drawn0.refl _ | apply Drawn0.step)⟩
        · rw [if_neg c11] at H
          have c11b0 : (t134 == t135) = false := beq_eq_false_iff_ne.mpr c11
          have c11b1 : (t134 != t135) = true := bne_iff_ne.mpr c11
          obtain rfl := Option.some.inj H
          go_enter Try.func8, Try.ntmps8
          go_wp2_with (first | ((with_reducible refine gate_callee (f := 18) rfl ?_); refine goesL_ (some 5) rfl rfl Try.func18 (by kernel_rfl) rfl #[] rfl (by (try simp only [List.map_toArray, List.map_cons, List.map_nil]); first | done | rfl | (simp only [List.length_drop, List.length_take]; rfl)) ?_; (with_reducible refine (polyglotlaw06_head.calls k  true _ A3.out).mono ?_); rintro e w' ⟨rfl, ⟨nd, rfl⟩⟩; refine ⟨_, rfl, ?_⟩) | ((with_reducible refine gate_callee (f := 20) rfl ?_); refine goesL_ (some 12) rfl rfl Try.func20 (by kernel_rfl) rfl #[.string a0, .int .i64 a1] rfl (by (try simp only [List.map_toArray, List.map_cons, List.map_nil]); first | done | rfl | (simp only [List.length_drop, List.length_take]; rfl)) ?_; (with_reducible refine (scan_Spaces.calls k a0 a1 t132 _ A6.out).mono ?_); rintro e w' ⟨rfl, ⟨nd, rfl⟩⟩; refine ⟨_, rfl, ?_⟩) | ((with_reducible refine gate_callee (f := 21) rfl ?_); refine goesL_ (some 15) rfl rfl Try.func21 (by kernel_rfl) rfl #[.string a0, .int .i64 a1, .int .i64 0] rfl (by (try simp only [List.map_toArray, List.map_cons, List.map_nil]); first | done | rfl | (simp only [List.length_drop, List.length_take]; rfl)) ?_; (with_reducible refine (polyglotlaw06_longest.calls k a0 a1 0 t133 _ A7.out).mono ?_); rintro e w' ⟨rfl, ⟨nd, rfl⟩⟩; refine ⟨_, rfl, ?_⟩) | (go_at_call 22; (with_reducible refine (scan_Blank.calls k a0 a1 t134 _ A9.out).mono ?_); rintro e w' ⟨rfl, ⟨nd, rfl⟩⟩) | (go_at_call 21; (with_reducible refine (polyglotlaw06_longest.calls k a0 a1 1 t135 _ A10.out).mono ?_); rintro e w' ⟨rfl, ⟨nd, rfl⟩⟩))
          go_ret
          exact ⟨by first | rfl | (simp; done) | (simp [*]; done), by repeat (first | exact Drawn0.refl _ | apply Drawn0.step)⟩
      · rw [if_neg c8] at H
        have c8b0 : (t132 == t133) = false := beq_eq_false_iff_ne.mpr c8
        have c8b1 : (t132 != t133) = true := bne_iff_ne.mpr c8
        obtain rfl := Option.some.inj H
        go_enter Try.func8, Try.ntmps8
        go_wp2_with (first | ((with_reducible refine gate_callee (f := 18) rfl ?_); refine goesL_ (some 5) rfl rfl Try.func18 (by kernel_rfl) rfl #[] rfl (by (try simp only [List.map_toArray, List.map_cons, List.map_nil]); first | done | rfl | (simp only [List.length_drop, List.length_take]; rfl)) ?_; (with_reducible refine (polyglotlaw06_head.calls k  true _ A3.out).mono ?_); rintro e w' ⟨rfl, ⟨nd, rfl⟩⟩; refine ⟨_, rfl, ?_⟩) | ((with_reducible refine gate_callee (f := 20) rfl ?_); refine goesL_ (some 12) rfl rfl Try.func20 (by kernel_rfl) rfl #[.string a0, .int .i64 a1] rfl (by (try simp only [List.map_toArray, List.map_cons, List.map_nil]); first | done | rfl | (simp only [List.length_drop, List.length_take]; rfl)) ?_; (with_reducible refine (scan_Spaces.calls k a0 a1 t132 _ A6.out).mono ?_); rintro e w' ⟨rfl, ⟨nd, rfl⟩⟩; refine ⟨_, rfl, ?_⟩) | ((with_reducible refine gate_callee (f := 21) rfl ?_); refine goesL_ (some 15) rfl rfl Try.func21 (by kernel_rfl) rfl #[.string a0, .int .i64 a1, .int .i64 0] rfl (by (try simp only [List.map_toArray, List.map_cons, List.map_nil]); first | done | rfl | (simp only [List.length_drop, List.length_take]; rfl)) ?_; (with_reducible refine (polyglotlaw06_longest.calls k a0 a1 0 t133 _ A7.out).mono ?_); rintro e w' ⟨rfl, ⟨nd, rfl⟩⟩; refine ⟨_, rfl, ?_⟩))
        go_ret
        exact ⟨by first | rfl | (simp; done) | (simp [*]; done), by repeat (first | exact Drawn0.refl _ | apply Drawn0.step)⟩
  · replace c4 := Bool.eq_false_iff.mpr c4
    subst c4
    have H1 : (some false) = some r := by rw [if_neg (show ¬ (false = true) by decide)] at H; exact H
    clear H
    have H := H1
    clear H1
    obtain rfl := Option.some.inj H
    go_enter Try.func8, Try.ntmps8
    go_wp2_with (first | ((with_reducible refine gate_callee (f := 18) rfl ?_); refine goesL_ (some 5) rfl rfl Try.func18 (by kernel_rfl) rfl #[] rfl (by (try simp only [List.map_toArray, List.map_cons, List.map_nil]); first | done | rfl | (simp only [List.length_drop, List.length_take]; rfl)) ?_; (with_reducible refine (polyglotlaw06_head.calls k  false _ A3.out).mono ?_); rintro e w' ⟨rfl, ⟨nd, rfl⟩⟩; refine ⟨_, rfl, ?_⟩))
    go_ret
    exact ⟨by first | rfl | (simp; done) | (simp [*]; done), by repeat (first | exact Drawn0.refl _ | apply Drawn0.step)⟩

/-- THE ONE PURE STATEMENT of polyglotlaw06_ScanPlaces: yours. -/
def polyglotlaw06_ScanPlaces.Pure : Prop := ∀ (a0 : ByteArray) (a1 : Int), a0.size ≤ 140737488351232 → (Lit.int .i64 a1).wf = true → ∃ k, polyglotlaw06_ScanPlaces.f k a0 a1 = some true
theorem polyglotlaw06_ScanPlaces.walk (P : polyglotlaw06_ScanPlaces.Pure) (a0 : ByteArray) (a1 : Int) (w : World) (w0 : a0.size ≤ 140737488351232) (w1 : (Lit.int .i64 a1).wf = true) :
    Calls Try.prog 8 #[.string a0, .int .i64 a1] w fun e w' => e = .returned (.bool true) ∧ Below w.heap.size w w' := by
  obtain ⟨k, h⟩ := P a0 a1 w0 w1
  refine (polyglotlaw06_ScanPlaces.calls k a0 a1 true w h).mono ?_
  rintro e w' ⟨rfl, hd⟩
  exact ⟨rfl, hd.below⟩

/-! ### scan_IsName: function 26 -/
def scan_IsName.f (k : Nat) (a0 : ByteArray) : Option (Bool) := if a0.toList = ([] : List UInt8) then (some false) else ((scan_Name.f k a0 0).bind fun t140 => (some (t140 == (a0.size : Int))))
theorem scan_IsName.mono : ∀ a0 k, LeO (scan_IsName.f k a0) (scan_IsName.f (k + 1) a0) := by
  intro a0 k
  unfold scan_IsName.f
  repeat' first
      | (with_reducible exact scan_Name.mono _ _ _)
      | (with_reducible exact LeO.refl _)
      | (with_reducible exact LeO.none _)
      | (with_reducible refine LeO.ite ?_ ?_)
      | (with_reducible refine LeO.bind ?_ (fun _ => ?_))
      | exact scan_Name.mono _ _ _
      | exact LeO.none _
      | refine LeO.ite ?_ ?_
      | refine LeO.bind ?_ (fun _ => ?_)
set_option maxHeartbeats 8000000 in
set_option maxRecDepth 100000 in
theorem scan_IsName.calls (k : Nat) (a0 : ByteArray) (r : Bool) (w : World) (h : scan_IsName.f k a0 = some r) :
    Calls Try.prog 26 #[.string a0] w fun e w' => e = .returned (.bool r) ∧ Drawn0 w w' := by
  have H : (if a0.toList = ([] : List UInt8) then (some false) else ((scan_Name.f k a0 0).bind fun t140 => (some (t140 == (a0.size : Int))))) = some r := h
  clear h
  by_cases c2 : a0.toList = ([] : List UInt8)
  · rw [if_pos c2] at H
    have c2b0 : (a0.toList == ([] : List UInt8)) = true := beq_iff_eq.mpr c2
    have c2b1 : (a0.toList != ([] : List UInt8)) = false := bne_eq_false_iff_eq.mpr c2
    clear c2
    obtain rfl := Option.some.inj H
    go_enter Try.func26, Try.ntmps26
    go_wp2
    go_ret
    exact ⟨by first | rfl | (simp; done) | (simp [*]; done), by repeat (first | exact Drawn0.refl _ | apply Drawn0.step)⟩
  · rw [if_neg c2] at H
    have c2b0 : (a0.toList == ([] : List UInt8)) = false := beq_eq_false_iff_ne.mpr c2
    have c2b1 : (a0.toList != ([] : List UInt8)) = true := bne_iff_ne.mpr c2
    replace H := Option.bind_eq_some_iff.mp H
    obtain ⟨t140, A30, H⟩ := H
    replace H : (some (t140 == (a0.size : Int))) = some r := H
    have A3 := Aside0.mk A30
    clear A30
    obtain rfl := Option.some.inj H
    go_enter Try.func26, Try.ntmps26
    go_wp2_with (first | (go_at_call 23; (with_reducible refine (scan_Name.calls k a0 0 t140 _ A3.out).mono ?_); rintro e w' ⟨rfl, ⟨nd, rfl⟩⟩))
    go_ret
    exact ⟨by first | rfl | (simp; done) | (simp [*]; done), by repeat (first | exact Drawn0.refl _ | apply Drawn0.step)⟩

/-! ### scan_Big_1: function 41 -/
def scan_Big_1.f (a0 : Int) : Option (Bool) := if a0 ≥ 65 then (if a0 ≤ 90 then (some true) else ((scan_digit.f a0).bind fun t141 => (if t141 = true then (some true) else (if a0 = 95 then (some true) else (some (a0 == 45)))))) else ((scan_digit.f a0).bind fun t142 => (if t142 = true then (some true) else (if a0 = 95 then (some true) else (some (a0 == 45)))))
set_option maxHeartbeats 8000000 in
set_option maxRecDepth 100000 in
theorem scan_Big_1.calls (a0 : Int) (r : Bool) (w : World) (h : scan_Big_1.f a0 = some r) :
    Calls Try.prog 41 #[.int .u8 a0] w fun e w' => e = .returned (.bool r) ∧ Drawn0 w w' := by
  have H : (if a0 ≥ 65 then (if a0 ≤ 90 then (some true) else ((scan_digit.f a0).bind fun t141 => (if t141 = true then (some true) else (if a0 = 95 then (some true) else (some (a0 == 45)))))) else ((scan_digit.f a0).bind fun t142 => (if t142 = true then (some true) else (if a0 = 95 then (some true) else (some (a0 == 45)))))) = some r := h
  clear h
  by_cases c2 : a0 ≥ 65
  · rw [if_pos c2] at H
    have c2b0 : decide (65 ≤ a0) = true := decide_eq_true c2
    clear c2
    by_cases c3 : a0 ≤ 90
    · rw [if_pos c3] at H
      have c3b0 : decide (a0 ≤ 90) = true := decide_eq_true c3
      clear c3
      obtain rfl := Option.some.inj H
      go_enter Try.func41, Try.ntmps41
      go_wp2
      go_ret
      exact ⟨by first | rfl | (simp; done) | (simp [*]; done), by repeat (first | exact Drawn0.refl _ | apply Drawn0.step)⟩
    · rw [if_neg c3] at H
      have c3b0 : decide (a0 ≤ 90) = false := decide_eq_false c3
      clear c3
      replace H := Option.bind_eq_some_iff.mp H
      obtain ⟨t141, A40, H⟩ := H
      replace H : (if t141 = true then (some true) else (if a0 = 95 then (some true) else (some (a0 == 45)))) = some r := H
      have A4 := Aside0.mk A40
      clear A40
      by_cases c5 : t141 = true
      · subst c5
        have H1 : (some true) = some r := by rw [if_pos rfl] at H; exact H
        clear H
        have H := H1
        clear H1
        obtain rfl := Option.some.inj H
        go_enter Try.func41, Try.ntmps41
        go_wp2_with (first | (go_at_call 39; (with_reducible refine (scan_digit.calls a0 true _ A4.out).mono ?_); rintro e w' ⟨rfl, ⟨nd, rfl⟩⟩))
        go_ret
        exact ⟨by first | rfl | (simp; done) | (simp [*]; done), by repeat (first | exact Drawn0.refl _ | apply Drawn0.step)⟩
      · replace c5 := Bool.eq_false_iff.mpr c5
        subst c5
        have H1 : (if a0 = 95 then (some true) else (some (a0 == 45))) = some r := by rw [if_neg (show ¬ (false = true) by decide)] at H; exact H
        clear H
        have H := H1
        clear H1
        by_cases c6 : a0 = 95
        · rw [if_pos c6] at H
          have c6b0 : (a0 == 95) = true := beq_iff_eq.mpr c6
          have c6b1 : (a0 != 95) = false := bne_eq_false_iff_eq.mpr c6
          clear c6
          obtain rfl := Option.some.inj H
          go_enter Try.func41, Try.ntmps41
          go_wp2_with (first | (go_at_call 39; (with_reducible refine (scan_digit.calls a0 false _ A4.out).mono ?_); rintro e w' ⟨rfl, ⟨nd, rfl⟩⟩))
          go_ret
          exact ⟨by first | rfl | (simp; done) | (simp [*]; done), by repeat (first | exact Drawn0.refl _ | apply Drawn0.step)⟩
        · rw [if_neg c6] at H
          have c6b0 : (a0 == 95) = false := beq_eq_false_iff_ne.mpr c6
          have c6b1 : (a0 != 95) = true := bne_iff_ne.mpr c6
          obtain rfl := Option.some.inj H
          go_enter Try.func41, Try.ntmps41
          go_wp2_with (first | (go_at_call 39; (with_reducible refine (scan_digit.calls a0 false _ A4.out).mono ?_); rintro e w' ⟨rfl, ⟨nd, rfl⟩⟩))
          go_ret
          exact ⟨by first | rfl | (simp; done) | (simp [*]; done), by repeat (first | exact Drawn0.refl _ | apply Drawn0.step)⟩
  · rw [if_neg c2] at H
    have c2b0 : decide (65 ≤ a0) = false := decide_eq_false c2
    clear c2
    replace H := Option.bind_eq_some_iff.mp H
    obtain ⟨t142, A70, H⟩ := H
    replace H : (if t142 = true then (some true) else (if a0 = 95 then (some true) else (some (a0 == 45)))) = some r := H
    have A7 := Aside0.mk A70
    clear A70
    by_cases c8 : t142 = true
    · subst c8
      have H1 : (some true) = some r := by rw [if_pos rfl] at H; exact H
      clear H
      have H := H1
      clear H1
      obtain rfl := Option.some.inj H
      go_enter Try.func41, Try.ntmps41
      go_wp2_with (first | (go_at_call 39; (with_reducible refine (scan_digit.calls a0 true _ A7.out).mono ?_); rintro e w' ⟨rfl, ⟨nd, rfl⟩⟩))
      go_ret
      exact ⟨by first | rfl | (simp; done) | (simp [*]; done), by repeat (first | exact Drawn0.refl _ | apply Drawn0.step)⟩
    · replace c8 := Bool.eq_false_iff.mpr c8
      subst c8
      have H1 : (if a0 = 95 then (some true) else (some (a0 == 45))) = some r := by rw [if_neg (show ¬ (false = true) by decide)] at H; exact H
      clear H
      have H := H1
      clear H1
      by_cases c9 : a0 = 95
      · rw [if_pos c9] at H
        have c9b0 : (a0 == 95) = true := beq_iff_eq.mpr c9
        have c9b1 : (a0 != 95) = false := bne_eq_false_iff_eq.mpr c9
        clear c9
        obtain rfl := Option.some.inj H
        go_enter Try.func41, Try.ntmps41
        go_wp2_with (first | (go_at_call 39; (with_reducible refine (scan_digit.calls a0 false _ A7.out).mono ?_); rintro e w' ⟨rfl, ⟨nd, rfl⟩⟩))
        go_ret
        exact ⟨by first | rfl | (simp; done) | (simp [*]; done), by repeat (first | exact Drawn0.refl _ | apply Drawn0.step)⟩
      · rw [if_neg c9] at H
        have c9b0 : (a0 == 95) = false := beq_eq_false_iff_ne.mpr c9
        have c9b1 : (a0 != 95) = true := bne_iff_ne.mpr c9
        obtain rfl := Option.some.inj H
        go_enter Try.func41, Try.ntmps41
        go_wp2_with (first | (go_at_call 39; (with_reducible refine (scan_digit.calls a0 false _ A7.out).mono ?_); rintro e w' ⟨rfl, ⟨nd, rfl⟩⟩))
        go_ret
        exact ⟨by first | rfl | (simp; done) | (simp [*]; done), by repeat (first | exact Drawn0.refl _ | apply Drawn0.step)⟩

end Go.Proofs.Ytajcpdiobkkcmaa.PScan
