-- Written by this session's own program (wip/drive.py) over the kit's printer: not the printer's own text.
import Derived.Test.YtajcpdiobkkcmaaPScanx0
import Derived.Test.YtajcpdiobkkcmaaPScanx2
import Derived.Test.YtajcpdiobkkcmaaPScanx3
import Derived.Test.YtajcpdiobkkcmaaPScanx4
namespace Go.Proofs.Ytajcpdiobkkcmaa.PScan
open Go.RowKit Go.Proofs.YtajcpdiobkkcmaaHand Go.Proofs.YtajcpdiobkkcmaaW.PrintWords Go.Proofs.YtajcpdiobkkcmaaW.PrintLast Go.Proofs.YtajcpdiobkkcmaaW.PrintMore
attribute [local go_sem] max2_int min2_int max_two min_two max_three min_three max_four min_four   -- for this text's walks alone
set_option linter.unusedVariables false
set_option linter.unusedSimpArgs false

/-! ### scan_while_41: function 32 -/
def scan_while_41.l0 : Nat → ByteArray → Int → Option (Int)
  | 0, _, _ => none
  | k + 1, x0, x1 => if x1 ≥ 0 then (if x1 < (x0.size : Int) then (if 0 ≤ x1 then ((scan_Big_1.f (bt x0 x1)).bind fun t143 => (if t143 = true then (scan_while_41.l0 k x0 (wrap64 (x1 + 1))) else (some x1))) else (none)) else (some x1)) else (some x1)
def scan_while_41.f (k : Nat) (a0 : ByteArray) (a1 : Int) (a2 : Nat) : Option (Int) := scan_while_41.l0 k a0 a1
theorem scan_while_41.mono_l : ∀ k, (∀ y0 y1, LeO (scan_while_41.l0 k y0 y1) (scan_while_41.l0 (k + 1) y0 y1))
  | 0 => fun _ _ r h => by simp [scan_while_41.l0] at h
  | k + 1 => by
    have ih0 := scan_while_41.mono_l k
    · intro y0 y1
      unfold scan_while_41.l0
      repeat' first
      | (with_reducible exact ih0 _ _)
      | (with_reducible exact LeO.refl _)
      | (with_reducible exact LeO.none _)
      | (with_reducible refine LeO.ite ?_ ?_)
      | (with_reducible refine LeO.bind ?_ (fun _ => ?_))
      | exact ih0 _ _
      | exact LeO.none _
      | refine LeO.ite ?_ ?_
      | refine LeO.bind ?_ (fun _ => ?_)
theorem scan_while_41.mono : ∀ a0 a1 a2 k, LeO (scan_while_41.f k a0 a1 a2) (scan_while_41.f (k + 1) a0 a1 a2) := by
  intro a0 a1 a2 k
  have ih0 := scan_while_41.mono_l k
  unfold scan_while_41.f
  repeat' first
      | (with_reducible exact ih0 _ _)
      | (with_reducible exact LeO.refl _)
      | (with_reducible exact LeO.none _)
      | (with_reducible refine LeO.ite ?_ ?_)
      | (with_reducible refine LeO.bind ?_ (fun _ => ?_))
      | exact ih0 _ _
      | exact LeO.none _
      | refine LeO.ite ?_ ?_
      | refine LeO.bind ?_ (fun _ => ?_)
set_option maxHeartbeats 8000000 in
set_option maxRecDepth 100000 in
theorem scan_while_41.calls (k : Nat) (a0 : ByteArray) (a1 : Int) (a2 : Nat) (r : Int) (w : World) (h : scan_while_41.f k a0 a1 a2 = some r) :
    Calls Try.prog 32 #[.string a0, .int .i64 a1, .func (.func 41) #[] #[]] w fun e w' => e = .returned (.int .i64 r) ∧ Drawn0 w w' := by
  have H : (scan_while_41.l0 k a0 a1) = some r := h
  clear h
  have H' := Aside0.mk H
  clear H
  go_enter Try.func32, Try.ntmps32
  go_wp2
  go_loopg [1] k (fun kq v1 w' => ∃ (x1_1 : Int), v1 = .int .i64 x1_1 ∧ Aside0 (scan_while_41.l0 kq a0 x1_1 = some r) ∧ Aside0 (kq ≤ k) ∧ Drawn0 w w')
  case atStart => exact ⟨(a1), (by first | rfl | (simp; done) | (simp [*]; done)), H', ⟨Nat.le_refl _⟩, by repeat (first | exact Drawn0.refl _ | apply Drawn0.step)⟩
  case round =>
    clear H'
    try clear p2
    obtain ⟨x1_1, rfl, HA, HK1, ⟨m1, rfl⟩⟩ := hrel
    cases gk with
    | zero => exact absurd HA.out (by simp [scan_while_41.l0])
    | succ k1 =>
      have H := HA.out
      clear HA
      simp only [scan_while_41.l0] at H
      by_cases c4 : x1_1 ≥ 0
      · rw [if_pos c4] at H
        have c4b0 : decide (0 ≤ x1_1) = true := decide_eq_true c4
        clear c4
        by_cases c5 : x1_1 < (a0.size : Int)
        · rw [if_pos c5] at H
          have c5b0 : decide (x1_1 < (a0.size : Int)) = true := decide_eq_true c5
          clear c5
          by_cases c6 : 0 ≤ x1_1
          · rw [if_pos c6] at H
            have c6b0 : decide (0 ≤ x1_1) = true := decide_eq_true c6
            clear c6
            replace H := Option.bind_eq_some_iff.mp H
            obtain ⟨t143, A80, H⟩ := H
            replace H : (if t143 = true then (scan_while_41.l0 k1 a0 (wrap64 (x1_1 + 1))) else (some x1_1)) = some r := H
            have A8 := Aside0.mk A80
            clear A80
            by_cases c9 : t143 = true
            · subst c9
              have H1 : (scan_while_41.l0 k1 a0 (wrap64 (x1_1 + 1))) = some r := by rw [if_pos rfl] at H; exact H
              clear H
              have H := H1
              clear H1
              have H' := Aside0.mk H
              clear H
              have p7 : 0 ≤ (x1_1 : Int) := of_decide_eq_true (by first | (with_reducible assumption) | assumption)
              have q7 : x1_1 < (a0.size : Int) := of_decide_eq_true (by first | (with_reducible assumption) | assumption)
              have hx7 := bt_at a0 x1_1
              replace p7 := eq_true p7
              replace q7 := eq_true q7
              go_wp2_with (first | (go_at_call 41; (with_reducible refine (scan_Big_1.calls (bt a0 x1_1) true _ A8.out).mono ?_); rintro e w' ⟨rfl, ⟨nd, rfl⟩⟩))
              go_roundg k1
              case measure => have := HK1.out; omega
              case rel => exact ⟨(wrap64 (x1_1 + 1)), (by first | rfl | (simp; done) | (simp [*]; done)), H', ⟨by have := HK1.out; omega⟩, by repeat (first | exact Drawn0.refl _ | apply Drawn0.step)⟩
            · replace c9 := Bool.eq_false_iff.mpr c9
              subst c9
              have H1 : (some x1_1) = some r := by rw [if_neg (show ¬ (false = true) by decide)] at H; exact H
              clear H
              have H := H1
              clear H1
              obtain rfl := Option.some.inj H
              have p7 : 0 ≤ (x1_1 : Int) := of_decide_eq_true (by first | (with_reducible assumption) | assumption)
              have q7 : x1_1 < (a0.size : Int) := of_decide_eq_true (by first | (with_reducible assumption) | assumption)
              have hx7 := bt_at a0 x1_1
              replace p7 := eq_true p7
              replace q7 := eq_true q7
              go_wp2_with (first | (go_at_call 41; (with_reducible refine (scan_Big_1.calls (bt a0 x1_1) false _ A8.out).mono ?_); rintro e w' ⟨rfl, ⟨nd, rfl⟩⟩))
              go_ret
              exact ⟨by first | rfl | (simp; done) | (simp [*]; done), by repeat (first | exact Drawn0.refl _ | apply Drawn0.step)⟩
          · rw [if_neg c6] at H
            exact absurd H (by simp)
        · rw [if_neg c5] at H
          have c5b0 : decide (x1_1 < (a0.size : Int)) = false := decide_eq_false c5
          clear c5
          obtain rfl := Option.some.inj H
          go_wp2
          go_ret
          exact ⟨by first | rfl | (simp; done) | (simp [*]; done), by repeat (first | exact Drawn0.refl _ | apply Drawn0.step)⟩
      · rw [if_neg c4] at H
        have c4b0 : decide (0 ≤ x1_1) = false := decide_eq_false c4
        clear c4
        obtain rfl := Option.some.inj H
        go_wp2
        go_ret
        exact ⟨by first | rfl | (simp; done) | (simp [*]; done), by repeat (first | exact Drawn0.refl _ | apply Drawn0.step)⟩

/-! ### scan_Big: function 28 -/
def scan_Big.f (k : Nat) (a0 : ByteArray) : Option (Bool) := if a0.toList = ([] : List UInt8) then (some false) else ((scan_while_41.f k a0 0 41).bind fun t144 => (some (t144 == (a0.size : Int))))
theorem scan_Big.mono : ∀ a0 k, LeO (scan_Big.f k a0) (scan_Big.f (k + 1) a0) := by
  intro a0 k
  unfold scan_Big.f
  repeat' first
      | (with_reducible exact scan_while_41.mono _ _ _ _)
      | (with_reducible exact LeO.refl _)
      | (with_reducible exact LeO.none _)
      | (with_reducible refine LeO.ite ?_ ?_)
      | (with_reducible refine LeO.bind ?_ (fun _ => ?_))
      | exact scan_while_41.mono _ _ _ _
      | exact LeO.none _
      | refine LeO.ite ?_ ?_
      | refine LeO.bind ?_ (fun _ => ?_)
set_option maxHeartbeats 8000000 in
set_option maxRecDepth 100000 in
theorem scan_Big.calls (k : Nat) (a0 : ByteArray) (r : Bool) (w : World) (h : scan_Big.f k a0 = some r) :
    Calls Try.prog 28 #[.string a0] w fun e w' => e = .returned (.bool r) ∧ Drawn0 w w' := by
  have H : (if a0.toList = ([] : List UInt8) then (some false) else ((scan_while_41.f k a0 0 41).bind fun t144 => (some (t144 == (a0.size : Int))))) = some r := h
  clear h
  by_cases c2 : a0.toList = ([] : List UInt8)
  · rw [if_pos c2] at H
    have c2b0 : (a0.toList == ([] : List UInt8)) = true := beq_iff_eq.mpr c2
    have c2b1 : (a0.toList != ([] : List UInt8)) = false := bne_eq_false_iff_eq.mpr c2
    clear c2
    obtain rfl := Option.some.inj H
    go_enter Try.func28, Try.ntmps28
    go_wp2
    go_ret
    exact ⟨by first | rfl | (simp; done) | (simp [*]; done), by repeat (first | exact Drawn0.refl _ | apply Drawn0.step)⟩
  · rw [if_neg c2] at H
    have c2b0 : (a0.toList == ([] : List UInt8)) = false := beq_eq_false_iff_ne.mpr c2
    have c2b1 : (a0.toList != ([] : List UInt8)) = true := bne_iff_ne.mpr c2
    replace H := Option.bind_eq_some_iff.mp H
    obtain ⟨t144, A30, H⟩ := H
    replace H : (some (t144 == (a0.size : Int))) = some r := H
    have A3 := Aside0.mk A30
    clear A30
    obtain rfl := Option.some.inj H
    go_enter Try.func28, Try.ntmps28
    go_wp2_with (first | (go_at_call 32; (with_reducible refine (scan_while_41.calls k a0 0 41 t144 _ A3.out).mono ?_); rintro e w' ⟨rfl, ⟨nd, rfl⟩⟩))
    go_ret
    exact ⟨by first | rfl | (simp; done) | (simp [*]; done), by repeat (first | exact Drawn0.refl _ | apply Drawn0.step)⟩

/-! ### polyglotlaw06_ScanNames: function 9 -/
def polyglotlaw06_ScanNames.l0 : Nat → ByteArray → Bool → Int → Option (Bool)
  | 0, _, _, _ => none
  | k + 1, x0, x3, x4 => if x4 < (x0.size : Int) then (if 0 ≤ x4 then (if x3 = true then (if (bt x0 x4) ≥ 65 then (if (bt x0 x4) ≤ 90 then (polyglotlaw06_ScanNames.l0 k x0 true (wrap64 (x4 + 1))) else ((polyglotlaw06_digit.f (bt x0 x4)).bind fun t146 => (if t146 = true then (polyglotlaw06_ScanNames.l0 k x0 true (wrap64 (x4 + 1))) else (if (bt x0 x4) = 95 then (polyglotlaw06_ScanNames.l0 k x0 true (wrap64 (x4 + 1))) else (polyglotlaw06_ScanNames.l0 k x0 ((bt x0 x4) == 45) (wrap64 (x4 + 1))))))) else ((polyglotlaw06_digit.f (bt x0 x4)).bind fun t147 => (if t147 = true then (polyglotlaw06_ScanNames.l0 k x0 true (wrap64 (x4 + 1))) else (if (bt x0 x4) = 95 then (polyglotlaw06_ScanNames.l0 k x0 true (wrap64 (x4 + 1))) else (polyglotlaw06_ScanNames.l0 k x0 ((bt x0 x4) == 45) (wrap64 (x4 + 1))))))) else (polyglotlaw06_ScanNames.l0 k x0 false (wrap64 (x4 + 1)))) else (none)) else ((scan_IsName.f k x0).bind fun t148 => ((polyglotlaw06_Name.f k x0).bind fun t149 => (if (t148 == t149) = true then ((scan_Big.f k x0).bind fun t150 => (some (t150 == x3))) else (some false))))
def polyglotlaw06_ScanNames.f (k : Nat) (a0 : ByteArray) : Option (Bool) := (polyglotlaw06_head.f k).bind fun t145 => (if t145 = true then (if (a0.size : Int) > 100 then (some true) else (polyglotlaw06_ScanNames.l0 k a0 (decide ((a0.size : Int) > 0)) 0)) else (some false))
theorem polyglotlaw06_ScanNames.mono_l : ∀ k, (∀ y0 y1 y2, LeO (polyglotlaw06_ScanNames.l0 k y0 y1 y2) (polyglotlaw06_ScanNames.l0 (k + 1) y0 y1 y2))
  | 0 => fun _ _ _ r h => by simp [polyglotlaw06_ScanNames.l0] at h
  | k + 1 => by
    have ih0 := polyglotlaw06_ScanNames.mono_l k
    · intro y0 y1 y2
      unfold polyglotlaw06_ScanNames.l0
      repeat' first
      | (with_reducible exact ih0 _ _ _)
      | (with_reducible exact polyglotlaw06_Name.mono _ _)
      | (with_reducible exact polyglotlaw06_head.mono _)
      | (with_reducible exact scan_Big.mono _ _)
      | (with_reducible exact scan_IsName.mono _ _)
      | (with_reducible exact LeO.refl _)
      | (with_reducible exact LeO.none _)
      | (with_reducible refine LeO.ite ?_ ?_)
      | (with_reducible refine LeO.bind ?_ (fun _ => ?_))
      | exact ih0 _ _ _
      | exact polyglotlaw06_Name.mono _ _
      | exact polyglotlaw06_head.mono _
      | exact scan_Big.mono _ _
      | exact scan_IsName.mono _ _
      | exact LeO.none _
      | refine LeO.ite ?_ ?_
      | refine LeO.bind ?_ (fun _ => ?_)
theorem polyglotlaw06_ScanNames.mono : ∀ a0 k, LeO (polyglotlaw06_ScanNames.f k a0) (polyglotlaw06_ScanNames.f (k + 1) a0) := by
  intro a0 k
  have ih0 := polyglotlaw06_ScanNames.mono_l k
  unfold polyglotlaw06_ScanNames.f
  repeat' first
      | (with_reducible exact ih0 _ _ _)
      | (with_reducible exact polyglotlaw06_Name.mono _ _)
      | (with_reducible exact polyglotlaw06_head.mono _)
      | (with_reducible exact scan_Big.mono _ _)
      | (with_reducible exact scan_IsName.mono _ _)
      | (with_reducible exact LeO.refl _)
      | (with_reducible exact LeO.none _)
      | (with_reducible refine LeO.ite ?_ ?_)
      | (with_reducible refine LeO.bind ?_ (fun _ => ?_))
      | exact ih0 _ _ _
      | exact polyglotlaw06_Name.mono _ _
      | exact polyglotlaw06_head.mono _
      | exact scan_Big.mono _ _
      | exact scan_IsName.mono _ _
      | exact LeO.none _
      | refine LeO.ite ?_ ?_
      | refine LeO.bind ?_ (fun _ => ?_)
set_option maxHeartbeats 8000000 in
set_option maxRecDepth 100000 in
theorem polyglotlaw06_ScanNames.calls (k : Nat) (a0 : ByteArray) (r : Bool) (w : World) (h : polyglotlaw06_ScanNames.f k a0 = some r) :
    Calls Try.prog 9 #[.string a0] w fun e w' => e = .returned (.bool r) ∧ Drawn0 w w' := by
  have H : ((polyglotlaw06_head.f k).bind fun t145 => (if t145 = true then (if (a0.size : Int) > 100 then (some true) else (polyglotlaw06_ScanNames.l0 k a0 (decide ((a0.size : Int) > 0)) 0)) else (some false))) = some r := h
  clear h
  replace H := Option.bind_eq_some_iff.mp H
  obtain ⟨t145, A20, H⟩ := H
  replace H : (if t145 = true then (if (a0.size : Int) > 100 then (some true) else (polyglotlaw06_ScanNames.l0 k a0 (decide ((a0.size : Int) > 0)) 0)) else (some false)) = some r := H
  have A2 := Aside0.mk A20
  clear A20
  by_cases c3 : t145 = true
  · subst c3
    have H1 : (if (a0.size : Int) > 100 then (some true) else (polyglotlaw06_ScanNames.l0 k a0 (decide ((a0.size : Int) > 0)) 0)) = some r := by rw [if_pos rfl] at H; exact H
    clear H
    have H := H1
    clear H1
    by_cases c4 : (a0.size : Int) > 100
    · rw [if_pos c4] at H
      have c4b0 : decide (100 < (a0.size : Int)) = true := decide_eq_true c4
      have c4b1 : decide (100 < a0.size) = true := decide_eq_true (by omega)
      clear c4
      obtain rfl := Option.some.inj H
      go_enter Try.func9, Try.ntmps9
      go_wp2_with (first | ((with_reducible refine gate_callee (f := 18) rfl ?_); refine goesL_ (some 6) rfl rfl Try.func18 (by kernel_rfl) rfl #[] rfl (by (try simp only [List.map_toArray, List.map_cons, List.map_nil]); first | done | rfl | (simp only [List.length_drop, List.length_take]; rfl)) ?_; (with_reducible refine (polyglotlaw06_head.calls k  true _ A2.out).mono ?_); rintro e w' ⟨rfl, ⟨nd, rfl⟩⟩; refine ⟨_, rfl, ?_⟩))
      go_ret
      exact ⟨by first | rfl | (simp; done) | (simp [*]; done), by repeat (first | exact Drawn0.refl _ | apply Drawn0.step)⟩
    · rw [if_neg c4] at H
      have c4b0 : decide (100 < (a0.size : Int)) = false := decide_eq_false c4
      have c4b1 : decide (100 < a0.size) = false := decide_eq_false (by omega)
      clear c4
      have H' := Aside0.mk H
      clear H
      go_enter Try.func9, Try.ntmps9
      go_wp2_with (first | ((with_reducible refine gate_callee (f := 18) rfl ?_); refine goesL_ (some 6) rfl rfl Try.func18 (by kernel_rfl) rfl #[] rfl (by (try simp only [List.map_toArray, List.map_cons, List.map_nil]); first | done | rfl | (simp only [List.length_drop, List.length_take]; rfl)) ?_; (with_reducible refine (polyglotlaw06_head.calls k  true _ A2.out).mono ?_); rintro e w' ⟨rfl, ⟨nd, rfl⟩⟩; refine ⟨_, rfl, ?_⟩))
      go_loopg [3, 4] k (fun kq v3 v4 w' => ∃ (x3_1 : Bool) (x4_1 : Int), v3 = .bool x3_1 ∧ v4 = .int .i64 x4_1 ∧ Aside0 (polyglotlaw06_ScanNames.l0 kq a0 x3_1 x4_1 = some r) ∧ Aside0 (kq ≤ k) ∧ Drawn0 w w')
      case atStart => exact ⟨(decide ((a0.size : Int) > 0)), (0), (by first | rfl | (simp; done) | (simp [*]; done)), (by first | rfl | (simp; done) | (simp [*]; done)), H', ⟨Nat.le_refl _⟩, by repeat (first | exact Drawn0.refl _ | apply Drawn0.step)⟩
      case round =>
        clear H'
        try clear c1
        try clear p2
        try clear c3
        try clear c4
        try clear c4b0
        try clear c4b1
        obtain ⟨x3_1, x4_1, rfl, rfl, HA, HK1, ⟨m1, rfl⟩⟩ := hrel
        cases gk with
        | zero => exact absurd HA.out (by simp [polyglotlaw06_ScanNames.l0])
        | succ k1 =>
          have H := HA.out
          clear HA
          simp only [polyglotlaw06_ScanNames.l0] at H
          by_cases c5 : x4_1 < (a0.size : Int)
          · rw [if_pos c5] at H
            have c5b0 : decide (x4_1 < (a0.size : Int)) = true := decide_eq_true c5
            clear c5
            by_cases c6 : 0 ≤ x4_1
            · rw [if_pos c6] at H
              have c6b0 : decide (0 ≤ x4_1) = true := decide_eq_true c6
              clear c6
              by_cases c8 : x3_1 = true
              · subst c8
                have H1 : (if (bt a0 x4_1) ≥ 65 then (if (bt a0 x4_1) ≤ 90 then (polyglotlaw06_ScanNames.l0 k1 a0 true (wrap64 (x4_1 + 1))) else ((polyglotlaw06_digit.f (bt a0 x4_1)).bind fun t146 => (if t146 = true then (polyglotlaw06_ScanNames.l0 k1 a0 true (wrap64 (x4_1 + 1))) else (if (bt a0 x4_1) = 95 then (polyglotlaw06_ScanNames.l0 k1 a0 true (wrap64 (x4_1 + 1))) else (polyglotlaw06_ScanNames.l0 k1 a0 ((bt a0 x4_1) == 45) (wrap64 (x4_1 + 1))))))) else ((polyglotlaw06_digit.f (bt a0 x4_1)).bind fun t147 => (if t147 = true then (polyglotlaw06_ScanNames.l0 k1 a0 true (wrap64 (x4_1 + 1))) else (if (bt a0 x4_1) = 95 then (polyglotlaw06_ScanNames.l0 k1 a0 true (wrap64 (x4_1 + 1))) else (polyglotlaw06_ScanNames.l0 k1 a0 ((bt a0 x4_1) == 45) (wrap64 (x4_1 + 1))))))) = some r := by rw [if_pos rfl] at H; exact H
                clear H
                have H := H1
                clear H1
                by_cases c9 : (bt a0 x4_1) ≥ 65
                · rw [if_pos c9] at H
                  have c9b0 : decide (65 ≤ (bt a0 x4_1)) = true := decide_eq_true c9
                  clear c9
                  by_cases c10 : (bt a0 x4_1) ≤ 90
                  · rw [if_pos c10] at H
                    have c10b0 : decide ((bt a0 x4_1) ≤ 90) = true := decide_eq_true c10
                    clear c10
                    have H' := Aside0.mk H
                    clear H
                    have p7 : 0 ≤ (x4_1 : Int) := of_decide_eq_true (by first | (with_reducible assumption) | assumption)
                    have q7 : x4_1 < (a0.size : Int) := of_decide_eq_true (by first | (with_reducible assumption) | assumption)
                    have hx7 := bt_at a0 x4_1
                    replace p7 := eq_true p7
                    replace q7 := eq_true q7
                    go_wp2
                    go_roundg k1
                    case measure => have := HK1.out; omega
                    case rel => exact ⟨(true), (wrap64 (x4_1 + 1)), (by first | rfl | (simp; done) | (simp [*]; done)), (by first | rfl | (simp; done) | (simp [*]; done)), H', ⟨by have := HK1.out; omega⟩, by repeat (first | exact Drawn0.refl _ | apply Drawn0.step)⟩
                  · rw [if_neg c10] at H
                    have c10b0 : decide ((bt a0 x4_1) ≤ 90) = false := decide_eq_false c10
                    clear c10
                    replace H := Option.bind_eq_some_iff.mp H
                    obtain ⟨t146, A110, H⟩ := H
                    replace H : (if t146 = true then (polyglotlaw06_ScanNames.l0 k1 a0 true (wrap64 (x4_1 + 1))) else (if (bt a0 x4_1) = 95 then (polyglotlaw06_ScanNames.l0 k1 a0 true (wrap64 (x4_1 + 1))) else (polyglotlaw06_ScanNames.l0 k1 a0 ((bt a0 x4_1) == 45) (wrap64 (x4_1 + 1))))) = some r := H
                    have A11 := Aside0.mk A110
                    clear A110
                    by_cases c12 : t146 = true
                    · subst c12
                      have H1 : (polyglotlaw06_ScanNames.l0 k1 a0 true (wrap64 (x4_1 + 1))) = some r := by rw [if_pos rfl] at H; exact H
                      clear H
                      have H := H1
                      clear H1
                      have H' := Aside0.mk H
                      clear H
                      have p7 : 0 ≤ (x4_1 : Int) := of_decide_eq_true (by first | (with_reducible assumption) | assumption)
                      have q7 : x4_1 < (a0.size : Int) := of_decide_eq_true (by first | (with_reducible assumption) | assumption)
                      have hx7 := bt_at a0 x4_1
                      replace p7 := eq_true p7
                      replace q7 := eq_true q7
                      go_wp2_with (first | (go_at_call 25; (with_reducible refine (polyglotlaw06_digit.calls (bt a0 x4_1) true _ A11.out).mono ?_); rintro e w' ⟨rfl, ⟨nd, rfl⟩⟩))
                      go_roundg k1
                      case measure => have := HK1.out; omega
                      case rel => exact ⟨(true), (wrap64 (x4_1 + 1)), (by first | rfl | (simp; done) | (simp [*]; done)), (by first | rfl | (simp; done) | (simp [*]; done)), H', ⟨by have := HK1.out; omega⟩, by repeat (first | exact Drawn0.refl _ | apply Drawn0.step)⟩
                    · replace c12 := Bool.eq_false_iff.mpr c12
                      subst c12
                      have H1 : (if (bt a0 x4_1) = 95 then (polyglotlaw06_ScanNames.l0 k1 a0 true (wrap64 (x4_1 + 1))) else (polyglotlaw06_ScanNames.l0 k1 a0 ((bt a0 x4_1) == 45) (wrap64 (x4_1 + 1)))) = some r := by rw [if_neg (show ¬ (false = true) by decide)] at H; exact H
                      clear H
                      have H := H1
                      clear H1
                      by_cases c13 : (bt a0 x4_1) = 95
                      · rw [if_pos c13] at H
                        have c13b0 : ((bt a0 x4_1) == 95) = true := beq_iff_eq.mpr c13
                        have c13b1 : ((bt a0 x4_1) != 95) = false := bne_eq_false_iff_eq.mpr c13
                        clear c13
                        have H' := Aside0.mk H
                        clear H
                        have p7 : 0 ≤ (x4_1 : Int) := of_decide_eq_true (by first | (with_reducible assumption) | assumption)
                        have q7 : x4_1 < (a0.size : Int) := of_decide_eq_true (by first | (with_reducible assumption) | assumption)
                        have hx7 := bt_at a0 x4_1
                        replace p7 := eq_true p7
                        replace q7 := eq_true q7
                        go_wp2_with (first | (go_at_call 25; (with_reducible refine (polyglotlaw06_digit.calls (bt a0 x4_1) false _ A11.out).mono ?_); rintro e w' ⟨rfl, ⟨nd, rfl⟩⟩))
                        go_roundg k1
                        case measure => have := HK1.out; omega
                        case rel => exact ⟨(true), (wrap64 (x4_1 + 1)), (by first | rfl | (simp; done) | (simp [*]; done)), (by first | rfl | (simp; done) | (simp [*]; done)), H', ⟨by have := HK1.out; omega⟩, by repeat (first | exact Drawn0.refl _ | apply Drawn0.step)⟩
                      · rw [if_neg c13] at H
                        have c13b0 : ((bt a0 x4_1) == 95) = false := beq_eq_false_iff_ne.mpr c13
                        have c13b1 : ((bt a0 x4_1) != 95) = true := bne_iff_ne.mpr c13
                        have H' := Aside0.mk H
                        clear H
                        have p7 : 0 ≤ (x4_1 : Int) := of_decide_eq_true (by first | (with_reducible assumption) | assumption)
                        have q7 : x4_1 < (a0.size : Int) := of_decide_eq_true (by first | (with_reducible assumption) | assumption)
                        have hx7 := bt_at a0 x4_1
                        replace p7 := eq_true p7
                        replace q7 := eq_true q7
                        go_wp2_with (first | (go_at_call 25; (with_reducible refine (polyglotlaw06_digit.calls (bt a0 x4_1) false _ A11.out).mono ?_); rintro e w' ⟨rfl, ⟨nd, rfl⟩⟩))
                        go_roundg k1
                        case measure => have := HK1.out; omega
                        case rel => exact ⟨(((bt a0 x4_1) == 45)), (wrap64 (x4_1 + 1)), (by first | rfl | (simp; done) | (simp [*]; done)), (by first | rfl | (simp; done) | (simp [*]; done)), H', ⟨by have := HK1.out; omega⟩, by repeat (first | exact Drawn0.refl _ | apply Drawn0.step)⟩
                · rw [if_neg c9] at H
                  have c9b0 : decide (65 ≤ (bt a0 x4_1)) = false := decide_eq_false c9
                  clear c9
                  replace H := Option.bind_eq_some_iff.mp H
                  obtain ⟨t147, A140, H⟩ := H
                  replace H : (if t147 = true then (polyglotlaw06_ScanNames.l0 k1 a0 true (wrap64 (x4_1 + 1))) else (if (bt a0 x4_1) = 95 then (polyglotlaw06_ScanNames.l0 k1 a0 true (wrap64 (x4_1 + 1))) else (polyglotlaw06_ScanNames.l0 k1 a0 ((bt a0 x4_1) == 45) (wrap64 (x4_1 + 1))))) = some r := H
                  have A14 := Aside0.mk A140
                  clear A140
                  by_cases c15 : t147 = true
                  · subst c15
                    have H1 : (polyglotlaw06_ScanNames.l0 k1 a0 true (wrap64 (x4_1 + 1))) = some r := by rw [if_pos rfl] at H; exact H
                    clear H
                    have H := H1
                    clear H1
                    have H' := Aside0.mk H
                    clear H
                    have p7 : 0 ≤ (x4_1 : Int) := of_decide_eq_true (by first | (with_reducible assumption) | assumption)
                    have q7 : x4_1 < (a0.size : Int) := of_decide_eq_true (by first | (with_reducible assumption) | assumption)
                    have hx7 := bt_at a0 x4_1
                    replace p7 := eq_true p7
                    replace q7 := eq_true q7
                    go_wp2_with (first | (go_at_call 25; (with_reducible refine (polyglotlaw06_digit.calls (bt a0 x4_1) true _ A14.out).mono ?_); rintro e w' ⟨rfl, ⟨nd, rfl⟩⟩))
                    go_roundg k1
                    case measure => have := HK1.out; omega
                    case rel => exact ⟨(true), (wrap64 (x4_1 + 1)), (by first | rfl | (simp; done) | (simp [*]; done)), (by first | rfl | (simp; done) | (simp [*]; done)), H', ⟨by have := HK1.out; omega⟩, by repeat (first | exact Drawn0.refl _ | apply Drawn0.step)⟩
                  · replace c15 := Bool.eq_false_iff.mpr c15
                    subst c15
                    have H1 : (if (bt a0 x4_1) = 95 then (polyglotlaw06_ScanNames.l0 k1 a0 true (wrap64 (x4_1 + 1))) else (polyglotlaw06_ScanNames.l0 k1 a0 ((bt a0 x4_1) == 45) (wrap64 (x4_1 + 1)))) = some r := by rw [if_neg (show ¬ (false = true) by decide)] at H; exact H
                    clear H
                    have H := H1
                    clear H1
                    by_cases c16 : (bt a0 x4_1) = 95
                    · rw [if_pos c16] at H
                      have c16b0 : ((bt a0 x4_1) == 95) = true := beq_iff_eq.mpr c16
                      have c16b1 : ((bt a0 x4_1) != 95) = false := bne_eq_false_iff_eq.mpr c16
                      clear c16
                      have H' := Aside0.mk H
                      clear H
                      have p7 : 0 ≤ (x4_1 : Int) := of_decide_eq_true (by first | (with_reducible assumption) | assumption)
                      have q7 : x4_1 < (a0.size : Int) := of_decide_eq_true (by first | (with_reducible assumption) | assumption)
                      have hx7 := bt_at a0 x4_1
                      replace p7 := eq_true p7
                      replace q7 := eq_true q7
                      go_wp2_with (first | (go_at_call 25; (with_reducible refine (polyglotlaw06_digit.calls (bt a0 x4_1) false _ A14.out).mono ?_); rintro e w' ⟨rfl, ⟨nd, rfl⟩⟩))
                      go_roundg k1
                      case measure => have := HK1.out; omega
                      case rel => exact ⟨(true), (wrap64 (x4_1 + 1)), (by first | rfl | (simp; done) | (simp [*]; done)), (by first | rfl | (simp; done) | (simp [*]; done)), H', ⟨by have := HK1.out; omega⟩, by repeat (first | exact Drawn0.refl _ | apply Drawn0.step)⟩
                    · rw [if_neg c16] at H
                      have c16b0 : ((bt a0 x4_1) == 95) = false := beq_eq_false_iff_ne.mpr c16
                      have c16b1 : ((bt a0 x4_1) != 95) = true := bne_iff_ne.mpr c16
                      have H' := Aside0.mk H
                      clear H
                      have p7 : 0 ≤ (x4_1 : Int) := of_decide_eq_true (by first | (with_reducible assumption) | assumption)
                      have q7 : x4_1 < (a0.size : Int) := of_decide_eq_true (by first | (with_reducible assumption) | assumption)
                      have hx7 := bt_at a0 x4_1
                      replace p7 := eq_true p7
                      replace q7 := eq_true q7
                      go_wp2_with (first | (go_at_call 25; (with_reducible refine (polyglotlaw06_digit.calls (bt a0 x4_1) false _ A14.out).mono ?_); rintro e w' ⟨rfl, ⟨nd, rfl⟩⟩))
                      go_roundg k1
                      case measure => have := HK1.out; omega
                      case rel => exact ⟨(((bt a0 x4_1) == 45)), (wrap64 (x4_1 + 1)), (by first | rfl | (simp; done) | (simp [*]; done)), (by first | rfl | (simp; done) | (simp [*]; done)), H', ⟨by have := HK1.out; omega⟩, by repeat (first | exact Drawn0.refl _ | apply Drawn0.step)⟩
              · replace c8 := Bool.eq_false_iff.mpr c8
                subst c8
                have H1 : (polyglotlaw06_ScanNames.l0 k1 a0 false (wrap64 (x4_1 + 1))) = some r := by rw [if_neg (show ¬ (false = true) by decide)] at H; exact H
                clear H
                have H := H1
                clear H1
                have H' := Aside0.mk H
                clear H
                have p7 : 0 ≤ (x4_1 : Int) := of_decide_eq_true (by first | (with_reducible assumption) | assumption)
                have q7 : x4_1 < (a0.size : Int) := of_decide_eq_true (by first | (with_reducible assumption) | assumption)
                have hx7 := bt_at a0 x4_1
                replace p7 := eq_true p7
                replace q7 := eq_true q7
                go_wp2
                go_roundg k1
                case measure => have := HK1.out; omega
                case rel => exact ⟨(false), (wrap64 (x4_1 + 1)), (by first | rfl | (simp; done) | (simp [*]; done)), (by first | rfl | (simp; done) | (simp [*]; done)), H', ⟨by have := HK1.out; omega⟩, by repeat (first | exact Drawn0.refl _ | apply Drawn0.step)⟩
            · rw [if_neg c6] at H
              exact absurd H (by simp)
          · rw [if_neg c5] at H
            have c5b0 : decide (x4_1 < (a0.size : Int)) = false := decide_eq_false c5
            clear c5
            replace H := Option.bind_eq_some_iff.mp H
            obtain ⟨t148, A170, H⟩ := H
            replace H : ((polyglotlaw06_Name.f k1 a0).bind fun t149 => (if (t148 == t149) = true then ((scan_Big.f k1 a0).bind fun t150 => (some (t150 == x3_1))) else (some false))) = some r := H
            have A17 := Aside0.mk A170
            clear A170
            replace H := Option.bind_eq_some_iff.mp H
            obtain ⟨t149, A180, H⟩ := H
            replace H : (if (t148 == t149) = true then ((scan_Big.f k1 a0).bind fun t150 => (some (t150 == x3_1))) else (some false)) = some r := H
            have A18 := Aside0.mk A180
            clear A180
            by_cases c19 : (t148 == t149) = true
            · rw [if_pos c19] at H
              have c19b0 : (t148 == t149) = true := c19
              (try (have c19b1 : decide (t148 = t149) = true := by simpa using c19))
              (try (have c19b2 : (t148 == t149) = true := by simpa using c19))
              clear c19
              replace H := Option.bind_eq_some_iff.mp H
              obtain ⟨t150, A200, H⟩ := H
              replace H : (some (t150 == x3_1)) = some r := H
              have A20 := Aside0.mk A200
              clear A200
              obtain rfl := Option.some.inj H
              go_wp2_with (first | ((with_reducible refine gate_callee (f := 26) rfl ?_); refine goesL_ (some 45) rfl rfl Try.func26 (by kernel_rfl) rfl #[.string a0] rfl (by (try simp only [List.map_toArray, List.map_cons, List.map_nil]); first | done | rfl | (simp only [List.length_drop, List.length_take]; rfl)) ?_; (with_reducible refine (scan_IsName.calls k1 a0 t148 _ A17.out).mono ?_); rintro e w' ⟨rfl, ⟨nd, rfl⟩⟩; refine ⟨_, rfl, ?_⟩) | ((with_reducible refine gate_callee (f := 27) rfl ?_); refine goesL_ (some 47) rfl rfl Try.func27 (by kernel_rfl) rfl #[.string a0] rfl (by (try simp only [List.map_toArray, List.map_cons, List.map_nil]); first | done | rfl | (simp only [List.length_drop, List.length_take]; rfl)) ?_; (with_reducible refine (polyglotlaw06_Name.calls k1 a0 t149 _ A18.out).mono ?_); rintro e w' ⟨rfl, ⟨nd, rfl⟩⟩; refine ⟨_, rfl, ?_⟩) | (go_at_call 28; (with_reducible refine (scan_Big.calls k1 a0 t150 _ A20.out).mono ?_); rintro e w' ⟨rfl, ⟨nd, rfl⟩⟩))
              go_ret
              exact ⟨by first | rfl | (simp; done) | (simp [*]; done), by repeat (first | exact Drawn0.refl _ | apply Drawn0.step)⟩
            · rw [if_neg c19] at H
              have c19b0 : (t148 == t149) = false := by simpa using c19
              (try (have c19b1 : decide (t148 = t149) = false := by simpa using c19))
              (try (have c19b2 : (t148 == t149) = false := by simpa using c19))
              (try (have c19b3 : ¬ (t148 = t149) := by simpa using c19))
              clear c19
              obtain rfl := Option.some.inj H
              go_wp2_with (first | ((with_reducible refine gate_callee (f := 26) rfl ?_); refine goesL_ (some 45) rfl rfl Try.func26 (by kernel_rfl) rfl #[.string a0] rfl (by (try simp only [List.map_toArray, List.map_cons, List.map_nil]); first | done | rfl | (simp only [List.length_drop, List.length_take]; rfl)) ?_; (with_reducible refine (scan_IsName.calls k1 a0 t148 _ A17.out).mono ?_); rintro e w' ⟨rfl, ⟨nd, rfl⟩⟩; refine ⟨_, rfl, ?_⟩) | ((with_reducible refine gate_callee (f := 27) rfl ?_); refine goesL_ (some 47) rfl rfl Try.func27 (by kernel_rfl) rfl #[.string a0] rfl (by (try simp only [List.map_toArray, List.map_cons, List.map_nil]); first | done | rfl | (simp only [List.length_drop, List.length_take]; rfl)) ?_; (with_reducible refine (polyglotlaw06_Name.calls k1 a0 t149 _ A18.out).mono ?_); rintro e w' ⟨rfl, ⟨nd, rfl⟩⟩; refine ⟨_, rfl, ?_⟩))
              go_ret
              exact ⟨by first | rfl | (simp; done) | (simp [*]; done), by repeat (first | exact Drawn0.refl _ | apply Drawn0.step)⟩
  · replace c3 := Bool.eq_false_iff.mpr c3
    subst c3
    have H1 : (some false) = some r := by rw [if_neg (show ¬ (false = true) by decide)] at H; exact H
    clear H
    have H := H1
    clear H1
    obtain rfl := Option.some.inj H
    go_enter Try.func9, Try.ntmps9
    go_wp2_with (first | ((with_reducible refine gate_callee (f := 18) rfl ?_); refine goesL_ (some 6) rfl rfl Try.func18 (by kernel_rfl) rfl #[] rfl (by (try simp only [List.map_toArray, List.map_cons, List.map_nil]); first | done | rfl | (simp only [List.length_drop, List.length_take]; rfl)) ?_; (with_reducible refine (polyglotlaw06_head.calls k  false _ A2.out).mono ?_); rintro e w' ⟨rfl, ⟨nd, rfl⟩⟩; refine ⟨_, rfl, ?_⟩))
    go_ret
    exact ⟨by first | rfl | (simp; done) | (simp [*]; done), by repeat (first | exact Drawn0.refl _ | apply Drawn0.step)⟩

/-- THE ONE PURE STATEMENT of polyglotlaw06_ScanNames: yours. -/
def polyglotlaw06_ScanNames.Pure : Prop := ∀ (a0 : ByteArray), a0.size ≤ 140737488351232 → ∃ k, polyglotlaw06_ScanNames.f k a0 = some true
theorem polyglotlaw06_ScanNames.walk (P : polyglotlaw06_ScanNames.Pure) (a0 : ByteArray) (w : World) (w0 : a0.size ≤ 140737488351232) :
    Calls Try.prog 9 #[.string a0] w fun e w' => e = .returned (.bool true) ∧ Below w.heap.size w w' := by
  obtain ⟨k, h⟩ := P a0 w0
  refine (polyglotlaw06_ScanNames.calls k a0 true w h).mono ?_
  rintro e w' ⟨rfl, hd⟩
  exact ⟨rfl, hd.below⟩

end Go.Proofs.Ytajcpdiobkkcmaa.PScan
