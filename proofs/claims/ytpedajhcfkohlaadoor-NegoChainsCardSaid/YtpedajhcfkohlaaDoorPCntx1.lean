import Derived.Test.YtpedajhcfkohlaaDoorProg
import Derived.Below
import Derived.Deep.Draws
import Derived.Deep.AppendLies
import Derived.Maps.AppendAt
import Derived.OwnWalk
import Derived.Laws.BytesArg
import Derived.Laws.MakeOwn
import Derived.Laws.OwnMore
import Derived.Deep.OwnRows
import Derived.Tactics
import Derived.Lib.ConvBytes
import Derived.Laws.Slices
import Derived.WalkKit
import Derived.KernelRfl
import Derived.RowKit3
import Derived.Deep.LoopGhost
import Derived.Deep.QuietTactic
import Derived.BigQuiet
import Derived.WideLaws
import Derived.Deep.DeepCutAuto
import Derived.Deep.CutBlock
import Derived.Deep.RegionHeld3
import Derived.Laws.Rows
import Derived.Lib.AppendStr
import Derived.ArgAppend
import Derived.Laws.IdiomCopy
import Derived.OrdersHeld
import Derived.Laws.BitsLemmas
import Derived.RowKit
import Derived.Test.YtpedajhcfkohlaaDoorWWords
import Derived.Test.YtpedajhcfkohlaaDoorWLast
import Derived.Test.YtpedajhcfkohlaaDoorWTab
import Derived.Test.YtpedajhcfkohlaaDoorWFour
import Derived.Test.YtpedajhcfkohlaaDoorWQPut
import Derived.Test.YtpedajhcfkohlaaDoorWApart
import Derived.Test.YtpedajhcfkohlaaDoorWArr
import Derived.Test.YtpedajhcfkohlaaDoorWZeros
import Derived.Test.YtpedajhcfkohlaaDoorWFoot
import Derived.Test.YtpedajhcfkohlaaDoorWKept
import Derived.Test.YtpedajhcfkohlaaDoorWShare
import Derived.Test.YtpedajhcfkohlaaDoorWN
import Derived.Test.YtpedajhcfkohlaaDoorWFootNe
import Derived.Test.YtpedajhcfkohlaaDoorWAt
import Derived.Test.YtpedajhcfkohlaaDoorWEqStruct
import Derived.Test.YtpedajhcfkohlaaDoorWRepsOne
import Derived.Test.YtpedajhcfkohlaaDoorWInv
import Derived.Test.YtpedajhcfkohlaaDoorWInvWords
import Derived.Test.YtpedajhcfkohlaaDoorWGuard
import Derived.Test.YtpedajhcfkohlaaDoorWNEv
import Derived.Test.YtpedajhcfkohlaaDoorWMore
-- Written by this session's own program (wip/drive.py) over the kit's printer: not the printer's own text.
namespace Go.Proofs.YtpedajhcfkohlaaDoor.PCnt
open Go.RowKit Go.Proofs.YtpedajhcfkohlaaDoorW.PrintWords Go.Proofs.YtpedajhcfkohlaaDoorW.PrintLast Go.Proofs.YtpedajhcfkohlaaDoorW.PrintMore
attribute [local go_sem] max2_int min2_int max_two min_two max_three min_three max_four min_four   -- for this text's walks alone
set_option linter.unusedVariables false
set_option linter.unusedSimpArgs false



def errW : Option Int → Value
  | none => .nilIface
  | some c => .iface 0 (.int .i64 c)
theorem errW_none : errW none = .nilIface := rfl
theorem errW_some (c : Int) : errW (some c) = .iface 0 (.int .i64 c) := rfl

-- the values' own types

end Go.Proofs.YtpedajhcfkohlaaDoor.PCnt
-- Written by this session's own program (wip/drive.py) over the kit's printer: not the printer's own text.
namespace Go.Proofs.YtpedajhcfkohlaaDoor.PCnt
open Go.RowKit Go.Proofs.YtpedajhcfkohlaaDoorW.PrintWords Go.Proofs.YtpedajhcfkohlaaDoorW.PrintLast Go.Proofs.YtpedajhcfkohlaaDoorW.PrintMore
attribute [local go_sem] max2_int min2_int max_two min_two max_three min_three max_four min_four   -- for this text's walks alone
set_option linter.unusedVariables false
set_option linter.unusedSimpArgs false

/-! ### polyglotlaw03_count: function 43 -/
mutual
def polyglotlaw03_count.l0 : Nat → ByteArray → Int → Int → Int → Option (Int × Int)
  | 0, _, _, _, _ => none
  | k + 1, x0, x4, x5, x6 => if x6 < (x0.size : Int) then (if 0 ≤ x6 then (if (bt x0 x6) ≥ 97 then (if (bt x0 x6) ≤ 122 then (polyglotlaw03_count.j1 k x0 x4 x5 x6 (bt x0 x6) true) else (if (bt x0 x6) ≥ 65 then (polyglotlaw03_count.j1 k x0 x4 x5 x6 (bt x0 x6) (decide ((bt x0 x6) ≤ 90))) else (polyglotlaw03_count.j1 k x0 x4 x5 x6 (bt x0 x6) false))) else (if (bt x0 x6) ≥ 65 then (polyglotlaw03_count.j1 k x0 x4 x5 x6 (bt x0 x6) (decide ((bt x0 x6) ≤ 90))) else (polyglotlaw03_count.j1 k x0 x4 x5 x6 (bt x0 x6) false))) else (none)) else (some (x4, x5))
def polyglotlaw03_count.j1 : Nat → ByteArray → Int → Int → Int → Int → Bool → Option (Int × Int)
  | 0, _, _, _, _, _, _ => none
  | k + 1, x0, x4, x5, x6, x7, x17 => if x17 = true then (polyglotlaw03_count.l0 k x0 (wrap64 (x4 + 1)) x5 (wrap64 (x6 + 1))) else (if x7 ≥ 48 then (if x7 ≤ 57 then (polyglotlaw03_count.l0 k x0 x4 (wrap64 (x5 + 1)) (wrap64 (x6 + 1))) else (some ((-1), (-1)))) else (some ((-1), (-1))))
end
def polyglotlaw03_count.f (k : Nat) (a0 : ByteArray) : Option (Int × Int) := polyglotlaw03_count.l0 k a0 0 0 0
theorem polyglotlaw03_count.mono_l : ∀ k, (∀ y0 y1 y2 y3, LeO (polyglotlaw03_count.l0 k y0 y1 y2 y3) (polyglotlaw03_count.l0 (k + 1) y0 y1 y2 y3)) ∧ (∀ y0 y1 y2 y3 y4 y5, LeO (polyglotlaw03_count.j1 k y0 y1 y2 y3 y4 y5) (polyglotlaw03_count.j1 (k + 1) y0 y1 y2 y3 y4 y5))
  | 0 => ⟨fun _ _ _ _ r h => by simp [polyglotlaw03_count.l0] at h, fun _ _ _ _ _ _ r h => by simp [polyglotlaw03_count.j1] at h⟩
  | k + 1 => by
    obtain ⟨ih0, ih1⟩ := polyglotlaw03_count.mono_l k
    refine ⟨?_, ?_⟩
    · intro y0 y1 y2 y3
      unfold polyglotlaw03_count.l0
      repeat' first
      | (with_reducible exact ih0 _ _ _ _)
      | (with_reducible exact ih1 _ _ _ _ _ _)
      | (with_reducible exact LeO.refl _)
      | (with_reducible exact LeO.none _)
      | (with_reducible refine LeO.ite ?_ ?_)
      | (with_reducible refine LeO.bind ?_ (fun _ => ?_))
      | exact ih0 _ _ _ _
      | exact ih1 _ _ _ _ _ _
      | exact LeO.none _
      | refine LeO.ite ?_ ?_
      | refine LeO.bind ?_ (fun _ => ?_)
    · intro y0 y1 y2 y3 y4 y5
      unfold polyglotlaw03_count.j1
      repeat' first
      | (with_reducible exact ih0 _ _ _ _)
      | (with_reducible exact ih1 _ _ _ _ _ _)
      | (with_reducible exact LeO.refl _)
      | (with_reducible exact LeO.none _)
      | (with_reducible refine LeO.ite ?_ ?_)
      | (with_reducible refine LeO.bind ?_ (fun _ => ?_))
      | exact ih0 _ _ _ _
      | exact ih1 _ _ _ _ _ _
      | exact LeO.none _
      | refine LeO.ite ?_ ?_
      | refine LeO.bind ?_ (fun _ => ?_)
theorem polyglotlaw03_count.mono : ∀ a0 k, LeO (polyglotlaw03_count.f k a0) (polyglotlaw03_count.f (k + 1) a0) := by
  intro a0 k
  obtain ⟨ih0, ih1⟩ := polyglotlaw03_count.mono_l k
  unfold polyglotlaw03_count.f
  repeat' first
      | (with_reducible exact ih0 _ _ _ _)
      | (with_reducible exact ih1 _ _ _ _ _ _)
      | (with_reducible exact LeO.refl _)
      | (with_reducible exact LeO.none _)
      | (with_reducible refine LeO.ite ?_ ?_)
      | (with_reducible refine LeO.bind ?_ (fun _ => ?_))
      | exact ih0 _ _ _ _
      | exact ih1 _ _ _ _ _ _
      | exact LeO.none _
      | refine LeO.ite ?_ ?_
      | refine LeO.bind ?_ (fun _ => ?_)
set_option maxHeartbeats 8000000 in
set_option maxRecDepth 100000 in
theorem polyglotlaw03_count.calls (k : Nat) (a0 : ByteArray) (r1 : Int) (r2 : Int) (w : World) (h : polyglotlaw03_count.f k a0 = some (r1, r2)) :
    Calls Tryd.prog 43 #[.string a0] w fun e w' => e = .returned (.tuple #[.int .i64 r1, .int .i64 r2]) ∧ Drawn0 w w' := by
  have H : (polyglotlaw03_count.l0 k a0 0 0 0) = some (r1, r2) := h
  clear h
  have H' := Aside0.mk H
  clear H
  go_enter Tryd.func43, Tryd.ntmps43
  go_wp2
  go_loopg [4, 5, 6] k (fun kq v4 v5 v6 w' => ∃ (x4_l1 : Int) (x5_l1 : Int) (x6_l1 : Int), v4 = .int .i64 x4_l1 ∧ v5 = .int .i64 x5_l1 ∧ v6 = .int .i64 x6_l1 ∧ Aside0 (polyglotlaw03_count.l0 kq a0 x4_l1 x5_l1 x6_l1 = some (r1, r2)) ∧ Aside0 (kq ≤ k) ∧ Drawn0 w w')
  case atStart => exact ⟨(0), (0), (0), (by first | rfl | (simp; done) | (simp [*]; done)), (by first | rfl | (simp; done) | (simp [*]; done)), (by first | rfl | (simp; done) | (simp [*]; done)), H', ⟨Nat.le_refl _⟩, by repeat (first | exact Drawn0.refl _ | apply Drawn0.step)⟩
  case round =>
    clear H'
    obtain ⟨x4_l1, x5_l1, x6_l1, rfl, rfl, rfl, HA, HK1, ⟨m1, rfl⟩⟩ := hrel
    cases gk with
    | zero => exact absurd HA.out (by simp [polyglotlaw03_count.l0])
    | succ k1 =>
      have H := HA.out
      clear HA
      simp only [polyglotlaw03_count.l0] at H
      by_cases c2 : x6_l1 < (a0.size : Int)
      · rw [if_pos c2] at H
        have c2b0 : decide (x6_l1 < (a0.size : Int)) = true := decide_eq_true c2
        clear c2
        by_cases c3 : 0 ≤ x6_l1
        · rw [if_pos c3] at H
          have c3b0 : decide (0 ≤ x6_l1) = true := decide_eq_true c3
          clear c3
          have HC5 := Aside0.mk H
          clear H
          have p4 : 0 ≤ (x6_l1 : Int) := of_decide_eq_true (by first | (with_reducible assumption) | assumption)
          have q4 : x6_l1 < (a0.size : Int) := of_decide_eq_true (by first | (with_reducible assumption) | assumption)
          have hx4 := bt_at a0 x6_l1
          replace p4 := eq_true p4
          replace q4 := eq_true q4
          go_upto_region 8 with (fail)
          go_cut [17] (fun v17 wc => ∃ (kq : Nat) (x17_4 : Bool), v17 = .bool x17_4 ∧ Aside0 (polyglotlaw03_count.j1 kq a0 x4_l1 x5_l1 x6_l1 (bt a0 x6_l1) x17_4 = some (r1, r2)) ∧ Aside0 (kq ≤ k1) ∧ Drawn0 w wc)
          case first =>
            have H := HC5.out
            clear HC5
            by_cases c6 : (bt a0 x6_l1) ≥ 97
            · rw [if_pos c6] at H
              have c6b0 : decide (97 ≤ (bt a0 x6_l1)) = true := decide_eq_true c6
              clear c6
              (first | rw [c6b0] | (simp only [i64_w, i32_w]; rw [c6b0]) | skip)
              by_cases c7 : (bt a0 x6_l1) ≤ 122
              · rw [if_pos c7] at H
                have c7b0 : decide ((bt a0 x6_l1) ≤ 122) = true := decide_eq_true c7
                clear c7
                have H' := Aside0.mk H
                clear H
                go_wp2
                go_meet
                case rel => exact ⟨_, (true), (by first | rfl | (simp; done) | (simp [*]; done)), H', ⟨by have := HK1.out; first | omega | exact Nat.le_refl _⟩, by repeat (first | exact Drawn0.refl _ | apply Drawn0.step)⟩
              · rw [if_neg c7] at H
                have c7b0 : decide ((bt a0 x6_l1) ≤ 122) = false := decide_eq_false c7
                clear c7
                by_cases c8 : (bt a0 x6_l1) ≥ 65
                · rw [if_pos c8] at H
                  have c8b0 : decide (65 ≤ (bt a0 x6_l1)) = true := decide_eq_true c8
                  clear c8
                  have H' := Aside0.mk H
                  clear H
                  go_wp2
                  go_meet
                  case rel => exact ⟨_, (decide ((bt a0 x6_l1) ≤ 90)), (by first | rfl | (simp; done) | (simp [*]; done)), H', ⟨by have := HK1.out; first | omega | exact Nat.le_refl _⟩, by repeat (first | exact Drawn0.refl _ | apply Drawn0.step)⟩
                · rw [if_neg c8] at H
                  have c8b0 : decide (65 ≤ (bt a0 x6_l1)) = false := decide_eq_false c8
                  clear c8
                  have H' := Aside0.mk H
                  clear H
                  go_wp2
                  go_meet
                  case rel => exact ⟨_, (false), (by first | rfl | (simp; done) | (simp [*]; done)), H', ⟨by have := HK1.out; first | omega | exact Nat.le_refl _⟩, by repeat (first | exact Drawn0.refl _ | apply Drawn0.step)⟩
            · rw [if_neg c6] at H
              have c6b0 : decide (97 ≤ (bt a0 x6_l1)) = false := decide_eq_false c6
              clear c6
              (first | rw [c6b0] | (simp only [i64_w, i32_w]; rw [c6b0]) | skip)
              by_cases c9 : (bt a0 x6_l1) ≥ 65
              · rw [if_pos c9] at H
                have c9b0 : decide (65 ≤ (bt a0 x6_l1)) = true := decide_eq_true c9
                clear c9
                have H' := Aside0.mk H
                clear H
                go_wp2
                go_meet
                case rel => exact ⟨_, (decide ((bt a0 x6_l1) ≤ 90)), (by first | rfl | (simp; done) | (simp [*]; done)), H', ⟨by have := HK1.out; first | omega | exact Nat.le_refl _⟩, by repeat (first | exact Drawn0.refl _ | apply Drawn0.step)⟩
              · rw [if_neg c9] at H
                have c9b0 : decide (65 ≤ (bt a0 x6_l1)) = false := decide_eq_false c9
                clear c9
                have H' := Aside0.mk H
                clear H
                go_wp2
                go_meet
                case rel => exact ⟨_, (false), (by first | rfl | (simp; done) | (simp [*]; done)), H', ⟨by have := HK1.out; first | omega | exact Nat.le_refl _⟩, by repeat (first | exact Drawn0.refl _ | apply Drawn0.step)⟩
          case rest =>
            clear HC5
            try clear c2
            try clear c2b0
            try clear p2
            try clear c3
            try clear c3b0
            try clear c4
            try clear p4
            try clear q4
            try clear hx4
            try clear c6
            try clear c6b0
            try clear c7
            try clear c7b0
            try clear c8
            try clear c8b0
            try clear c9
            try clear c9b0
            try clear p4
            try clear q4
            obtain ⟨kq, x17_4, rfl, HA, HJ4, ⟨mc4, rfl⟩⟩ := hcut
            cases kq with
            | zero => exact absurd HA.out (by simp [polyglotlaw03_count.j1])
            | succ kj4 =>
              have H := HA.out
              clear HA
              simp only [polyglotlaw03_count.j1] at H
              by_cases c10 : x17_4 = true
              · subst c10
                have H1 : (polyglotlaw03_count.l0 kj4 a0 (wrap64 (x4_l1 + 1)) x5_l1 (wrap64 (x6_l1 + 1))) = some (r1, r2) := by rw [if_pos rfl] at H; exact H
                clear H
                have H := H1
                clear H1
                have H' := Aside0.mk H
                clear H
                go_wp2
                go_roundg kj4
                case measure => have := HK1.out; have := HJ4.out; omega
                case rel => exact ⟨(wrap64 (x4_l1 + 1)), (x5_l1), (wrap64 (x6_l1 + 1)), (by first | rfl | (simp; done) | (simp [*]; done)), (by first | rfl | (simp; done) | (simp [*]; done)), (by first | rfl | (simp; done) | (simp [*]; done)), H', ⟨by have := HK1.out; have := HJ4.out; omega⟩, by repeat (first | exact Drawn0.refl _ | apply Drawn0.step)⟩
              · replace c10 := Bool.eq_false_iff.mpr c10
                subst c10
                have H1 : (if (bt a0 x6_l1) ≥ 48 then (if (bt a0 x6_l1) ≤ 57 then (polyglotlaw03_count.l0 kj4 a0 x4_l1 (wrap64 (x5_l1 + 1)) (wrap64 (x6_l1 + 1))) else (some ((-1), (-1)))) else (some ((-1), (-1)))) = some (r1, r2) := by rw [if_neg (show ¬ (false = true) by decide)] at H; exact H
                clear H
                have H := H1
                clear H1
                by_cases c11 : (bt a0 x6_l1) ≥ 48
                · rw [if_pos c11] at H
                  have c11b0 : decide (48 ≤ (bt a0 x6_l1)) = true := decide_eq_true c11
                  clear c11
                  by_cases c12 : (bt a0 x6_l1) ≤ 57
                  · rw [if_pos c12] at H
                    have c12b0 : decide ((bt a0 x6_l1) ≤ 57) = true := decide_eq_true c12
                    clear c12
                    have H' := Aside0.mk H
                    clear H
                    go_wp2
                    go_roundg kj4
                    case measure => have := HK1.out; have := HJ4.out; omega
                    case rel => exact ⟨(x4_l1), (wrap64 (x5_l1 + 1)), (wrap64 (x6_l1 + 1)), (by first | rfl | (simp; done) | (simp [*]; done)), (by first | rfl | (simp; done) | (simp [*]; done)), (by first | rfl | (simp; done) | (simp [*]; done)), H', ⟨by have := HK1.out; have := HJ4.out; omega⟩, by repeat (first | exact Drawn0.refl _ | apply Drawn0.step)⟩
                  · rw [if_neg c12] at H
                    have c12b0 : decide ((bt a0 x6_l1) ≤ 57) = false := decide_eq_false c12
                    clear c12
                    simp only [Option.some.injEq, Prod.mk.injEq] at H
                    obtain ⟨rfl, rfl⟩ := H
                    go_wp2
                    go_ret2
                    exact ⟨by first | rfl | (simp; done) | (simp [*]; done), by repeat (first | exact Drawn0.refl _ | apply Drawn0.step)⟩
                · rw [if_neg c11] at H
                  have c11b0 : decide (48 ≤ (bt a0 x6_l1)) = false := decide_eq_false c11
                  clear c11
                  simp only [Option.some.injEq, Prod.mk.injEq] at H
                  obtain ⟨rfl, rfl⟩ := H
                  go_wp2
                  go_ret2
                  exact ⟨by first | rfl | (simp; done) | (simp [*]; done), by repeat (first | exact Drawn0.refl _ | apply Drawn0.step)⟩
        · rw [if_neg c3] at H
          exact absurd H (by simp)
      · rw [if_neg c2] at H
        have c2b0 : decide (x6_l1 < (a0.size : Int)) = false := decide_eq_false c2
        clear c2
        simp only [Option.some.injEq, Prod.mk.injEq] at H
        obtain ⟨rfl, rfl⟩ := H
        go_wp2
        go_ret2
        exact ⟨by first | rfl | (simp; done) | (simp [*]; done), by repeat (first | exact Drawn0.refl _ | apply Drawn0.step)⟩

/-! ### polyglotlaw03_big: function 21 -/
def polyglotlaw03_big.l0 : Nat → ByteArray → ByteArray → Int → Option (ByteArray)
  | 0, _, _, _ => none
  | k + 1, x0, x3, x4 => if x4 < (x0.size : Int) then (if 0 ≤ x4 then (if (bt x0 x4) ≥ 97 then (if (bt x0 x4) ≤ 122 then ((some (([((((bt x0 x4) - 97) % 256) + 65) % 256] : List Int) : List Int)).bind fun y101 => (if x3.size + (strOfNums y101).size ≤ 9223372036854775807 then ((some (x3 ++ (strOfNums y101) : ByteArray)).bind fun y104 => (polyglotlaw03_big.l0 k x0 y104 (wrap64 (x4 + 1)))) else (none))) else ((some (([bt x0 x4] : List Int) : List Int)).bind fun y105 => (if x3.size + (strOfNums y105).size ≤ 9223372036854775807 then ((some (x3 ++ (strOfNums y105) : ByteArray)).bind fun y108 => (polyglotlaw03_big.l0 k x0 y108 (wrap64 (x4 + 1)))) else (none)))) else ((some (([bt x0 x4] : List Int) : List Int)).bind fun y109 => (if x3.size + (strOfNums y109).size ≤ 9223372036854775807 then ((some (x3 ++ (strOfNums y109) : ByteArray)).bind fun y112 => (polyglotlaw03_big.l0 k x0 y112 (wrap64 (x4 + 1)))) else (none)))) else (none)) else (some x3)
def polyglotlaw03_big.f (k : Nat) (a0 : ByteArray) : Option (ByteArray) := polyglotlaw03_big.l0 k a0 (⟨#[]⟩ : ByteArray) 0
theorem polyglotlaw03_big.mono_l : ∀ k, (∀ y0 y1 y2, LeO (polyglotlaw03_big.l0 k y0 y1 y2) (polyglotlaw03_big.l0 (k + 1) y0 y1 y2))
  | 0 => fun _ _ _ r h => by simp [polyglotlaw03_big.l0] at h
  | k + 1 => by
    have ih0 := polyglotlaw03_big.mono_l k
    · intro y0 y1 y2
      unfold polyglotlaw03_big.l0
      repeat' first
      | (with_reducible exact ih0 _ _ _)
      | (with_reducible exact LeO.refl _)
      | (with_reducible exact LeO.none _)
      | (with_reducible refine LeO.ite ?_ ?_)
      | (with_reducible refine LeO.bind ?_ (fun _ => ?_))
      | exact ih0 _ _ _
      | exact LeO.none _
      | refine LeO.ite ?_ ?_
      | refine LeO.bind ?_ (fun _ => ?_)
theorem polyglotlaw03_big.mono : ∀ a0 k, LeO (polyglotlaw03_big.f k a0) (polyglotlaw03_big.f (k + 1) a0) := by
  intro a0 k
  have ih0 := polyglotlaw03_big.mono_l k
  unfold polyglotlaw03_big.f
  repeat' first
      | (with_reducible exact ih0 _ _ _)
      | (with_reducible exact LeO.refl _)
      | (with_reducible exact LeO.none _)
      | (with_reducible refine LeO.ite ?_ ?_)
      | (with_reducible refine LeO.bind ?_ (fun _ => ?_))
      | exact ih0 _ _ _
      | exact LeO.none _
      | refine LeO.ite ?_ ?_
      | refine LeO.bind ?_ (fun _ => ?_)
set_option maxHeartbeats 8000000 in
set_option maxRecDepth 100000 in
theorem polyglotlaw03_big.calls (k : Nat) (a0 : ByteArray) (r : ByteArray) (w : World) (h : polyglotlaw03_big.f k a0 = some r) :
    Calls Tryd.prog 21 #[.string a0] w fun e w' => e = .returned (.string r) ∧ Below w.heap.size w w' := by
  have HB := Aside0.mk (Below.refl w.heap.size w)
  have H : (polyglotlaw03_big.l0 k a0 (⟨#[]⟩ : ByteArray) 0) = some r := h
  clear h
  have H' := Aside0.mk H
  clear H
  go_enter Tryd.func21, Tryd.ntmps21
  go_wp2
  go_loopg [3, 4] k (fun kq v3 v4 w' => ∃ (x3_l1 : ByteArray) (x4_l1 : Int), v3 = .string x3_l1 ∧ v4 = .int .i64 x4_l1 ∧ Aside0 (polyglotlaw03_big.l0 kq a0 x3_l1 x4_l1 = some r) ∧ Aside0 (kq ≤ k) ∧ Aside0 (Below w.heap.size w w'))
  case atStart => exact ⟨((⟨#[]⟩ : ByteArray)), (0), (by first | rfl | (simp; done) | (simp [*]; done)), (by first | rfl | (simp; done) | (simp [*]; done)), H', ⟨Nat.le_refl _⟩, ⟨by repeat (first | (with_reducible first | exact HB.out | apply below_alloc | apply pw_below_drewN | apply below_drew1) | exact HB.out)⟩⟩
  case round =>
    clear H'
    obtain ⟨x3_l1, x4_l1, rfl, rfl, HA, HK1, HB⟩ := hrel
    cases gk with
    | zero => exact absurd HA.out (by simp [polyglotlaw03_big.l0])
    | succ k1 =>
      have H := HA.out
      clear HA
      simp only [polyglotlaw03_big.l0] at H
      by_cases c2 : x4_l1 < (a0.size : Int)
      · rw [if_pos c2] at H
        have c2b0 : decide (x4_l1 < (a0.size : Int)) = true := decide_eq_true c2
        clear c2
        by_cases c3 : 0 ≤ x4_l1
        · rw [if_pos c3] at H
          have c3b0 : decide (0 ≤ x4_l1) = true := decide_eq_true c3
          clear c3
          by_cases c5 : (bt a0 x4_l1) ≥ 97
          · rw [if_pos c5] at H
            have c5b0 : decide (97 ≤ (bt a0 x4_l1)) = true := decide_eq_true c5
            clear c5
            by_cases c6 : (bt a0 x4_l1) ≤ 122
            · rw [if_pos c6] at H
              have c6b0 : decide ((bt a0 x4_l1) ≤ 122) = true := decide_eq_true c6
              clear c6
              obtain ⟨y101, hy101⟩ : ∃ y_ : List Int, y_ = (([((((bt a0 x4_l1) - 97) % 256) + 65) % 256] : List Int)) := ⟨_, rfl⟩
              replace H : (if x3_l1.size + (strOfNums y101).size ≤ 9223372036854775807 then ((some (x3_l1 ++ (strOfNums y101) : ByteArray)).bind fun y104 => (polyglotlaw03_big.l0 k1 a0 y104 (wrap64 (x4_l1 + 1)))) else (none)) = some r := by first | (rw [hy101]; with_reducible exact H) | (have H2_ := (Option.bind_some _ _).symm.trans H; rw [hy101]; with_reducible exact H2_) | (have H2_ := (Option.bind_some _ _).symm.trans H; with_reducible exact H2_) | with_reducible exact H | (rw [hy101]; exact H) | exact H
              have Ny101 := Aside0.mk hy101
              clear hy101
              by_cases c7 : x3_l1.size + (strOfNums y101).size ≤ 9223372036854775807
              · rw [if_pos c7] at H
                have c7b0 := eq_true c7
                have c7b1 : decide (x3_l1.size + (strOfNums y101).size ≤ 9223372036854775807) = true := decide_eq_true c7
                try have c7b2 : (9223372036854775807 < x3_l1.size + (strOfNums y101).size) = False := eq_false (Nat.not_lt.2 c7)
                replace H := Option.bind_eq_some_iff.mp H
                obtain ⟨y104, hy1040, H⟩ := H
                replace H : (polyglotlaw03_big.l0 k1 a0 y104 (wrap64 (x4_l1 + 1))) = some r := H
                have hy104 : x3_l1 ++ (strOfNums y101) = y104 := Option.some.inj hy1040
                clear hy1040
                have H' := Aside0.mk H
                clear H
                have p4 : 0 ≤ (x4_l1 : Int) := of_decide_eq_true (by first | (with_reducible assumption) | assumption)
                have q4 : x4_l1 < (a0.size : Int) := of_decide_eq_true (by first | (with_reducible assumption) | assumption)
                have hx4 := bt_at a0 x4_l1
                replace p4 := eq_true p4
                replace q4 := eq_true q4
                go_wp2_with (first | ((with_reducible refine gate_dst (N := 26) rfl ?_); refine Kd.R_lit (Kd.int .u8) _ 5 ?hg (N := 26) ?hd (xs := ([((((bt a0 x4_l1) - 97) % 256) + 65) % 256] : List Int)) (inner := [.int .u8 (((((bt a0 x4_l1) - 97) % 256) + 65) % 256)]) (ok := fun _ => True) (okp := fun _ => True) ?hr ?hp (fun _ hk => hk) trivial (Below.refl _ _) (Nat.le_refl _) (by simp) ?_; (case hd => rfl); (case hg => rfl); (case hr => first | (go_simp; done) | (go_simp; rfl)); (case hp => exact (Reps.one (show Kd.M (Kd.int .u8) _ _ _ (((((bt a0 x4_l1) - 97) % 256) + 65) % 256) [.int .u8 (((((bt a0 x4_l1) - 97) % 256) + 65) % 256)] from rfl) (Reps.none _ _))); intro v102 w8 ho9 hb hg_ hnew_; clear hg_ hnew_; (first | rw [← Ny101.out] at ho9 | (simp only [Int.reduceToNat] at ho9; rw [← Ny101.out] at ho9)); have n0_ := Aside0.mk (Kd.R_lower ho9 (below_size (by repeat (first | (with_reducible first | exact HB.out | apply below_alloc | apply pw_below_drewN | apply below_drew1) | exact HB.out)))); have n1_ := Aside0.mk (below_step (by repeat (first | (with_reducible first | exact HB.out | apply below_alloc | apply pw_below_drewN | apply below_drew1) | exact HB.out)) hb); clear HB; have HO103 := n0_; have HB := n1_; clear n0_ n1_; clear hb ho9; have hcv10 := own_string (P := Tryd.prog) Tryd.underlying64 Tryd.underlying5 Tryd.underlying9 (Kd.own_of_R HO103.out)))
                go_roundg k1
                case measure => have := HK1.out; omega
                case rel => exact ⟨(y104), (wrap64 (x4_l1 + 1)), (by first | rfl | (simp; done) | (simp [*]; done)), (by first | rfl | (simp; done) | (simp [*]; done)), H', ⟨by have := HK1.out; omega⟩, ⟨by repeat (first | (with_reducible first | exact HB.out | apply below_alloc | apply pw_below_drewN | apply below_drew1) | exact HB.out)⟩⟩
              · rw [if_neg c7] at H
                exact absurd H (by simp)
            · rw [if_neg c6] at H
              have c6b0 : decide ((bt a0 x4_l1) ≤ 122) = false := decide_eq_false c6
              clear c6
              obtain ⟨y105, hy105⟩ : ∃ y_ : List Int, y_ = (([bt a0 x4_l1] : List Int)) := ⟨_, rfl⟩
              replace H : (if x3_l1.size + (strOfNums y105).size ≤ 9223372036854775807 then ((some (x3_l1 ++ (strOfNums y105) : ByteArray)).bind fun y108 => (polyglotlaw03_big.l0 k1 a0 y108 (wrap64 (x4_l1 + 1)))) else (none)) = some r := by first | (rw [hy105]; with_reducible exact H) | (have H2_ := (Option.bind_some _ _).symm.trans H; rw [hy105]; with_reducible exact H2_) | (have H2_ := (Option.bind_some _ _).symm.trans H; with_reducible exact H2_) | with_reducible exact H | (rw [hy105]; exact H) | exact H
              have Ny105 := Aside0.mk hy105
              clear hy105
              by_cases c11 : x3_l1.size + (strOfNums y105).size ≤ 9223372036854775807
              · rw [if_pos c11] at H
                have c11b0 := eq_true c11
                have c11b1 : decide (x3_l1.size + (strOfNums y105).size ≤ 9223372036854775807) = true := decide_eq_true c11
                try have c11b2 : (9223372036854775807 < x3_l1.size + (strOfNums y105).size) = False := eq_false (Nat.not_lt.2 c11)
                replace H := Option.bind_eq_some_iff.mp H
                obtain ⟨y108, hy1080, H⟩ := H
                replace H : (polyglotlaw03_big.l0 k1 a0 y108 (wrap64 (x4_l1 + 1))) = some r := H
                have hy108 : x3_l1 ++ (strOfNums y105) = y108 := Option.some.inj hy1080
                clear hy1080
                have H' := Aside0.mk H
                clear H
                have p4 : 0 ≤ (x4_l1 : Int) := of_decide_eq_true (by first | (with_reducible assumption) | assumption)
                have q4 : x4_l1 < (a0.size : Int) := of_decide_eq_true (by first | (with_reducible assumption) | assumption)
                have hx4 := bt_at a0 x4_l1
                replace p4 := eq_true p4
                replace q4 := eq_true q4
                go_wp2_with (first | ((with_reducible refine gate_dst (N := 26) rfl ?_); refine Kd.R_lit (Kd.int .u8) _ 5 ?hg (N := 26) ?hd (xs := ([bt a0 x4_l1] : List Int)) (inner := [.int .u8 (bt a0 x4_l1)]) (ok := fun _ => True) (okp := fun _ => True) ?hr ?hp (fun _ hk => hk) trivial (Below.refl _ _) (Nat.le_refl _) (by simp) ?_; (case hd => rfl); (case hg => rfl); (case hr => first | (go_simp; done) | (go_simp; rfl)); (case hp => exact (Reps.one (show Kd.M (Kd.int .u8) _ _ _ (bt a0 x4_l1) [.int .u8 (bt a0 x4_l1)] from rfl) (Reps.none _ _))); intro v106 w12 ho13 hb hg_ hnew_; clear hg_ hnew_; (first | rw [← Ny105.out] at ho13 | (simp only [Int.reduceToNat] at ho13; rw [← Ny105.out] at ho13)); have n0_ := Aside0.mk (Kd.R_lower ho13 (below_size (by repeat (first | (with_reducible first | exact HB.out | apply below_alloc | apply pw_below_drewN | apply below_drew1) | exact HB.out)))); have n1_ := Aside0.mk (below_step (by repeat (first | (with_reducible first | exact HB.out | apply below_alloc | apply pw_below_drewN | apply below_drew1) | exact HB.out)) hb); clear HB; have HO107 := n0_; have HB := n1_; clear n0_ n1_; clear hb ho13; have hcv14 := own_string (P := Tryd.prog) Tryd.underlying64 Tryd.underlying5 Tryd.underlying9 (Kd.own_of_R HO107.out)))
                go_roundg k1
                case measure => have := HK1.out; omega
                case rel => exact ⟨(y108), (wrap64 (x4_l1 + 1)), (by first | rfl | (simp; done) | (simp [*]; done)), (by first | rfl | (simp; done) | (simp [*]; done)), H', ⟨by have := HK1.out; omega⟩, ⟨by repeat (first | (with_reducible first | exact HB.out | apply below_alloc | apply pw_below_drewN | apply below_drew1) | exact HB.out)⟩⟩
              · rw [if_neg c11] at H
                exact absurd H (by simp)
          · rw [if_neg c5] at H
            have c5b0 : decide (97 ≤ (bt a0 x4_l1)) = false := decide_eq_false c5
            clear c5
            obtain ⟨y109, hy109⟩ : ∃ y_ : List Int, y_ = (([bt a0 x4_l1] : List Int)) := ⟨_, rfl⟩
            replace H : (if x3_l1.size + (strOfNums y109).size ≤ 9223372036854775807 then ((some (x3_l1 ++ (strOfNums y109) : ByteArray)).bind fun y112 => (polyglotlaw03_big.l0 k1 a0 y112 (wrap64 (x4_l1 + 1)))) else (none)) = some r := by first | (rw [hy109]; with_reducible exact H) | (have H2_ := (Option.bind_some _ _).symm.trans H; rw [hy109]; with_reducible exact H2_) | (have H2_ := (Option.bind_some _ _).symm.trans H; with_reducible exact H2_) | with_reducible exact H | (rw [hy109]; exact H) | exact H
            have Ny109 := Aside0.mk hy109
            clear hy109
            by_cases c15 : x3_l1.size + (strOfNums y109).size ≤ 9223372036854775807
            · rw [if_pos c15] at H
              have c15b0 := eq_true c15
              have c15b1 : decide (x3_l1.size + (strOfNums y109).size ≤ 9223372036854775807) = true := decide_eq_true c15
              try have c15b2 : (9223372036854775807 < x3_l1.size + (strOfNums y109).size) = False := eq_false (Nat.not_lt.2 c15)
              replace H := Option.bind_eq_some_iff.mp H
              obtain ⟨y112, hy1120, H⟩ := H
              replace H : (polyglotlaw03_big.l0 k1 a0 y112 (wrap64 (x4_l1 + 1))) = some r := H
              have hy112 : x3_l1 ++ (strOfNums y109) = y112 := Option.some.inj hy1120
              clear hy1120
              have H' := Aside0.mk H
              clear H
              have p4 : 0 ≤ (x4_l1 : Int) := of_decide_eq_true (by first | (with_reducible assumption) | assumption)
              have q4 : x4_l1 < (a0.size : Int) := of_decide_eq_true (by first | (with_reducible assumption) | assumption)
              have hx4 := bt_at a0 x4_l1
              replace p4 := eq_true p4
              replace q4 := eq_true q4
              go_wp2_with (first | ((with_reducible refine gate_dst (N := 26) rfl ?_); refine Kd.R_lit (Kd.int .u8) _ 5 ?hg (N := 26) ?hd (xs := ([bt a0 x4_l1] : List Int)) (inner := [.int .u8 (bt a0 x4_l1)]) (ok := fun _ => True) (okp := fun _ => True) ?hr ?hp (fun _ hk => hk) trivial (Below.refl _ _) (Nat.le_refl _) (by simp) ?_; (case hd => rfl); (case hg => rfl); (case hr => first | (go_simp; done) | (go_simp; rfl)); (case hp => exact (Reps.one (show Kd.M (Kd.int .u8) _ _ _ (bt a0 x4_l1) [.int .u8 (bt a0 x4_l1)] from rfl) (Reps.none _ _))); intro v110 w16 ho17 hb hg_ hnew_; clear hg_ hnew_; (first | rw [← Ny109.out] at ho17 | (simp only [Int.reduceToNat] at ho17; rw [← Ny109.out] at ho17)); have n0_ := Aside0.mk (Kd.R_lower ho17 (below_size (by repeat (first | (with_reducible first | exact HB.out | apply below_alloc | apply pw_below_drewN | apply below_drew1) | exact HB.out)))); have n1_ := Aside0.mk (below_step (by repeat (first | (with_reducible first | exact HB.out | apply below_alloc | apply pw_below_drewN | apply below_drew1) | exact HB.out)) hb); clear HB; have HO111 := n0_; have HB := n1_; clear n0_ n1_; clear hb ho17; have hcv18 := own_string (P := Tryd.prog) Tryd.underlying64 Tryd.underlying5 Tryd.underlying9 (Kd.own_of_R HO111.out)))
              go_roundg k1
              case measure => have := HK1.out; omega
              case rel => exact ⟨(y112), (wrap64 (x4_l1 + 1)), (by first | rfl | (simp; done) | (simp [*]; done)), (by first | rfl | (simp; done) | (simp [*]; done)), H', ⟨by have := HK1.out; omega⟩, ⟨by repeat (first | (with_reducible first | exact HB.out | apply below_alloc | apply pw_below_drewN | apply below_drew1) | exact HB.out)⟩⟩
            · rw [if_neg c15] at H
              exact absurd H (by simp)
        · rw [if_neg c3] at H
          exact absurd H (by simp)
      · rw [if_neg c2] at H
        have c2b0 : decide (x4_l1 < (a0.size : Int)) = false := decide_eq_false c2
        clear c2
        obtain rfl := Option.some.inj H
        go_wp2
        go_ret
        exact ⟨by first | rfl | (simp [errW_none, errW_some] <;> rfl) | (simp [*, errW_none, errW_some] <;> rfl), by repeat (first | (with_reducible first | exact HB.out | apply below_alloc | apply pw_below_drewN | apply below_drew1) | exact HB.out)⟩

/-! ### polyglotlaw03_small: function 22 -/
def polyglotlaw03_small.l0 : Nat → ByteArray → ByteArray → Int → Option (ByteArray)
  | 0, _, _, _ => none
  | k + 1, x0, x3, x4 => if x4 < (x0.size : Int) then (if 0 ≤ x4 then (if (bt x0 x4) ≥ 65 then (if (bt x0 x4) ≤ 90 then ((some (([((((bt x0 x4) - 65) % 256) + 97) % 256] : List Int) : List Int)).bind fun y113 => (if x3.size + (strOfNums y113).size ≤ 9223372036854775807 then ((some (x3 ++ (strOfNums y113) : ByteArray)).bind fun y116 => (polyglotlaw03_small.l0 k x0 y116 (wrap64 (x4 + 1)))) else (none))) else ((some (([bt x0 x4] : List Int) : List Int)).bind fun y117 => (if x3.size + (strOfNums y117).size ≤ 9223372036854775807 then ((some (x3 ++ (strOfNums y117) : ByteArray)).bind fun y120 => (polyglotlaw03_small.l0 k x0 y120 (wrap64 (x4 + 1)))) else (none)))) else ((some (([bt x0 x4] : List Int) : List Int)).bind fun y121 => (if x3.size + (strOfNums y121).size ≤ 9223372036854775807 then ((some (x3 ++ (strOfNums y121) : ByteArray)).bind fun y124 => (polyglotlaw03_small.l0 k x0 y124 (wrap64 (x4 + 1)))) else (none)))) else (none)) else (some x3)
def polyglotlaw03_small.f (k : Nat) (a0 : ByteArray) : Option (ByteArray) := polyglotlaw03_small.l0 k a0 (⟨#[]⟩ : ByteArray) 0
theorem polyglotlaw03_small.mono_l : ∀ k, (∀ y0 y1 y2, LeO (polyglotlaw03_small.l0 k y0 y1 y2) (polyglotlaw03_small.l0 (k + 1) y0 y1 y2))
  | 0 => fun _ _ _ r h => by simp [polyglotlaw03_small.l0] at h
  | k + 1 => by
    have ih0 := polyglotlaw03_small.mono_l k
    · intro y0 y1 y2
      unfold polyglotlaw03_small.l0
      repeat' first
      | (with_reducible exact ih0 _ _ _)
      | (with_reducible exact LeO.refl _)
      | (with_reducible exact LeO.none _)
      | (with_reducible refine LeO.ite ?_ ?_)
      | (with_reducible refine LeO.bind ?_ (fun _ => ?_))
      | exact ih0 _ _ _
      | exact LeO.none _
      | refine LeO.ite ?_ ?_
      | refine LeO.bind ?_ (fun _ => ?_)
theorem polyglotlaw03_small.mono : ∀ a0 k, LeO (polyglotlaw03_small.f k a0) (polyglotlaw03_small.f (k + 1) a0) := by
  intro a0 k
  have ih0 := polyglotlaw03_small.mono_l k
  unfold polyglotlaw03_small.f
  repeat' first
      | (with_reducible exact ih0 _ _ _)
      | (with_reducible exact LeO.refl _)
      | (with_reducible exact LeO.none _)
      | (with_reducible refine LeO.ite ?_ ?_)
      | (with_reducible refine LeO.bind ?_ (fun _ => ?_))
      | exact ih0 _ _ _
      | exact LeO.none _
      | refine LeO.ite ?_ ?_
      | refine LeO.bind ?_ (fun _ => ?_)
set_option maxHeartbeats 8000000 in
set_option maxRecDepth 100000 in
theorem polyglotlaw03_small.calls (k : Nat) (a0 : ByteArray) (r : ByteArray) (w : World) (h : polyglotlaw03_small.f k a0 = some r) :
    Calls Tryd.prog 22 #[.string a0] w fun e w' => e = .returned (.string r) ∧ Below w.heap.size w w' := by
  have HB := Aside0.mk (Below.refl w.heap.size w)
  have H : (polyglotlaw03_small.l0 k a0 (⟨#[]⟩ : ByteArray) 0) = some r := h
  clear h
  have H' := Aside0.mk H
  clear H
  go_enter Tryd.func22, Tryd.ntmps22
  go_wp2
  go_loopg [3, 4] k (fun kq v3 v4 w' => ∃ (x3_l1 : ByteArray) (x4_l1 : Int), v3 = .string x3_l1 ∧ v4 = .int .i64 x4_l1 ∧ Aside0 (polyglotlaw03_small.l0 kq a0 x3_l1 x4_l1 = some r) ∧ Aside0 (kq ≤ k) ∧ Aside0 (Below w.heap.size w w'))
  case atStart => exact ⟨((⟨#[]⟩ : ByteArray)), (0), (by first | rfl | (simp; done) | (simp [*]; done)), (by first | rfl | (simp; done) | (simp [*]; done)), H', ⟨Nat.le_refl _⟩, ⟨by repeat (first | (with_reducible first | exact HB.out | apply below_alloc | apply pw_below_drewN | apply below_drew1) | exact HB.out)⟩⟩
  case round =>
    clear H'
    obtain ⟨x3_l1, x4_l1, rfl, rfl, HA, HK1, HB⟩ := hrel
    cases gk with
    | zero => exact absurd HA.out (by simp [polyglotlaw03_small.l0])
    | succ k1 =>
      have H := HA.out
      clear HA
      simp only [polyglotlaw03_small.l0] at H
      by_cases c2 : x4_l1 < (a0.size : Int)
      · rw [if_pos c2] at H
        have c2b0 : decide (x4_l1 < (a0.size : Int)) = true := decide_eq_true c2
        clear c2
        by_cases c3 : 0 ≤ x4_l1
        · rw [if_pos c3] at H
          have c3b0 : decide (0 ≤ x4_l1) = true := decide_eq_true c3
          clear c3
          by_cases c5 : (bt a0 x4_l1) ≥ 65
          · rw [if_pos c5] at H
            have c5b0 : decide (65 ≤ (bt a0 x4_l1)) = true := decide_eq_true c5
            clear c5
            by_cases c6 : (bt a0 x4_l1) ≤ 90
            · rw [if_pos c6] at H
              have c6b0 : decide ((bt a0 x4_l1) ≤ 90) = true := decide_eq_true c6
              clear c6
              obtain ⟨y113, hy113⟩ : ∃ y_ : List Int, y_ = (([((((bt a0 x4_l1) - 65) % 256) + 97) % 256] : List Int)) := ⟨_, rfl⟩
              replace H : (if x3_l1.size + (strOfNums y113).size ≤ 9223372036854775807 then ((some (x3_l1 ++ (strOfNums y113) : ByteArray)).bind fun y116 => (polyglotlaw03_small.l0 k1 a0 y116 (wrap64 (x4_l1 + 1)))) else (none)) = some r := by first | (rw [hy113]; with_reducible exact H) | (have H2_ := (Option.bind_some _ _).symm.trans H; rw [hy113]; with_reducible exact H2_) | (have H2_ := (Option.bind_some _ _).symm.trans H; with_reducible exact H2_) | with_reducible exact H | (rw [hy113]; exact H) | exact H
              have Ny113 := Aside0.mk hy113
              clear hy113
              by_cases c7 : x3_l1.size + (strOfNums y113).size ≤ 9223372036854775807
              · rw [if_pos c7] at H
                have c7b0 := eq_true c7
                have c7b1 : decide (x3_l1.size + (strOfNums y113).size ≤ 9223372036854775807) = true := decide_eq_true c7
                try have c7b2 : (9223372036854775807 < x3_l1.size + (strOfNums y113).size) = False := eq_false (Nat.not_lt.2 c7)
                replace H := Option.bind_eq_some_iff.mp H
                obtain ⟨y116, hy1160, H⟩ := H
                replace H : (polyglotlaw03_small.l0 k1 a0 y116 (wrap64 (x4_l1 + 1))) = some r := H
                have hy116 : x3_l1 ++ (strOfNums y113) = y116 := Option.some.inj hy1160
                clear hy1160
                have H' := Aside0.mk H
                clear H
                have p4 : 0 ≤ (x4_l1 : Int) := of_decide_eq_true (by first | (with_reducible assumption) | assumption)
                have q4 : x4_l1 < (a0.size : Int) := of_decide_eq_true (by first | (with_reducible assumption) | assumption)
                have hx4 := bt_at a0 x4_l1
                replace p4 := eq_true p4
                replace q4 := eq_true q4
                go_wp2_with (first | ((with_reducible refine gate_dst (N := 26) rfl ?_); refine Kd.R_lit (Kd.int .u8) _ 5 ?hg (N := 26) ?hd (xs := ([((((bt a0 x4_l1) - 65) % 256) + 97) % 256] : List Int)) (inner := [.int .u8 (((((bt a0 x4_l1) - 65) % 256) + 97) % 256)]) (ok := fun _ => True) (okp := fun _ => True) ?hr ?hp (fun _ hk => hk) trivial (Below.refl _ _) (Nat.le_refl _) (by simp) ?_; (case hd => rfl); (case hg => rfl); (case hr => first | (go_simp; done) | (go_simp; rfl)); (case hp => exact (Reps.one (show Kd.M (Kd.int .u8) _ _ _ (((((bt a0 x4_l1) - 65) % 256) + 97) % 256) [.int .u8 (((((bt a0 x4_l1) - 65) % 256) + 97) % 256)] from rfl) (Reps.none _ _))); intro v114 w8 ho9 hb hg_ hnew_; clear hg_ hnew_; (first | rw [← Ny113.out] at ho9 | (simp only [Int.reduceToNat] at ho9; rw [← Ny113.out] at ho9)); have n0_ := Aside0.mk (Kd.R_lower ho9 (below_size (by repeat (first | (with_reducible first | exact HB.out | apply below_alloc | apply pw_below_drewN | apply below_drew1) | exact HB.out)))); have n1_ := Aside0.mk (below_step (by repeat (first | (with_reducible first | exact HB.out | apply below_alloc | apply pw_below_drewN | apply below_drew1) | exact HB.out)) hb); clear HB; have HO115 := n0_; have HB := n1_; clear n0_ n1_; clear hb ho9; have hcv10 := own_string (P := Tryd.prog) Tryd.underlying64 Tryd.underlying5 Tryd.underlying9 (Kd.own_of_R HO115.out)))
                go_roundg k1
                case measure => have := HK1.out; omega
                case rel => exact ⟨(y116), (wrap64 (x4_l1 + 1)), (by first | rfl | (simp; done) | (simp [*]; done)), (by first | rfl | (simp; done) | (simp [*]; done)), H', ⟨by have := HK1.out; omega⟩, ⟨by repeat (first | (with_reducible first | exact HB.out | apply below_alloc | apply pw_below_drewN | apply below_drew1) | exact HB.out)⟩⟩
              · rw [if_neg c7] at H
                exact absurd H (by simp)
            · rw [if_neg c6] at H
              have c6b0 : decide ((bt a0 x4_l1) ≤ 90) = false := decide_eq_false c6
              clear c6
              obtain ⟨y117, hy117⟩ : ∃ y_ : List Int, y_ = (([bt a0 x4_l1] : List Int)) := ⟨_, rfl⟩
              replace H : (if x3_l1.size + (strOfNums y117).size ≤ 9223372036854775807 then ((some (x3_l1 ++ (strOfNums y117) : ByteArray)).bind fun y120 => (polyglotlaw03_small.l0 k1 a0 y120 (wrap64 (x4_l1 + 1)))) else (none)) = some r := by first | (rw [hy117]; with_reducible exact H) | (have H2_ := (Option.bind_some _ _).symm.trans H; rw [hy117]; with_reducible exact H2_) | (have H2_ := (Option.bind_some _ _).symm.trans H; with_reducible exact H2_) | with_reducible exact H | (rw [hy117]; exact H) | exact H
              have Ny117 := Aside0.mk hy117
              clear hy117
              by_cases c11 : x3_l1.size + (strOfNums y117).size ≤ 9223372036854775807
              · rw [if_pos c11] at H
                have c11b0 := eq_true c11
                have c11b1 : decide (x3_l1.size + (strOfNums y117).size ≤ 9223372036854775807) = true := decide_eq_true c11
                try have c11b2 : (9223372036854775807 < x3_l1.size + (strOfNums y117).size) = False := eq_false (Nat.not_lt.2 c11)
                replace H := Option.bind_eq_some_iff.mp H
                obtain ⟨y120, hy1200, H⟩ := H
                replace H : (polyglotlaw03_small.l0 k1 a0 y120 (wrap64 (x4_l1 + 1))) = some r := H
                have hy120 : x3_l1 ++ (strOfNums y117) = y120 := Option.some.inj hy1200
                clear hy1200
                have H' := Aside0.mk H
                clear H
                have p4 : 0 ≤ (x4_l1 : Int) := of_decide_eq_true (by first | (with_reducible assumption) | assumption)
                have q4 : x4_l1 < (a0.size : Int) := of_decide_eq_true (by first | (with_reducible assumption) | assumption)
                have hx4 := bt_at a0 x4_l1
                replace p4 := eq_true p4
                replace q4 := eq_true q4
                go_wp2_with (first | ((with_reducible refine gate_dst (N := 26) rfl ?_); refine Kd.R_lit (Kd.int .u8) _ 5 ?hg (N := 26) ?hd (xs := ([bt a0 x4_l1] : List Int)) (inner := [.int .u8 (bt a0 x4_l1)]) (ok := fun _ => True) (okp := fun _ => True) ?hr ?hp (fun _ hk => hk) trivial (Below.refl _ _) (Nat.le_refl _) (by simp) ?_; (case hd => rfl); (case hg => rfl); (case hr => first | (go_simp; done) | (go_simp; rfl)); (case hp => exact (Reps.one (show Kd.M (Kd.int .u8) _ _ _ (bt a0 x4_l1) [.int .u8 (bt a0 x4_l1)] from rfl) (Reps.none _ _))); intro v118 w12 ho13 hb hg_ hnew_; clear hg_ hnew_; (first | rw [← Ny117.out] at ho13 | (simp only [Int.reduceToNat] at ho13; rw [← Ny117.out] at ho13)); have n0_ := Aside0.mk (Kd.R_lower ho13 (below_size (by repeat (first | (with_reducible first | exact HB.out | apply below_alloc | apply pw_below_drewN | apply below_drew1) | exact HB.out)))); have n1_ := Aside0.mk (below_step (by repeat (first | (with_reducible first | exact HB.out | apply below_alloc | apply pw_below_drewN | apply below_drew1) | exact HB.out)) hb); clear HB; have HO119 := n0_; have HB := n1_; clear n0_ n1_; clear hb ho13; have hcv14 := own_string (P := Tryd.prog) Tryd.underlying64 Tryd.underlying5 Tryd.underlying9 (Kd.own_of_R HO119.out)))
                go_roundg k1
                case measure => have := HK1.out; omega
                case rel => exact ⟨(y120), (wrap64 (x4_l1 + 1)), (by first | rfl | (simp; done) | (simp [*]; done)), (by first | rfl | (simp; done) | (simp [*]; done)), H', ⟨by have := HK1.out; omega⟩, ⟨by repeat (first | (with_reducible first | exact HB.out | apply below_alloc | apply pw_below_drewN | apply below_drew1) | exact HB.out)⟩⟩
              · rw [if_neg c11] at H
                exact absurd H (by simp)
          · rw [if_neg c5] at H
            have c5b0 : decide (65 ≤ (bt a0 x4_l1)) = false := decide_eq_false c5
            clear c5
            obtain ⟨y121, hy121⟩ : ∃ y_ : List Int, y_ = (([bt a0 x4_l1] : List Int)) := ⟨_, rfl⟩
            replace H : (if x3_l1.size + (strOfNums y121).size ≤ 9223372036854775807 then ((some (x3_l1 ++ (strOfNums y121) : ByteArray)).bind fun y124 => (polyglotlaw03_small.l0 k1 a0 y124 (wrap64 (x4_l1 + 1)))) else (none)) = some r := by first | (rw [hy121]; with_reducible exact H) | (have H2_ := (Option.bind_some _ _).symm.trans H; rw [hy121]; with_reducible exact H2_) | (have H2_ := (Option.bind_some _ _).symm.trans H; with_reducible exact H2_) | with_reducible exact H | (rw [hy121]; exact H) | exact H
            have Ny121 := Aside0.mk hy121
            clear hy121
            by_cases c15 : x3_l1.size + (strOfNums y121).size ≤ 9223372036854775807
            · rw [if_pos c15] at H
              have c15b0 := eq_true c15
              have c15b1 : decide (x3_l1.size + (strOfNums y121).size ≤ 9223372036854775807) = true := decide_eq_true c15
              try have c15b2 : (9223372036854775807 < x3_l1.size + (strOfNums y121).size) = False := eq_false (Nat.not_lt.2 c15)
              replace H := Option.bind_eq_some_iff.mp H
              obtain ⟨y124, hy1240, H⟩ := H
              replace H : (polyglotlaw03_small.l0 k1 a0 y124 (wrap64 (x4_l1 + 1))) = some r := H
              have hy124 : x3_l1 ++ (strOfNums y121) = y124 := Option.some.inj hy1240
              clear hy1240
              have H' := Aside0.mk H
              clear H
              have p4 : 0 ≤ (x4_l1 : Int) := of_decide_eq_true (by first | (with_reducible assumption) | assumption)
              have q4 : x4_l1 < (a0.size : Int) := of_decide_eq_true (by first | (with_reducible assumption) | assumption)
              have hx4 := bt_at a0 x4_l1
              replace p4 := eq_true p4
              replace q4 := eq_true q4
              go_wp2_with (first | ((with_reducible refine gate_dst (N := 26) rfl ?_); refine Kd.R_lit (Kd.int .u8) _ 5 ?hg (N := 26) ?hd (xs := ([bt a0 x4_l1] : List Int)) (inner := [.int .u8 (bt a0 x4_l1)]) (ok := fun _ => True) (okp := fun _ => True) ?hr ?hp (fun _ hk => hk) trivial (Below.refl _ _) (Nat.le_refl _) (by simp) ?_; (case hd => rfl); (case hg => rfl); (case hr => first | (go_simp; done) | (go_simp; rfl)); (case hp => exact (Reps.one (show Kd.M (Kd.int .u8) _ _ _ (bt a0 x4_l1) [.int .u8 (bt a0 x4_l1)] from rfl) (Reps.none _ _))); intro v122 w16 ho17 hb hg_ hnew_; clear hg_ hnew_; (first | rw [← Ny121.out] at ho17 | (simp only [Int.reduceToNat] at ho17; rw [← Ny121.out] at ho17)); have n0_ := Aside0.mk (Kd.R_lower ho17 (below_size (by repeat (first | (with_reducible first | exact HB.out | apply below_alloc | apply pw_below_drewN | apply below_drew1) | exact HB.out)))); have n1_ := Aside0.mk (below_step (by repeat (first | (with_reducible first | exact HB.out | apply below_alloc | apply pw_below_drewN | apply below_drew1) | exact HB.out)) hb); clear HB; have HO123 := n0_; have HB := n1_; clear n0_ n1_; clear hb ho17; have hcv18 := own_string (P := Tryd.prog) Tryd.underlying64 Tryd.underlying5 Tryd.underlying9 (Kd.own_of_R HO123.out)))
              go_roundg k1
              case measure => have := HK1.out; omega
              case rel => exact ⟨(y124), (wrap64 (x4_l1 + 1)), (by first | rfl | (simp; done) | (simp [*]; done)), (by first | rfl | (simp; done) | (simp [*]; done)), H', ⟨by have := HK1.out; omega⟩, ⟨by repeat (first | (with_reducible first | exact HB.out | apply below_alloc | apply pw_below_drewN | apply below_drew1) | exact HB.out)⟩⟩
            · rw [if_neg c15] at H
              exact absurd H (by simp)
        · rw [if_neg c3] at H
          exact absurd H (by simp)
      · rw [if_neg c2] at H
        have c2b0 : decide (x4_l1 < (a0.size : Int)) = false := decide_eq_false c2
        clear c2
        obtain rfl := Option.some.inj H
        go_wp2
        go_ret
        exact ⟨by first | rfl | (simp [errW_none, errW_some] <;> rfl) | (simp [*, errW_none, errW_some] <;> rfl), by repeat (first | (with_reducible first | exact HB.out | apply below_alloc | apply pw_below_drewN | apply below_drew1) | exact HB.out)⟩

end Go.Proofs.YtpedajhcfkohlaaDoor.PCnt
