/- Texts joined by this session's own program, part 12. PRgtx0, PRgtx1, PTdex0, PTdex1: written by this session's driver over the kit's printer. -/
import Derived.Test.YtkmbkejmfffafaaGreatDoorQ11
import Derived.Test.YtkmbkejmfffafaaGreatDoorProg
import Derived.Below
import Derived.Deep.Draws
import Derived.Deep.AppendLies
import Derived.Maps.AppendAt
import Derived.OwnWalk
import Derived.Laws.BytesArg
import Derived.Laws.MakeOwn
import Derived.Laws.OwnMore
import Derived.Deep.OwnRows
import Derived.Tactics
import Derived.Lib.ConvBytes
import Derived.Laws.Slices
import Derived.WalkKit
import Derived.KernelRfl
import Derived.RowKit3
import Derived.Deep.LoopGhost
import Derived.Deep.QuietTactic
import Derived.BigQuiet
import Derived.WideLaws
import Derived.Deep.DeepCutAuto
import Derived.Deep.CutBlock
import Derived.Deep.RegionHeld3
import Derived.Laws.Rows
import Derived.Lib.AppendStr
import Derived.ArgAppend
import Derived.Laws.IdiomCopy
import Derived.OrdersHeld
import Derived.Laws.BitsLemmas
import Derived.RowKit
import Derived.Test.YtkmbkejmfffafaaGreatDoorQ0
import Derived.Test.YtkmbkejmfffafaaGreatDoorQ6
import Derived.Lib.LaidTab
import Derived.Stop.Joined
import Derived.Test.YtkmbkejmfffafaaGreatDoorQ7
import Derived.Test.YtkmbkejmfffafaaGreatDoorQ8
import Derived.Test.YtkmbkejmfffafaaGreatDoorQ10
set_option linter.unusedSectionVars false
set_option linter.unusedVariables false
set_option linter.unusedSimpArgs false
namespace Go.Proofs.YtkmbkejmfffafaaGreatDoor.Refl
open Go Go.RowKit
set_option linter.unusedVariables false
set_option linter.unusedSimpArgs false
set_option maxRecDepth 1000000
theorem trim_digs {l : List UInt8} (h : Digs l) : Digs (Lib.trimLeftB l 48) := fun b hb => h b ((List.dropWhile_sublist _).subset hb)
end Go.Proofs.YtkmbkejmfffafaaGreatDoor.Refl
section
namespace Go.Proofs.YtkmbkejmfffafaaGreatDoor.PRgt
open Go.RowKit Go.Proofs.YtkmbkejmfffafaaGreatDoorW.PrintWords Go.Proofs.YtkmbkejmfffafaaGreatDoorW.PrintLast Go.Proofs.YtkmbkejmfffafaaGreatDoorW.PrintMore
attribute [local go_sem] max2_int min2_int max_two min_two max_three min_three max_four min_four   -- for this text's walks alone
set_option linter.unusedVariables false
set_option linter.unusedSimpArgs false
def errW : Option Int → Value
  | none => .nilIface
  | some c => .iface 0 (.int .i64 c)
theorem errW_none : errW none = .nilIface := rfl
theorem errW_some (c : Int) : errW (some c) = .iface 0 (.int .i64 c) := rfl
end Go.Proofs.YtkmbkejmfffafaaGreatDoor.PRgt
end
section
namespace Go.Proofs.YtkmbkejmfffafaaGreatDoor.PRgt
open Go.RowKit Go.Proofs.YtkmbkejmfffafaaGreatDoorW.PrintWords Go.Proofs.YtkmbkejmfffafaaGreatDoorW.PrintLast Go.Proofs.YtkmbkejmfffafaaGreatDoorW.PrintMore
attribute [local go_sem] max2_int min2_int max_two min_two max_three min_three max_four min_four   -- for this text's walks alone
set_option linter.unusedVariables false
set_option linter.unusedSimpArgs false
def polyglotlaw02_digit.f (a0 : Int) : Option (Bool) := if a0 ≥ 48 then (some (decide (a0 ≤ 57))) else (some false)
set_option maxHeartbeats 8000000 in
set_option maxRecDepth 100000 in
theorem polyglotlaw02_digit.calls (a0 : Int) (r : Bool) (w : World) (h : polyglotlaw02_digit.f a0 = some r) :
    Calls Tryz.prog 45 #[.int .u8 a0] w fun e w' => e = .returned (.bool r) ∧ Drawn0 w w' := by
  have H : (if a0 ≥ 48 then (some (decide (a0 ≤ 57))) else (some false)) = some r := h
  clear h
  by_cases c2 : a0 ≥ 48
  · rw [if_pos c2] at H
    have c2b0 : decide (48 ≤ a0) = true := decide_eq_true c2
    clear c2
    obtain rfl := Option.some.inj H
    go_enter Tryz.func45, Tryz.ntmps45
    go_wp2
    go_ret
    exact ⟨by first | rfl | (simp; done) | (simp [*]; done), by repeat (first | exact Drawn0.refl _ | apply Drawn0.step)⟩
  · rw [if_neg c2] at H
    have c2b0 : decide (48 ≤ a0) = false := decide_eq_false c2
    clear c2
    obtain rfl := Option.some.inj H
    go_enter Tryz.func45, Tryz.ntmps45
    go_wp2
    go_ret
    exact ⟨by first | rfl | (simp; done) | (simp [*]; done), by repeat (first | exact Drawn0.refl _ | apply Drawn0.step)⟩
mutual
def polyglotlaw02_Right.j0 : Nat → Bool → Bool → ByteArray → Int → Option (Bool)
  | 0, _, _, _, _ => none
  | k + 1, x20, x104000, x104001, x104002 => if x20 = true then (some false) else (polyglotlaw02_Right.l0 k 0 x104000 x104001 x104002)
def polyglotlaw02_Right.l0 : Nat → Int → Bool → ByteArray → Int → Option (Bool)
  | 0, _, _, _, _ => none
  | k + 1, x3, x104000, x104001, x104002 => if x3 < (x104001.size : Int) then (if 0 ≤ x3 then ((polyglotlaw02_digit.f (bt x104001 x3)).bind fun t104 => (if t104 = true then (polyglotlaw02_Right.l0 k (wrap64 (x3 + 1)) x104000 x104001 x104002) else (some false))) else (none)) else (if 0 < (x104001.size : Int) then (if (bt x104001 0) = 48 then (some ((x104001.size : Int) == (wrap64 (x104002 + 1)))) else (some true)) else (none))
end
def polyglotlaw02_Right.f (k : Nat) (a0_0 : Bool) (a0_1 : ByteArray) (a0_2 : Int) : Option (Bool) := if a0_2 < 0 then (polyglotlaw02_Right.j0 k true a0_0 a0_1 a0_2) else (if a0_2 ≥ (a0_1.size : Int) then (polyglotlaw02_Right.j0 k true a0_0 a0_1 a0_2) else (polyglotlaw02_Right.j0 k (decide ((a0_1.size : Int) > 60)) a0_0 a0_1 a0_2))
set_option maxHeartbeats 8000000 in
set_option maxRecDepth 100000 in
theorem polyglotlaw02_Right.calls (k : Nat) (a0_0 : Bool) (a0_1 : ByteArray) (a0_2 : Int) (r : Bool) (w : World) (h : polyglotlaw02_Right.f k a0_0 a0_1 a0_2 = some r) :
    Calls Tryz.prog 17 #[.agg #[.bool a0_0, .string a0_1, .int .i64 a0_2]] w fun e w' => e = .returned (.bool r) ∧ Below w.heap.size w w' := by
  have hu58 := Tryz.underlying58
  have HB := Aside0.mk (Below.refl w.heap.size w)
  have H : (if a0_2 < 0 then (polyglotlaw02_Right.j0 k true a0_0 a0_1 a0_2) else (if a0_2 ≥ (a0_1.size : Int) then (polyglotlaw02_Right.j0 k true a0_0 a0_1 a0_2) else (polyglotlaw02_Right.j0 k (decide ((a0_1.size : Int) > 60)) a0_0 a0_1 a0_2))) = some r := h
  clear h
  have HC2 := Aside0.mk H
  clear H
  go_enter Tryz.func17, Tryz.ntmps17
  go_upto_region 1 with (first | ((with_reducible refine gate_dst (N := 1) rfl ?_); (try (refine gate_guard (by rfl) ?_; dsimp only)); refine box_event ?hg (N := 1) ?hd (cs := #[.bool a0_0, .string a0_1, .int .i64 a0_2]) (t := 58) ?hr ?_; (case hd => rfl); (case hg => rfl); (case hr => first | (go_simp; done) | (go_simp; rfl)); intro gb103 hg w3 hbox hb; have n0_ := Aside0.mk (below_step (by repeat (first | (with_reducible first | exact HB.out | apply below_alloc | apply pw_below_drewN | apply below_drew1) | exact HB.out)) hb); have n1_ := Aside0.mk (hbox); have n2_ := Aside0.mk ((by rw [hg]; exact (below_size (by repeat (first | (with_reducible first | exact HB.out | apply below_alloc | apply pw_below_drewN | apply below_drew1) | exact HB.out))) : w.heap.size ≤ gb103)); have n3_ := Aside0.mk ((by rw [hg]; exact (below_size (by repeat (first | (with_reducible first | exact HB.out | apply below_alloc | apply pw_below_drewN | apply below_drew1) | exact HB.out))) : w.heap.size ≤ gb103)); clear HB; have HB := n0_; have BK103 := n1_; have GW103 := n2_; have GE103 := n3_; clear n0_ n1_ n2_ n3_; clear hb hbox hg))
  (try simp only [Act.put, List.setIfInBounds_toArray, List.set_cons_zero, List.set_cons_succ])
  go_cut [20] (fun v20 wc => ∃ (kq : Nat) (x20_1 : Bool), v20 = .bool x20_1 ∧ Aside0 (polyglotlaw02_Right.j0 kq x20_1 a0_0 a0_1 a0_2 = some r) ∧ Aside0 (kq ≤ k) ∧ Aside0 (wc.heap[gb103]? = some (.cells #[.bool a0_0, .string a0_1, .int .i64 a0_2] 58 (0, 0))) ∧ Aside0 (Below w.heap.size w wc))
  case first =>
    have H := HC2.out
    clear HC2
    by_cases c4 : a0_2 < 0
    · rw [if_pos c4] at H
      have c4b0 : decide (a0_2 < 0) = true := decide_eq_true c4
      clear c4
      (first | rw [c4b0] | (simp only [i64_w, i32_w]; rw [c4b0]) | skip)
      have H' := Aside0.mk H
      clear H
      have hcz5_0 : w3.cell? ⟨gb103, 0, none⟩ = some (.bool a0_0) := (blk_cell BK103.out 0).trans rfl
      have hcz5_1 : w3.cell? ⟨gb103, 1, none⟩ = some (.string a0_1) := (blk_cell BK103.out 1).trans rfl
      have hcz5_2 : w3.cell? ⟨gb103, 2, none⟩ = some (.int .i64 a0_2) := (blk_cell BK103.out 2).trans rfl
      have hfz5_0 := blk_frozen BK103.out 0
      have hfz5_1 := blk_frozen BK103.out 1
      have hfz5_2 := blk_frozen BK103.out 2
      go_wp2
      go_meet
      case rel => exact ⟨_, (true), (by first | rfl | (simp; done) | (simp [*]; done)), H', ⟨by first | omega | exact Nat.le_refl _⟩, ⟨by (with_reducible repeat (first | refine blk_drewN ?_ _ | refine blk_drew ?_ | refine blk_alloc ?_ _)); exact BK103.out⟩, ⟨by repeat (first | (with_reducible first | exact HB.out | apply below_alloc | apply pw_below_drewN | apply below_drew1 | refine below_set ?_ GE103.out) | exact HB.out)⟩⟩
    · rw [if_neg c4] at H
      have c4b0 : decide (a0_2 < 0) = false := decide_eq_false c4
      clear c4
      (first | rw [c4b0] | (simp only [i64_w, i32_w]; rw [c4b0]) | skip)
      by_cases c6 : a0_2 ≥ (a0_1.size : Int)
      · rw [if_pos c6] at H
        have c6b0 : decide ((a0_1.size : Int) ≤ a0_2) = true := decide_eq_true c6
        clear c6
        have H' := Aside0.mk H
        clear H
        have hcz7_0 : w3.cell? ⟨gb103, 0, none⟩ = some (.bool a0_0) := (blk_cell BK103.out 0).trans rfl
        have hcz7_1 : w3.cell? ⟨gb103, 1, none⟩ = some (.string a0_1) := (blk_cell BK103.out 1).trans rfl
        have hcz7_2 : w3.cell? ⟨gb103, 2, none⟩ = some (.int .i64 a0_2) := (blk_cell BK103.out 2).trans rfl
        have hfz7_0 := blk_frozen BK103.out 0
        have hfz7_1 := blk_frozen BK103.out 1
        have hfz7_2 := blk_frozen BK103.out 2
        go_wp2
        go_meet
        case rel => exact ⟨_, (true), (by first | rfl | (simp; done) | (simp [*]; done)), H', ⟨by first | omega | exact Nat.le_refl _⟩, ⟨by (with_reducible repeat (first | refine blk_drewN ?_ _ | refine blk_drew ?_ | refine blk_alloc ?_ _)); exact BK103.out⟩, ⟨by repeat (first | (with_reducible first | exact HB.out | apply below_alloc | apply pw_below_drewN | apply below_drew1 | refine below_set ?_ GE103.out) | exact HB.out)⟩⟩
      · rw [if_neg c6] at H
        have c6b0 : decide ((a0_1.size : Int) ≤ a0_2) = false := decide_eq_false c6
        clear c6
        have H' := Aside0.mk H
        clear H
        have hcz8_0 : w3.cell? ⟨gb103, 0, none⟩ = some (.bool a0_0) := (blk_cell BK103.out 0).trans rfl
        have hcz8_1 : w3.cell? ⟨gb103, 1, none⟩ = some (.string a0_1) := (blk_cell BK103.out 1).trans rfl
        have hcz8_2 : w3.cell? ⟨gb103, 2, none⟩ = some (.int .i64 a0_2) := (blk_cell BK103.out 2).trans rfl
        have hfz8_0 := blk_frozen BK103.out 0
        have hfz8_1 := blk_frozen BK103.out 1
        have hfz8_2 := blk_frozen BK103.out 2
        go_wp2
        go_meet
        case rel => exact ⟨_, (decide ((a0_1.size : Int) > 60)), (by first | rfl | (simp; done) | (simp [*]; done)), H', ⟨by first | omega | exact Nat.le_refl _⟩, ⟨by (with_reducible repeat (first | refine blk_drewN ?_ _ | refine blk_drew ?_ | refine blk_alloc ?_ _)); exact BK103.out⟩, ⟨by repeat (first | (with_reducible first | exact HB.out | apply below_alloc | apply pw_below_drewN | apply below_drew1 | refine below_set ?_ GE103.out) | exact HB.out)⟩⟩
  case rest =>
    clear HC2
    try clear c1
    try clear p2
    try clear c4
    try clear c4b0
    try clear c6
    try clear c6b0
    try clear hcz5_0
    try clear hcz5_1
    try clear hcz5_2
    try clear hcz7_0
    try clear hcz7_1
    try clear hcz7_2
    try clear hcz8_0
    try clear hcz8_1
    try clear hcz8_2
    try clear hfz5_0
    try clear hfz5_1
    try clear hfz5_2
    try clear hfz7_0
    try clear hfz7_1
    try clear hfz7_2
    try clear hfz8_0
    try clear hfz8_1
    try clear hfz8_2
    obtain ⟨kq, x20_1, rfl, HA, HJ1, BK103, HB⟩ := hcut
    cases kq with
    | zero => exact absurd HA.out (by simp [polyglotlaw02_Right.j0])
    | succ kj1 =>
      have H := HA.out
      clear HA
      simp only [polyglotlaw02_Right.j0] at H
      by_cases c9 : x20_1 = true
      · subst c9
        have H1 : (some false) = some r := by rw [if_pos rfl] at H; exact H
        clear H
        have H := H1
        clear H1
        obtain rfl := Option.some.inj H
        go_wp2
        go_ret
        exact ⟨by first | rfl | (simp [errW_none, errW_some] <;> rfl) | (simp [*, errW_none, errW_some] <;> rfl), by repeat (first | (with_reducible first | exact HB.out | apply below_alloc | apply pw_below_drewN | apply below_drew1 | refine below_set ?_ GE103.out) | exact HB.out)⟩
      · replace c9 := Bool.eq_false_iff.mpr c9
        subst c9
        have H1 : (polyglotlaw02_Right.l0 kj1 0 a0_0 a0_1 a0_2) = some r := by rw [if_neg (show ¬ (false = true) by decide)] at H; exact H
        clear H
        have H := H1
        clear H1
        have H' := Aside0.mk H
        clear H
        go_wp2
        go_loopg [3] kj1 (fun kq v3 w' => ∃ (x3_l2 : Int), v3 = .int .i64 x3_l2 ∧ Aside0 (polyglotlaw02_Right.l0 kq x3_l2 a0_0 a0_1 a0_2 = some r) ∧ Aside0 (kq ≤ kj1) ∧ Aside0 (w'.heap[gb103]? = some (.cells #[.bool a0_0, .string a0_1, .int .i64 a0_2] 58 (0, 0))) ∧ Aside0 (Below w.heap.size w w'))
        case atStart => exact ⟨(0), (by first | rfl | (simp; done) | (simp [*]; done)), H', ⟨Nat.le_refl _⟩, ⟨by (with_reducible repeat (first | refine blk_drewN ?_ _ | refine blk_drew ?_ | refine blk_alloc ?_ _)); exact BK103.out⟩, ⟨by repeat (first | (with_reducible first | exact HB.out | apply below_alloc | apply pw_below_drewN | apply below_drew1 | refine below_set ?_ GE103.out) | exact HB.out)⟩⟩
        case round =>
          clear H'
          try clear c1
          try clear p2
          try clear c4
          try clear c4b0
          try clear c6
          try clear c6b0
          try clear c9
          try clear hcz5_0
          try clear hcz5_1
          try clear hcz5_2
          try clear hcz7_0
          try clear hcz7_1
          try clear hcz7_2
          try clear hcz8_0
          try clear hcz8_1
          try clear hcz8_2
          try clear hfz5_0
          try clear hfz5_1
          try clear hfz5_2
          try clear hfz7_0
          try clear hfz7_1
          try clear hfz7_2
          try clear hfz8_0
          try clear hfz8_1
          try clear hfz8_2
          try clear p2
          obtain ⟨x3_l2, rfl, HA, HK2, BK103, HB⟩ := hrel
          cases gk with
          | zero => exact absurd HA.out (by simp [polyglotlaw02_Right.l0])
          | succ k2 =>
            have H := HA.out
            clear HA
            simp only [polyglotlaw02_Right.l0] at H
            by_cases c10 : x3_l2 < (a0_1.size : Int)
            · rw [if_pos c10] at H
              have c10b0 : decide (x3_l2 < (a0_1.size : Int)) = true := decide_eq_true c10
              clear c10
              by_cases c11 : 0 ≤ x3_l2
              · rw [if_pos c11] at H
                have c11b0 : decide (0 ≤ x3_l2) = true := decide_eq_true c11
                clear c11
                replace H := Option.bind_eq_some_iff.mp H
                obtain ⟨t104, A130, H⟩ := H
                replace H : (if t104 = true then (polyglotlaw02_Right.l0 k2 (wrap64 (x3_l2 + 1)) a0_0 a0_1 a0_2) else (some false)) = some r := H
                have A13 := Aside0.mk A130
                clear A130
                by_cases c14 : t104 = true
                · subst c14
                  have H1 : (polyglotlaw02_Right.l0 k2 (wrap64 (x3_l2 + 1)) a0_0 a0_1 a0_2) = some r := by rw [if_pos rfl] at H; exact H
                  clear H
                  have H := H1
                  clear H1
                  have H' := Aside0.mk H
                  clear H
                  have hcz15_0 : wr.cell? ⟨gb103, 0, none⟩ = some (.bool a0_0) := (blk_cell BK103.out 0).trans rfl
                  have hcz15_1 : wr.cell? ⟨gb103, 1, none⟩ = some (.string a0_1) := (blk_cell BK103.out 1).trans rfl
                  have hcz15_2 : wr.cell? ⟨gb103, 2, none⟩ = some (.int .i64 a0_2) := (blk_cell BK103.out 2).trans rfl
                  have hfz15_0 := blk_frozen BK103.out 0
                  have hfz15_1 := blk_frozen BK103.out 1
                  have hfz15_2 := blk_frozen BK103.out 2
                  have p12 : 0 ≤ (x3_l2 : Int) := of_decide_eq_true (by first | (with_reducible assumption) | assumption)
                  have q12 : x3_l2 < (a0_1.size : Int) := of_decide_eq_true (by first | (with_reducible assumption) | assumption)
                  have hx12 := bt_at a0_1 x3_l2
                  replace p12 := eq_true p12
                  replace q12 := eq_true q12
                  go_wp2_with (first | ((with_reducible refine gate_callee (f := 45) rfl ?_); refine goesL_ (some 32) rfl rfl Tryz.func45 (by kernel_rfl) rfl #[.int .u8 (bt a0_1 x3_l2)] rfl (by (try simp only [List.map_toArray, List.map_cons, List.map_nil]); first | done | rfl | (simp only [List.length_drop, List.length_take]; rfl)) ?_; (with_reducible refine (polyglotlaw02_digit.calls (bt a0_1 x3_l2) true _ A13.out).mono ?_); rintro e w' ⟨rfl, ⟨nd, rfl⟩⟩; refine ⟨_, rfl, ?_⟩))
                  go_roundg k2
                  case measure => have := HJ1.out; have := HK2.out; omega
                  case rel => exact ⟨(wrap64 (x3_l2 + 1)), (by first | rfl | (simp; done) | (simp [*]; done)), H', ⟨by have := HJ1.out; have := HK2.out; omega⟩, ⟨by (with_reducible repeat (first | refine blk_drewN ?_ _ | refine blk_drew ?_ | refine blk_alloc ?_ _)); exact BK103.out⟩, ⟨by repeat (first | (with_reducible first | exact HB.out | apply below_alloc | apply pw_below_drewN | apply below_drew1 | refine below_set ?_ GE103.out) | exact HB.out)⟩⟩
                · replace c14 := Bool.eq_false_iff.mpr c14
                  subst c14
                  have H1 : (some false) = some r := by rw [if_neg (show ¬ (false = true) by decide)] at H; exact H
                  clear H
                  have H := H1
                  clear H1
                  obtain rfl := Option.some.inj H
                  have hcz16_0 : wr.cell? ⟨gb103, 0, none⟩ = some (.bool a0_0) := (blk_cell BK103.out 0).trans rfl
                  have hcz16_1 : wr.cell? ⟨gb103, 1, none⟩ = some (.string a0_1) := (blk_cell BK103.out 1).trans rfl
                  have hcz16_2 : wr.cell? ⟨gb103, 2, none⟩ = some (.int .i64 a0_2) := (blk_cell BK103.out 2).trans rfl
                  have hfz16_0 := blk_frozen BK103.out 0
                  have hfz16_1 := blk_frozen BK103.out 1
                  have hfz16_2 := blk_frozen BK103.out 2
                  have p12 : 0 ≤ (x3_l2 : Int) := of_decide_eq_true (by first | (with_reducible assumption) | assumption)
                  have q12 : x3_l2 < (a0_1.size : Int) := of_decide_eq_true (by first | (with_reducible assumption) | assumption)
                  have hx12 := bt_at a0_1 x3_l2
                  replace p12 := eq_true p12
                  replace q12 := eq_true q12
                  go_wp2_with (first | ((with_reducible refine gate_callee (f := 45) rfl ?_); refine goesL_ (some 32) rfl rfl Tryz.func45 (by kernel_rfl) rfl #[.int .u8 (bt a0_1 x3_l2)] rfl (by (try simp only [List.map_toArray, List.map_cons, List.map_nil]); first | done | rfl | (simp only [List.length_drop, List.length_take]; rfl)) ?_; (with_reducible refine (polyglotlaw02_digit.calls (bt a0_1 x3_l2) false _ A13.out).mono ?_); rintro e w' ⟨rfl, ⟨nd, rfl⟩⟩; refine ⟨_, rfl, ?_⟩))
                  go_ret
                  exact ⟨by first | rfl | (simp [errW_none, errW_some] <;> rfl) | (simp [*, errW_none, errW_some] <;> rfl), by repeat (first | (with_reducible first | exact HB.out | apply below_alloc | apply pw_below_drewN | apply below_drew1 | refine below_set ?_ GE103.out) | exact HB.out)⟩
              · rw [if_neg c11] at H
                exact absurd H (by simp)
            · rw [if_neg c10] at H
              have c10b0 : decide (x3_l2 < (a0_1.size : Int)) = false := decide_eq_false c10
              clear c10
              by_cases c17 : 0 < (a0_1.size : Int)
              · rw [if_pos c17] at H
                have c17b0 : decide (0 < (a0_1.size : Int)) = true := decide_eq_true c17
                have c17b1 : decide (0 < a0_1.size) = true := decide_eq_true (by omega)
                clear c17
                by_cases c19 : (bt a0_1 0) = 48
                · rw [if_pos c19] at H
                  have c19b0 : ((bt a0_1 0) == 48) = true := beq_iff_eq.mpr c19
                  have c19b1 : ((bt a0_1 0) != 48) = false := bne_eq_false_iff_eq.mpr c19
                  clear c19
                  obtain rfl := Option.some.inj H
                  have hcz20_0 : wr.cell? ⟨gb103, 0, none⟩ = some (.bool a0_0) := (blk_cell BK103.out 0).trans rfl
                  have hcz20_1 : wr.cell? ⟨gb103, 1, none⟩ = some (.string a0_1) := (blk_cell BK103.out 1).trans rfl
                  have hcz20_2 : wr.cell? ⟨gb103, 2, none⟩ = some (.int .i64 a0_2) := (blk_cell BK103.out 2).trans rfl
                  have hfz20_0 := blk_frozen BK103.out 0
                  have hfz20_1 := blk_frozen BK103.out 1
                  have hfz20_2 := blk_frozen BK103.out 2
                  have p18 : 0 ≤ (0 : Int) := (by omega)
                  have q18 : 0 < a0_1.size := (by have : (0 : Int) < (a0_1.size : Int) := of_decide_eq_true (by first | (with_reducible assumption) | assumption); omega)
                  have hx18 : ∀ h : 0 < a0_1.size, ((a0_1[0]'h).toNat : Int) = bt a0_1 0 := bt_at a0_1 0
                  clear p18
                  have qi18 : (0 < (a0_1.size : Int)) = True := eq_true (of_decide_eq_true (by first | (with_reducible assumption) | assumption))
                  replace q18 := eq_true q18
                  go_wp2
                  go_ret
                  exact ⟨by first | rfl | (simp [errW_none, errW_some] <;> rfl) | (simp [*, errW_none, errW_some] <;> rfl), by repeat (first | (with_reducible first | exact HB.out | apply below_alloc | apply pw_below_drewN | apply below_drew1 | refine below_set ?_ GE103.out) | exact HB.out)⟩
                · rw [if_neg c19] at H
                  have c19b0 : ((bt a0_1 0) == 48) = false := beq_eq_false_iff_ne.mpr c19
                  have c19b1 : ((bt a0_1 0) != 48) = true := bne_iff_ne.mpr c19
                  obtain rfl := Option.some.inj H
                  have hcz21_0 : wr.cell? ⟨gb103, 0, none⟩ = some (.bool a0_0) := (blk_cell BK103.out 0).trans rfl
                  have hcz21_1 : wr.cell? ⟨gb103, 1, none⟩ = some (.string a0_1) := (blk_cell BK103.out 1).trans rfl
                  have hcz21_2 : wr.cell? ⟨gb103, 2, none⟩ = some (.int .i64 a0_2) := (blk_cell BK103.out 2).trans rfl
                  have hfz21_0 := blk_frozen BK103.out 0
                  have hfz21_1 := blk_frozen BK103.out 1
                  have hfz21_2 := blk_frozen BK103.out 2
                  have p18 : 0 ≤ (0 : Int) := (by omega)
                  have q18 : 0 < a0_1.size := (by have : (0 : Int) < (a0_1.size : Int) := of_decide_eq_true (by first | (with_reducible assumption) | assumption); omega)
                  have hx18 : ∀ h : 0 < a0_1.size, ((a0_1[0]'h).toNat : Int) = bt a0_1 0 := bt_at a0_1 0
                  clear p18
                  have qi18 : (0 < (a0_1.size : Int)) = True := eq_true (of_decide_eq_true (by first | (with_reducible assumption) | assumption))
                  replace q18 := eq_true q18
                  go_wp2
                  go_ret
                  exact ⟨by first | rfl | (simp [errW_none, errW_some] <;> rfl) | (simp [*, errW_none, errW_some] <;> rfl), by repeat (first | (with_reducible first | exact HB.out | apply below_alloc | apply pw_below_drewN | apply below_drew1 | refine below_set ?_ GE103.out) | exact HB.out)⟩
              · rw [if_neg c17] at H
                exact absurd H (by simp)
end Go.Proofs.YtkmbkejmfffafaaGreatDoor.PRgt
end
namespace Go.Proofs.YtkmbkejmfffafaaGreatDoor.Refl
open Go Go.RowKit
set_option linter.unusedVariables false
set_option linter.unusedSimpArgs false
set_option maxRecDepth 1000000
theorem en17 : (Tryz.prog.funcs[17]?).map (fun fn => (fn.name == "runtime.NumGoroutine", fn.body.isSome)) = some (false, true) := by kernel_rfl
theorem LR_flat1 {ρ : Ren} {a : Value} {l : List Value} (ha : flat 5 a = true) (h : LR ρ [a] l) : l = [a] := by
  cases h with
  | cons h1 h2 => cases h2; rw [flat_eq 5 _ _ ha h1]
theorem right_pure (k : Nat) (neg : Bool) (D : List UInt8) (sc : Int) (r : Bool) (hf : PRgt.polyglotlaw02_Right.f k neg (bA D) sc = some r) : Pure false 17 [.agg ⟨[.bool neg, strV D, .int .i64 sc]⟩] (.bool r) := by
  intro h ρ w args' _ hg hr hl
  obtain rfl := LR_flat1 rfl hl
  unfold Ans
  rw [enter_of en17]
  show Calls Tryz.prog 17 #[.agg #[.bool neg, .string (bA D), .int .i64 sc]] w (Back _)
  refine (PRgt.polyglotlaw02_Right.calls k neg (bA D) sc r w hf).mono fun e w' he => ?_
  obtain ⟨rfl, hb⟩ := he
  exact ⟨rfl, Step.grown hr hb⟩
end Go.Proofs.YtkmbkejmfffafaaGreatDoor.Refl
namespace Go.Proofs.YtkmbkejmfffafaaGreatDoor.RightLaw
open Go Go.RowKit Go.Proofs.YtkmbkejmfffafaaGreatDoor.PRgt Go.Proofs.YtkmbkejmfffafaaGreatDoorW.PrintWords
open Go.Proofs.YtkmbkejmfffafaaGreatDoor.Refl (bA Digs RightD)
set_option linter.unusedVariables false
set_option linter.unusedSimpArgs false
set_option maxRecDepth 1000000
theorem bt_bA {D : List UInt8} {i : Nat} (h : i < D.length) : bt (bA D) (i : Int) = ((D[i]).toNat : Int) := by
  rw [← bt_at (bA D) i (by show i < D.length; exact h)]; rfl
theorem digit_f (c : Int) : polyglotlaw02_digit.f c = some (decide (48 ≤ c ∧ c ≤ 57)) := by
  unfold polyglotlaw02_digit.f
  by_cases h : c ≥ 48
  · rw [if_pos h]; have h : 48 ≤ c := h; simp [h]
  · rw [if_neg h]; have : ¬ 48 ≤ c := h; simp [this]
theorem wrap_succ {i : Nat} (h : i < 1000) : wrap64 ((i : Int) + 1) = ((i + 1 : Nat) : Int) := by
  unfold wrap64; omega
theorem l0_law (m : Nat) (neg : Bool) {D : List UInt8} (sc : Int) (hD : D.length ≤ 60) (h0 : 0 < D.length) : ∀ n i, D.length - i = n → i ≤ D.length → ∃ r, polyglotlaw02_Right.l0 (m + n + 1) (i : Int) neg (bA D) sc = some r ∧
    (r = true → (∀ j, i ≤ j → (hj : j < D.length) → 48 ≤ (D[j]).toNat ∧ (D[j]).toNat ≤ 57) ∧ ((D[0]).toNat = 48 → (D.length : Int) = wrap64 (sc + 1)))
  | 0, i, hn, hi => by
    have hsz : (bA D).size = D.length := rfl
    have e : i = D.length := by omega
    unfold polyglotlaw02_Right.l0
    rw [hsz, if_neg (by omega), if_pos (by omega)]
    have b0 : bt (bA D) 0 = ((D[0]).toNat : Int) := bt_bA (i := 0) h0
    rw [b0]
    by_cases h48 : ((D[0]).toNat : Int) = 48
    · rw [if_pos h48]
      refine ⟨_, rfl, fun hr => ⟨fun j h1 h2 => by omega, fun _ => by simpa using hr⟩⟩
    · rw [if_neg h48]
      exact ⟨_, rfl, fun _ => ⟨fun j h1 h2 => by omega, fun h => absurd (by omega) h48⟩⟩
  | n + 1, i, hn, hi => by
    have hsz : (bA D).size = D.length := rfl
    have hlt : i < D.length := by omega
    unfold polyglotlaw02_Right.l0
    rw [hsz, if_pos (by omega), if_pos (by omega), bt_bA hlt, digit_f]
    simp only [Option.bind_some]
    by_cases hd : 48 ≤ ((D[i]).toNat : Int) ∧ ((D[i]).toNat : Int) ≤ 57
    · rw [if_pos (by simpa using hd), wrap_succ (by omega)]
      obtain ⟨r, h1, h2⟩ := l0_law m neg sc hD h0 n (i + 1) (by omega) (by omega)
      refine ⟨r, (h1 : polyglotlaw02_Right.l0 (m + (n + 1)) _ _ _ _ = _), fun hr => ⟨fun j hj hj2 => ?_, (h2 hr).2⟩⟩
      by_cases e : j = i
      · subst e; omega
      · exact (h2 hr).1 j (by omega) hj2
    · rw [if_neg (by simpa using hd)]
      exact ⟨_, rfl, fun h => by cases h⟩
theorem right_law (neg : Bool) (D : List UInt8) (sc : Int) : ∃ r, polyglotlaw02_Right.f 100 neg (bA D) sc = some r ∧ (r = true → ∃ n : Nat, sc = n ∧ D.length ≤ 60 ∧ RightD D n) := by
  have hsz : (bA D).size = D.length := rfl
  unfold polyglotlaw02_Right.f
  by_cases h1 : sc < 0
  · rw [if_pos h1]; exact ⟨false, rfl, fun h => by cases h⟩
  rw [if_neg h1, hsz]
  by_cases h2 : sc ≥ (D.length : Int)
  · rw [if_pos h2]; exact ⟨false, rfl, fun h => by cases h⟩
  rw [if_neg h2]
  by_cases h3 : (D.length : Int) > 60
  · rw [decide_eq_true h3]; exact ⟨false, rfl, fun h => by cases h⟩
  rw [decide_eq_false h3]
  have hl : D.length ≤ 60 := by omega
  have h0 : 0 < D.length := by omega
  obtain ⟨r, e1, e2⟩ := l0_law (98 - D.length) neg sc hl h0 D.length 0 (by omega) (by omega)
  have hk : 98 - D.length + D.length + 1 = 99 := by omega
  rw [hk] at e1
  refine ⟨r, e1, fun hr => ?_⟩
  obtain ⟨d1, d2⟩ := e2 hr
  refine ⟨sc.toNat, by omega, hl, ⟨fun b hb => ?_, by omega, ?_⟩⟩
  · obtain ⟨j, hj, rfl⟩ := List.getElem_of_mem hb
    exact d1 j (by omega) hj
  · by_cases h48 : (D[0]).toNat = 48
    · refine .inl ?_
      have := d2 h48
      unfold wrap64 at this
      omega
    · refine .inr fun he => h48 ?_
      rw [List.head?_eq_getElem?, List.getElem?_eq_getElem h0] at he
      rw [Option.some.inj he]; rfl
end Go.Proofs.YtkmbkejmfffafaaGreatDoor.RightLaw
namespace Go.Proofs.YtkmbkejmfffafaaGreatDoor.Refl
open Go Go.RowKit
set_option linter.unusedVariables false
set_option linter.unusedSimpArgs false
set_option maxRecDepth 1000000
end Go.Proofs.YtkmbkejmfffafaaGreatDoor.Refl
namespace Go.Proofs.YtkmbkejmfffafaaGreatDoor.Refl
open Go Go.RowKit
set_option linter.unusedVariables false
set_option linter.unusedSimpArgs false
set_option maxRecDepth 100000
structure Begins (W : World) : Prop where
  asc : ∃ cs fr, W.heap[0]? = some (.cells cs 166 fr) ∧ cs.toList = asc
  p10 : ∃ cs fr, W.heap[2]? = some (.cells cs 264 fr) ∧ cs.toList = p10
theorem p10_scalar : ∀ v ∈ p10, scalar v = true := (allB_eq _ _).1 (by rfl)
theorem asc_scalar : ∀ v ∈ asc, scalar v = true := (allB_eq _ _).1 (by kernel_rfl)
theorem vars_tail {x : String × DataW Unit} {l : List (String × DataW Unit)} {W : World} {ps : List MemPlace} (h : DataW.LaidVars Tryz.prog W (x :: l) ps) : ∃ q, DataW.LaidVars Tryz.prog W l q := by
  obtain ⟨g', t', cs, fuel, p, q, hg', ht', hvar, hd, hr, _⟩ := h
  exact ⟨q, hr⟩
theorem vars_head {name : String} {k : IntKind} {zs : List Int} {l : List (String × DataW Unit)} {W : World} {ps : List MemPlace} {g : Nat} {t e : TypeId} {n : Nat} (h : DataW.LaidVars Tryz.prog W ((name, Lib.tabData k zs) :: l) ps)
    (hg : Tryz.prog.globalNamed name = some g) (hty : (Tryz.prog.globals[g]?).map (·.type) = some t) (ht : Tryz.prog.underlying t = some (.array n e)) (he : Tryz.prog.underlying e = some (.int k)) (hce : Tryz.prog.cellsOf e = 1) (hct : Tryz.prog.cellsOf t = n) : Lib.TabIs Tryz.prog W name k zs := by
  obtain ⟨g', t', cs, fuel, p, q, hg', ht', hvar, hd, _, _⟩ := h
  obtain rfl := Option.some.inj (hg.symm.trans hg')
  obtain rfl := Option.some.inj (hty.symm.trans ht')
  unfold Lib.TabIs
  rw [hvar, ← Lib.cells_of_tab ht he hce hct hd]
theorem tab_block {W : World} {name : String} {k : IntKind} {zs : List Int} {g : Nat} {t : TypeId} {zero : Array Value} (hT : Lib.TabIs Tryz.prog W name k zs) (hg : Tryz.prog.globalNamed name = some g) (hsh : W.ShapedOpen Tryz.prog) (hlt : g < Tryz.prog.globals.size)
    (h0 : ((begin Tryz.prog (fun _ _ => 0) default).world.heap[g]?).bind Obj.row? = some (zero, t)) : ∃ cs fr, W.heap[g]? = some (.cells cs t fr) ∧ cs.toList = zs.map fun z => Value.int k z := by
  obtain ⟨cs, hh, _, _⟩ := hsh.1 g zero t hlt h0
  refine ⟨cs, _, hh, ?_⟩
  unfold Lib.TabIs World.var? at hT
  rw [hg] at hT
  simp only [Option.bind_some, hh, Option.some.injEq] at hT
  rw [hT]
end Go.Proofs.YtkmbkejmfffafaaGreatDoor.Refl
namespace Go.Proofs.YtkmbkejmfffafaaGreatDoor.Refl
open Go Go.RowKit
set_option linter.unusedVariables false
set_option linter.unusedSimpArgs false
set_option maxRecDepth 100000
structure BeginsM (W : World) (m : Int) : Prop extends Begins W where
  mx : ∃ cs fr, W.heap[4]? = some (.cells cs 3 fr) ∧ cs.toList = [Value.int .i64 m]
noncomputable def cellM (b : Nat) : Nat := if b = 0 then Tryz.prog.cellsOf 166 else if b = 4 then Tryz.prog.cellsOf 3 else Tryz.prog.cellsOf 264
noncomputable def ρM : Ren := fun b => match Nat.blt b 12 with
  | true => some ⟨b, 0, 0, cellM b⟩
  | false => none
theorem ρM_some {b : Nat} {im : Im} (h : ρM b = some im) : b < 12 ∧ im = ⟨b, 0, 0, cellM b⟩ := by
  unfold ρM at h
  rw [blt_eq] at h
  by_cases hb : b < 12
  · simp only [hb, decide_true, Option.some.injEq] at h; exact ⟨hb, h.symm⟩
  · simp [hb] at h
theorem hM_obj (m : Int) (orc : List (Nat × Bool)) (b : Nat) : (hM m orc).obj b = if b = 4 then .cells [.int .i64 m] 3 1 2 else if b = 2 then .cells p10 264 20 2 else if b = 0 then .cells Refl.asc 166 256 2 else .dead := by
  rw [AH.obj_def]
  show (if b < 12 then objIn (((Tr.nil.set 0 (.cells Refl.asc 166 256 2)).set 2 (.cells p10 264 20 2)).set 4 (.cells [.int .i64 m] 3 1 2)) b else .dead) = _
  rw [objIn_set, objIn_set, objIn_set]
  have : objIn (Tr.nil : Tr AObj) b = .dead := by unfold objIn; rw [Tr.get_nil]
  rw [this]
  by_cases h4 : b = 4
  · subst h4; simp
  · by_cases h2 : b = 2
    · subst h2; simp
    · by_cases h0 : b = 0
      · subst h0; simp
      · simp [h4, h2, h0]
theorem row_startM {W : World} {b e n : Nat} {l : List Value} (hc : cellM b = Tryz.prog.cellsOf e) (hl : ∀ v ∈ l, flat 5 v = true) (hn : l.length = n) (hs : ∀ v ∈ l, scalar v = true) (h : ∃ cs fr, W.heap[b]? = some (.cells cs e fr) ∧ cs.toList = l) :
    OR Tryz.prog.cellsOf ρM W ⟨b, 0, 0, cellM b⟩ (.cells l e n 2) := by
  obtain ⟨cs, ⟨lo, hi⟩, h1, h2⟩ := h
  have hsz : cs.size = n := by rw [← Array.length_toList, h2, hn]
  refine ⟨cs, lo, hi, h1, fun i v hv => ?_, ⟨fun j h3 h4 h5 => ?_, fun h => absurd rfl h⟩, Nat.zero_le _, hc, fun h => by cases h⟩
  · simp only [AObj.cell, nth_eq] at hv
    refine ⟨hs v (List.mem_of_getElem? hv), v, ?_, flat_VR _ 5 v (hl v (List.mem_of_getElem? hv))⟩
    rw [Nat.zero_add, ← Array.getElem?_toList, h2]; exact hv
  · show j < 0 + n
    omega
theorem rel_startM {W : World} {m : Int} (h : BeginsM W m) (orc : List (Nat × Bool)) : Rel Tryz.prog.cellsOf ρM (hM m orc) W where
  obj := fun b im hb hn => by
    obtain ⟨hb12, rfl⟩ := ρM_some hb
    rw [hM_obj]
    by_cases hb4 : b = 4
    · subst hb4
      rw [if_pos rfl]
      exact row_startM rfl (fun v hv => by simp at hv; subst hv; rfl) rfl (fun v hv => by simp at hv; subst hv; rfl) h.mx
    rw [if_neg hb4]
    by_cases hb2 : b = 2
    · subst hb2
      rw [if_pos rfl]
      exact row_startM rfl p10_flat p10_len p10_scalar h.p10
    · rw [if_neg hb2]
      by_cases hb0 : b = 0
      · subst hb0
        rw [if_pos rfl]
        exact row_startM rfl asc_flat asc_len asc_scalar h.asc
      · rw [show (if b = 0 then AObj.cells asc 166 256 2 else AObj.dead) = AObj.dead from if_neg hb0]; trivial
  inj := fun b b' im im' h1 h1' _ _ _ _ h6 => by
    obtain ⟨_, rfl⟩ := ρM_some h1
    obtain ⟨_, rfl⟩ := ρM_some h1'
    exact h6
  top := fun b hb => AH.obj_top _ hb
theorem gl_startM : GL 12 ρM := fun g hg => ⟨⟨g, 0, 0, cellM g⟩, by unfold ρM; rw [blt_eq]; simp [hg], rfl, rfl⟩
theorem fr_startM (m : Int) (orc : List (Nat × Bool)) (n : Nat) : Fr ρM (hM m orc).n n := fun x hx _ => by
  have hx : 12 ≤ x := hx
  unfold ρM
  rw [blt_eq]
  have : ¬ x < 12 := by omega
  simp [this]
theorem calls_startM {E : Env} (hE : EnvF Tryz.prog E 12) {m : Int} {n f : Nat} {args args' : List Value} {orc : List (Nat × Bool)} {h1 : AH} (hx : acall E n f args (hM m orc) = some (.bool true, h1)) (hob : OB h1) (hlog : h1.log = [])
    (hl : LR ρM args args') (hen : ∀ (a : Array Value) (w : World), (callFunc f a).run Tryz.prog w = .ok (.enter f a) w) {W : World} (hW : BeginsM W m) :
    Calls Tryz.prog f args'.toArray W (fun e W' => e = .returned (.bool true) ∧ Below W.heap.size W W') := by
  have ha := acall_ok hE n f args (hM m orc) _ h1 hx hob ρM W args' gl_startM (rel_startM hW orc) (fr_startM m orc _) hl
  unfold Ans at ha
  rw [hen] at ha
  have hc : Calls Tryz.prog f args'.toArray W (Back _) := ha
  refine hc.mono fun e W' he => ?_
  cases e with
  | returned v =>
    obtain ⟨ρ', hv, st⟩ := he
    cases hv
    refine ⟨rfl, st.str.os, st.str.tape, st.str.output, st.size, fun k hk => ?_⟩
    rcases st.frame k hk with h | ⟨b, im, h2, _⟩
    · exact h
    · rw [hlog] at h2; simp at h2
  | panicked c => exact he.elim
  | outgrown => exact he.elim
end Go.Proofs.YtkmbkejmfffafaaGreatDoor.Refl
namespace Go.Proofs.YtkmbkejmfffafaaGreatDoor.Refl
open Go Go.RowKit
set_option linter.unusedVariables false
set_option linter.unusedSimpArgs false
set_option maxRecDepth 1000000
structure PL where
  k : Nat
  c : Nat
  L : List UInt8
  Lg : List UInt8
  Sc : List UInt8
  Re : List UInt8
  T : List UInt8
  vs : Option (List (List UInt8))
  neg : Bool
  D : List UInt8
  S : List UInt8
noncomputable def PL.dec (x : PL) : Value := decA x.neg x.D x.k
noncomputable def argS (S : List UInt8) : Value := .agg ⟨[strV [110], intV 1, strV S]⟩
noncomputable def valT (neg : Bool) (D : List UInt8) (k : Nat) : Value := .tuple ⟨[valV neg D k, .bool true]⟩
noncomputable def atV (b : Nat) (o : Option (List (List UInt8))) : Option (Nat × List (List UInt8)) := match o with
  | none => none
  | some vs => some (b, vs)
noncomputable def PL.tP (x : PL) (s : List UInt8) : TagT := ⟨s, x.Lg, x.Sc, x.Re, x.vs, true⟩
noncomputable def PL.tS (x : PL) (b : Nat) : TagU := ⟨x.Lg, x.Sc, x.Re, atV b x.vs, x.T⟩
noncomputable def t21 (x : PL) : List Value × Value := ([strV x.Lg, x.dec], intV x.c)
noncomputable def t44 (x : PL) : List Value × Value := ([argS x.S], valT x.neg x.D x.k)
noncomputable def o44 (x : PL) : List Bool := [pB (Pure false 44 [argS x.S] (valT x.neg x.D x.k)), pB ([argS x.S] = [argS x.S])]
noncomputable def oTP (x : PL) (s : List UInt8) : List Bool := match x.vs with
  | none => [pB (YtkmbkejmfffafaaGreatDoorHand.tag_Parse.f (bA s) = some (bA x.Lg, bA x.Sc, bA x.Re, List.map bA [], true)), pB ([strV s] = [strV s])]
  | some vs => [pB (vs ≠ []), pB (YtkmbkejmfffafaaGreatDoorHand.tag_Parse.f (bA s) = some (bA x.Lg, bA x.Sc, bA x.Re, List.map bA vs, true)), pB ([strV s] = [strV s])]
noncomputable def oTS (x : PL) (b : Nat) : List Bool := match x.vs with
  | none => [pB (PFit.tag_Tag_String.f (bA x.Lg) (bA x.Sc) (bA x.Re) (List.map bA []) = some (bA x.T)), pB ([tagA x.Lg x.Sc x.Re (.slice none 0 0)] = [tagA x.Lg x.Sc x.Re (.slice none 0 0)])]
  | some vs => [Nat.ble (len vs) 9223372036854775807, pB (vs ≠ []), pB (List.map strV vs = List.map strV vs), pB (PFit.tag_Tag_String.f (bA x.Lg) (bA x.Sc) (bA x.Re) (List.map bA vs) = some (bA x.T)), pB ([tagA x.Lg x.Sc x.Re (slV b 0 (len vs) LOOSE)] = [tagA x.Lg x.Sc x.Re (slV b 0 (len vs) LOOSE)])]
noncomputable def oPart (t : List UInt8) : List Bool := [Nat.ble (Nat.add (len (app (app (itoaF (len t)) [58]) t)) (len [44])) 1099511627776, Nat.ble (Nat.add (len (app (itoaF (len t)) [58])) (len t)) 1099511627776, Nat.ble (Nat.add (len (itoaF (len t))) (len [58])) 1099511627776, Nat.blt (len t) 400]
noncomputable def oLen (l : List (List UInt8)) (n : Nat) : Bool := Nat.ble (nP l n) 4294967296
noncomputable def oSam (l : List (List UInt8)) (n : Nat) : Bool := Nat.beq (len (sP l n)) (nP l n)
noncomputable def oAll (l : List (List UInt8)) : Bool := Nat.ble (len (sP l 11)) 1099511627776
noncomputable def oAt (l : List (List UInt8)) (n : Nat) (p : List UInt8) : Bool := bytesEq (List.take (len (partF p)) (List.drop (nP l n) (sP l 11))) (partF p)
noncomputable def oEq (l : List (List UInt8)) : Bool := iEq (Int.ofNat (nP l 11)) (Int.ofNat (len (sP l 11)))
noncomputable def oIt (l : List (List UInt8)) : List Bool := [beqB false (!oEq l), beqB true (beqB (!oEq l) false), beqB true (beqB (!oEq l) false), beqB true (beqB (!oEq l) false), beqB true (beqB (!oEq l) false), beqB true (beqB (!oEq l) false)]
end Go.Proofs.YtkmbkejmfffafaaGreatDoor.Refl
section
namespace Go.Proofs.YtkmbkejmfffafaaGreatDoorHandF
open Go.RowKit Go.Proofs.YtkmbkejmfffafaaGreatDoorW.PrintWords Go.Proofs.YtkmbkejmfffafaaGreatDoorW.PrintLast Go.Proofs.YtkmbkejmfffafaaGreatDoorW.PrintMore
set_option linter.unusedVariables false
set_option linter.unusedSimpArgs false
def utf8_DecodeRune.f (l : List Int) : Option (Int × Int) := match l with
  | x :: _ => if 0 ≤ x ∧ x < 128 then some (x, 1) else none
  | [] => none
set_option maxHeartbeats 1000000 in
set_option maxRecDepth 100000 in
theorem decode_ascii (b off n cap : Nat) (x : Int) (w : World) (hn : 0 < n) (h0 : w.cell? ⟨b, off, none⟩ = some (.int .u8 x)) (h1 : 0 ≤ x) (h2 : x < 128) :
    Calls Tryz.prog 190 #[.slice (some ⟨b, off, none⟩) n cap] w fun e w' => e = .returned (.tuple #[.int .i32 x, .int .i64 1]) ∧ Below w.heap.size w w' := by
  have d1 : decide ((0 : Int) < (n : Int)) = true := decide_eq_true (by omega)
  go_enter Tryz.func190, Tryz.ntmps190
  go_wp2
  go_loopg [8] (2) (fun kq v8 w' => v8 = .int .i64 0 ∧ w' = w)
  case atStart => exact ⟨rfl, rfl⟩
  case round =>
    obtain ⟨rfl, rfl⟩ := hrel
    go_wp2
    go_ret2
    exact ⟨rfl, Below.refl _ _⟩
theorem utf8_DecodeRune.calls (A0 : Option Addr) (c0 : Nat) (l0 : List Int) (r1 r2 : Int) (w : World) (hr0 : Kd.C (Kd.int .u8) w A0 l0.length l0) (hc0 : l0.length ≤ c0) (h : utf8_DecodeRune.f l0 = some (r1, r2)) :
    Calls Tryz.prog 190 #[.slice A0 l0.length c0] w fun e w' => e = .returned (.tuple #[.int .i32 r1, .int .i64 r2]) ∧ Below w.heap.size w w' := by
  unfold utf8_DecodeRune.f at h
  cases l0 with
  | nil => cases h
  | cons x l =>
    simp only at h
    by_cases hx : 0 ≤ x ∧ x < 128
    · rw [if_pos hx] at h
      obtain ⟨rfl, rfl⟩ := Prod.mk.inj (Option.some.inj h)
      obtain ⟨_, _, hcell⟩ := hr0
      obtain ⟨ad, rfl, hc⟩ := hcell (by simp)
      obtain ⟨c, c1, c2, c3⟩ := hc 0 x rfl
      have c2 : c = [.int .u8 x] := c2
      subst c2
      have k := c3 0 (.int .u8 x) rfl
      have k : w.cell? (ad.add 0) = some (.int .u8 x) := k
      obtain ⟨b, off, spot⟩ := ad
      have hs : spot = none := by
        unfold World.cell? at k
        split at k
        · cases spot with
          | none => rfl
          | some y => simp [Addr.add] at k
        · cases k
      subst hs
      have k : w.cell? ⟨b, off, none⟩ = some (.int .u8 x) := by simpa [Addr.add] using k
      exact decode_ascii b off (x :: l).length c0 x w (by simp) k hx.1 hx.2
    · rw [if_neg hx] at h; cases h
def utf8_appendRuneNonASCII.f (l0 : List Int) (a1 : Int) : Option (List Int) := none
end Go.Proofs.YtkmbkejmfffafaaGreatDoorHandF
end
section
namespace Go.Proofs.YtkmbkejmfffafaaGreatDoor.PTde
open Go.RowKit Go.Proofs.YtkmbkejmfffafaaGreatDoorHandF Go.Proofs.YtkmbkejmfffafaaGreatDoorW.PrintWords Go.Proofs.YtkmbkejmfffafaaGreatDoorW.PrintLast Go.Proofs.YtkmbkejmfffafaaGreatDoorW.PrintMore
attribute [local go_sem] max2_int min2_int max_two min_two max_three min_three max_four min_four   -- for this text's walks alone
set_option linter.unusedVariables false
set_option linter.unusedSimpArgs false
def errW : Option Int → Value
  | none => .nilIface
  | some c => .iface 0 (.int .i64 c)
theorem errW_none : errW none = .nilIface := rfl
theorem errW_some (c : Int) : errW (some c) = .iface 0 (.int .i64 c) := rfl
theorem info5 : (Tryz.prog.info? 5).map (fun i => (i.zero, i.size, i.bytes)) = some (some (.int .u8 0), 1, 1) := by kernel_rfl
end Go.Proofs.YtkmbkejmfffafaaGreatDoor.PTde
end
section
namespace Go.Proofs.YtkmbkejmfffafaaGreatDoor.PTde
open Go.RowKit Go.Proofs.YtkmbkejmfffafaaGreatDoorHandF Go.Proofs.YtkmbkejmfffafaaGreatDoorW.PrintWords Go.Proofs.YtkmbkejmfffafaaGreatDoorW.PrintLast Go.Proofs.YtkmbkejmfffafaaGreatDoorW.PrintMore
attribute [local go_sem] max2_int min2_int max_two min_two max_three min_three max_four min_four   -- for this text's walks alone
set_option linter.unusedVariables false
set_option linter.unusedSimpArgs false
def utf8_AppendRune.f (l0 : List Int) (a1 : Int) : Option (List Int) := if ((a1) % 4294967296) ≤ 127 then (if l0.length < 140737488355328 then (some (l0 ++ [(a1) % 256])) else (none)) else ((utf8_appendRuneNonASCII.f l0 a1).bind fun t104 => (some t104))
set_option maxHeartbeats 8000000 in
set_option maxRecDepth 100000 in
theorem utf8_AppendRune.calls (P0_ : Nat → Prop) (u9000_ : Value) (l0 : List Int) (a1 : Int) (r : List Int) (w0 w : World) (hB : Below w0.heap.size w0 w) (ho0 : Kd.R (Kd.int .u8) 5 w w0.heap.size P0_ u9000_ l0) (h : utf8_AppendRune.f l0 a1 = some r) :
    Calls Tryz.prog 191 #[u9000_, .int .i32 a1] w fun e w' => ∃ v0_ : Value, e = .returned (v0_) ∧ Kd.R (Kd.int .u8) 5 w' w0.heap.size (fun k_ => (P0_ k_ ∨ w.heap.size ≤ k_)) v0_ r ∧ Below w0.heap.size w0 w' ∧ Kept w w' (fun k_ => P0_ k_) := by
  have HO0 := Aside0.mk (show Kd.R (Kd.int .u8) 5 w w0.heap.size (fun k_ => (P0_ k_ ∨ w.heap.size ≤ k_)) u9000_ l0 from Kd.R_mono ho0 (fun k_ hk => (.inl hk)))
  have HK := Aside0.mk (Kept.refl w (fun k_ => P0_ k_))
  have HW0 := Aside0.mk hB.size
  have HB := Aside0.mk hB
  clear hB
  have H : (if ((a1) % 4294967296) ≤ 127 then (if l0.length < 140737488355328 then (some (l0 ++ [(a1) % 256])) else (none)) else ((utf8_appendRuneNonASCII.f l0 a1).bind fun t104 => (some t104))) = some r := h
  clear h
  by_cases c3 : ((a1) % 4294967296) ≤ 127
  · rw [if_pos c3] at H
    have c3b0 : decide (((a1) % 4294967296) ≤ 127) = true := decide_eq_true c3
    clear c3
    by_cases c4 : l0.length < 140737488355328
    · rw [if_pos c4] at H
      have LMc4 := Aside0.mk c4
      clear c4
      obtain ⟨y101, hy101⟩ : ∃ y_ : List Int, y_ = (l0 ++ [(a1) % 256]) := ⟨_, rfl⟩
      replace H : (some y101) = some r := by first | (rw [hy101]; with_reducible exact H) | (have H2_ := (Option.bind_some _ _).symm.trans H; rw [hy101]; with_reducible exact H2_) | (have H2_ := (Option.bind_some _ _).symm.trans H; with_reducible exact H2_) | with_reducible exact H | (rw [hy101]; exact H) | exact H
      have Ny101 := Aside0.mk hy101
      clear hy101
      obtain rfl := Option.some.inj H
      go_enter Tryz.func191, Tryz.ntmps191
      go_wp2_with (first | ((with_reducible refine gate_builtin (b := .append) (xs := #[.tmp 8, .tmp 11]) rfl ?_); at_builtin; refine Kd.R_append (Kd.int .u8) (w0 := w0) w0.heap.size rfl (.tmp 8) (.tmp 11) 27 5 (.int .u8 0) 1 rfl Tryz.underlying27 info5 rfl (by decide) (by omega) u9000_ l0 ((a1) % 256) [.int .u8 ((a1) % 256)] (fun k_ => (P0_ k_ ∨ w.heap.size ≤ k_)) (fun _ => False) rfl rfl ?aP (fun _ hk => hk.elim) ?aF ?aO ?aB ?aS ?aL ?_; (case aP => exact rfl); (case aB => exact (by repeat (first | (with_reducible first | exact HB.out | apply below_alloc | apply pw_below_drewN | apply below_drew1) | exact HB.out))); (case aF => exact (fun k_ hk => (.inr (Nat.le_trans (by first | exact HK.out.1 | exact (show Kept w _ (fun k_ => P0_ k_) from by repeat (first | (with_reducible first | exact HK.out | apply Kept.alloc | apply Kept.drewN | apply Kept.drew) | exact HK.out)).1) hk)))); (case aO => exact (by (with_reducible repeat (first | apply Kd.R_alloc | apply Kd.R_drewN | apply Kd.R_drew)); exact HO0.out)); (case aS => exact (below_size (by repeat (first | (with_reducible first | exact HB.out | apply below_alloc | apply pw_below_drewN | apply below_drew1) | exact HB.out)))); (case aL => have := LMc4.out; omega); intro v102 w5 ho hb hg hat; rw [← Ny101.out] at ho; have n0_ := Aside0.mk (hb); have n1_ := Aside0.mk (Kept.of_grown (S := (fun k_ => P0_ k_)) hg (by repeat (first | (with_reducible first | exact HK.out | apply Kept.alloc | apply Kept.drewN | apply Kept.drew) | exact HK.out)) (fun k_ e_ => (HO0.out.1 k_ e_))); have n2_ := Aside0.mk (ho); clear HB; clear HK; clear HO0; have HB := n0_; have HK := n1_; have HO103 := n2_; clear n0_ n1_ n2_; clear ho hb hg hat))
      go_ret
      exact ⟨_, by first | rfl | (simp [errW_none, errW_some] <;> rfl) | (simp [*, errW_none, errW_some] <;> rfl), by (with_reducible repeat (first | apply Kd.R_alloc | apply Kd.R_drewN | apply Kd.R_drew)); exact HO103.out, by repeat (first | (with_reducible first | exact HB.out | apply below_alloc | apply pw_below_drewN | apply below_drew1) | exact HB.out), by repeat (first | (with_reducible first | exact HK.out | apply Kept.alloc | apply Kept.drewN | apply Kept.drew) | exact HK.out)⟩
    · rw [if_neg c4] at H
      exact absurd H (by simp)
  · rw [if_neg c3] at H
    obtain ⟨t104, A60, H⟩ := Option.bind_eq_some_iff.mp H
    exact absurd A60 (by simp [utf8_appendRuneNonASCII.f])
def text_Decode.l0 : Nat → List Int → List Int → Int → Option (ByteArray)
  | 0, _, _, _ => none
  | k + 1, x0, x3, x4 => if x4 < (x0.length : Int) then (if 0 ≤ x4 then (if x4 ≤ (x0.length : Int) then ((utf8_DecodeRune.f (x0.drop (x4 : Int).toNat)).bind fun bt108 => (if bt108.1 = 13 then (text_Decode.l0 k x0 x3 (wrap64 (x4 + bt108.2))) else ((utf8_AppendRune.f x3 bt108.1).bind fun t110 => (text_Decode.l0 k x0 t110 (wrap64 (x4 + bt108.2)))))) else (none)) else (none)) else (some (strOfNums x3))
def text_Decode.f (k : Nat) (l0 : List Int) : Option (ByteArray) := text_Decode.l0 k l0 ([] : List Int) 0
set_option maxHeartbeats 8000000 in
set_option maxRecDepth 100000 in
theorem text_Decode.calls (k : Nat) (A0 : Option Addr) (c0 : Nat) (l0 : List Int) (r : ByteArray) (w : World) (hr0 : Kd.C (Kd.int .u8) w A0 l0.length l0) (hc0 : l0.length ≤ c0) (h : text_Decode.f k l0 = some r) :
    Calls Tryz.prog 149 #[.slice A0 l0.length c0] w fun e w' => e = .returned (.string r) ∧ Below w.heap.size w w' := by
  have HR0 := Aside0.mk hr0
  have HC0 := Aside0.mk hc0
  clear hr0 hc0
  have HB := Aside0.mk (Below.refl w.heap.size w)
  have H : (text_Decode.l0 k l0 ([] : List Int) 0) = some r := h
  clear h
  have H' := Aside0.mk H
  clear H
  go_enter Tryz.func149, Tryz.ntmps149
  go_wp2
  go_loopg [3, 4] k (fun kq v3 v4 w' => ∃ (x3_l1 : List Int) (x4_l1 : Int), v4 = .int .i64 x4_l1 ∧ Aside0 (text_Decode.l0 kq l0 x3_l1 x4_l1 = some r) ∧ Aside0 (kq ≤ k) ∧ Aside0 (Kd.R (Kd.int .u8) 5 w' w.heap.size (fun _ => True) v3 x3_l1) ∧ Aside0 (Below w.heap.size w w'))
  case atStart => exact ⟨(([] : List Int)), (0), (by first | rfl | (simp; done) | (simp [*]; done)), H', ⟨Nat.le_refl _⟩, ⟨by first | exact Kd.R_nil _ _ _ _ _ | exact Kd.N_nil _ _ _ _ _ | exact Kd.V_nil _ _ _ _ _ | exact Kd.Q_nil _ _ _ _ _ | exact Kd.S_nil _ _ _ _ _⟩, ⟨by repeat (first | (with_reducible first | exact HB.out | apply below_alloc | apply pw_below_drewN | apply below_drew1) | exact HB.out)⟩⟩
  case round =>
    clear H'
    try clear c1
    obtain ⟨x3_l1, x4_l1, rfl, HA, HK1, HO_3, HB⟩ := hrel
    cases gk with
    | zero => exact absurd HA.out (by simp [text_Decode.l0])
    | succ k1 =>
      have H := HA.out
      clear HA
      simp only [text_Decode.l0] at H
      by_cases c2 : x4_l1 < (l0.length : Int)
      · rw [if_pos c2] at H
        have c2b0 : decide (x4_l1 < (l0.length : Int)) = true := decide_eq_true c2
        clear c2
        by_cases c3 : 0 ≤ x4_l1
        · rw [if_pos c3] at H
          have c3b0 := eq_true c3
          have c3b1 : decide (0 ≤ x4_l1) = true := decide_eq_true c3
          clear c3
          by_cases c4 : x4_l1 ≤ (l0.length : Int)
          · rw [if_pos c4] at H
            have c4b0 := eq_true c4
            have c4b1 : decide (x4_l1 ≤ (l0.length : Int)) = true := decide_eq_true c4
            clear c4
            replace H := Option.bind_eq_some_iff.mp H
            obtain ⟨⟨t108, t109⟩, A50, H⟩ := H
            replace H : (if t108 = 13 then (text_Decode.l0 k1 l0 x3_l1 (wrap64 (x4_l1 + t109))) else ((utf8_AppendRune.f x3_l1 t108).bind fun t110 => (text_Decode.l0 k1 l0 t110 (wrap64 (x4_l1 + t109))))) = some r := H
            have A5 := Aside0.mk A50
            clear A50
            by_cases c6 : t108 = 13
            · rw [if_pos c6] at H
              have c6b0 : (t108 == 13) = true := beq_iff_eq.mpr c6
              have c6b1 : (t108 != 13) = false := bne_eq_false_iff_eq.mpr c6
              clear c6
              have H' := Aside0.mk H
              clear H
              obtain ⟨i07, hi07, _, hsz7, _⟩ := info_parts info5
              obtain ⟨A7, hcut7, hA7, hC7⟩ := print_drop_of (P := Tryz.prog) (Value.int .u8) 0 27 5 .i64 Tryz.underlying27 hi07 hsz7 A0 c0 l0 x4_l1 (of_decide_eq_true (by first | (with_reducible assumption) | assumption)) (of_decide_eq_true (by first | (with_reducible assumption) | assumption)) HC0.out
              have HR107 := Aside0.mk (Kd.C_of_reads (h1 := fun _ => rfl) (hA7 _ (Kd.reads_of_C HR0.out)))
              have HC107 := Aside0.mk hC7
              clear hA7 hC7 hi07 hsz7
              go_wp2_with (first | ((with_reducible refine gate_callee (f := 190) rfl ?_); refine goesL_ (some 15) rfl rfl Tryz.func190 (by kernel_rfl) rfl #[.slice A7 (l0.drop (x4_l1 : Int).toNat).length (c0 - x4_l1.toNat)] rfl (by (try simp only [List.map_toArray, List.map_cons, List.map_nil]); first | done | (rw [show (l0.drop (x4_l1 : Int).toNat).length = (l0.length - x4_l1.toNat) from List.length_drop] <;> rfl) | rfl | (simp only [List.length_drop, List.length_take]; rfl)) ?_; (with_reducible refine (utf8_DecodeRune.calls _ _ (l0.drop (x4_l1 : Int).toNat) t108 t109 _ ?side1 ?side2 A5.out).mono ?_); (case side1 => repeat (first | exact (Kd.C_below HR107.out HB.out) | (with_reducible refine Kd.C_alloc ?_ _) | (with_reducible refine Kd.C_drewN ?_ _) | (with_reducible refine Kd.C_drew ?_))); (case side2 => exact HC107.out); rintro e w8 ⟨rfl, hb⟩; refine ⟨_, rfl, ?_⟩; have n0_ := Aside0.mk (Kd.R_below (by (with_reducible repeat (first | apply Kd.R_alloc | apply Kd.R_drewN | apply Kd.R_drew)); exact HO_3.out) hb); have n1_ := Aside0.mk (below_step (by repeat (first | (with_reducible first | exact HB.out | apply below_alloc | apply pw_below_drewN | apply below_drew1) | exact HB.out)) hb); clear HO_3; clear HB; have HO_3 := n0_; have HB := n1_; clear n0_ n1_; (try clear hb); (try clear hb2); (try clear hk); (try clear hi)))
              go_roundg k1
              case measure => have := HK1.out; omega
              case rel => exact ⟨(x3_l1), (wrap64 (x4_l1 + t109)), (by first | rfl | (simp; done) | (simp [*]; done)), H', ⟨by have := HK1.out; omega⟩, ⟨by (with_reducible repeat (first | apply Kd.R_alloc | apply Kd.R_drewN | apply Kd.R_drew)); exact HO_3.out⟩, ⟨by repeat (first | (with_reducible first | exact HB.out | apply below_alloc | apply pw_below_drewN | apply below_drew1) | exact HB.out)⟩⟩
            · rw [if_neg c6] at H
              have c6b0 : (t108 == 13) = false := beq_eq_false_iff_ne.mpr c6
              have c6b1 : (t108 != 13) = true := bne_iff_ne.mpr c6
              replace H := Option.bind_eq_some_iff.mp H
              obtain ⟨t110, A90, H⟩ := H
              replace H : (text_Decode.l0 k1 l0 t110 (wrap64 (x4_l1 + t109))) = some r := H
              have A9 := Aside0.mk A90
              clear A90
              have H' := Aside0.mk H
              clear H
              obtain ⟨i010, hi010, _, hsz10, _⟩ := info_parts info5
              obtain ⟨A10, hcut10, hA10, hC10⟩ := print_drop_of (P := Tryz.prog) (Value.int .u8) 0 27 5 .i64 Tryz.underlying27 hi010 hsz10 A0 c0 l0 x4_l1 (of_decide_eq_true (by first | (with_reducible assumption) | assumption)) (of_decide_eq_true (by first | (with_reducible assumption) | assumption)) HC0.out
              have HR107 := Aside0.mk (Kd.C_of_reads (h1 := fun _ => rfl) (hA10 _ (Kd.reads_of_C HR0.out)))
              have HC107 := Aside0.mk hC10
              clear hA10 hC10 hi010 hsz10
              go_wp2_with (first | ((with_reducible refine gate_callee (f := 190) rfl ?_); refine goesL_ (some 15) rfl rfl Tryz.func190 (by kernel_rfl) rfl #[.slice A10 (l0.drop (x4_l1 : Int).toNat).length (c0 - x4_l1.toNat)] rfl (by (try simp only [List.map_toArray, List.map_cons, List.map_nil]); first | done | (rw [show (l0.drop (x4_l1 : Int).toNat).length = (l0.length - x4_l1.toNat) from List.length_drop] <;> rfl) | rfl | (simp only [List.length_drop, List.length_take]; rfl)) ?_; (with_reducible refine (utf8_DecodeRune.calls _ _ (l0.drop (x4_l1 : Int).toNat) t108 t109 _ ?side1 ?side2 A5.out).mono ?_); (case side1 => repeat (first | exact (Kd.C_below HR107.out HB.out) | (with_reducible refine Kd.C_alloc ?_ _) | (with_reducible refine Kd.C_drewN ?_ _) | (with_reducible refine Kd.C_drew ?_))); (case side2 => exact HC107.out); rintro e w11 ⟨rfl, hb⟩; refine ⟨_, rfl, ?_⟩; have n0_ := Aside0.mk (Kd.R_below (by (with_reducible repeat (first | apply Kd.R_alloc | apply Kd.R_drewN | apply Kd.R_drew)); exact HO_3.out) hb); have n1_ := Aside0.mk (below_step (by repeat (first | (with_reducible first | exact HB.out | apply below_alloc | apply pw_below_drewN | apply below_drew1) | exact HB.out)) hb); clear HO_3; clear HB; have HO_3 := n0_; have HB := n1_; clear n0_ n1_; (try clear hb); (try clear hb2); (try clear hk); (try clear hi); obtain ⟨Ao12, co12, eo12⟩ := Kd.R_slice HO_3.out; subst eo12) | ((with_reducible refine gate_callee (f := 191) rfl ?_); refine goesL_ (some 25) rfl rfl Tryz.func191 (by kernel_rfl) rfl #[.slice Ao12 x3_l1.length co12, .int .i32 t108] rfl (by (try simp only [List.map_toArray, List.map_cons, List.map_nil]); first | done | rfl | (simp only [List.length_drop, List.length_take]; rfl)) ?_; (with_reducible refine (utf8_AppendRune.calls (fun k_ => some k_ = (.slice Ao12 x3_l1.length co12 : Value).ownBlock) (.slice Ao12 x3_l1.length co12) x3_l1 t108 t110 w _ ?side1 ?side2 A9.out).mono ?_); (case side1 => repeat (first | (with_reducible first | exact HB.out | apply below_alloc | apply pw_below_drewN | apply below_drew1) | exact HB.out)); (case side2 => exact Kd.R_tight rfl HO_3.out); rintro e w13 ⟨v111, rfl, ho0, hb, hkp⟩; refine ⟨_, rfl, ?_⟩; have n0_ := Aside0.mk (Kd.R_mono (ok' := fun k_ => True) ho0 (fun k_ hk_ => trivial)); have n1_ := Aside0.mk (hb); clear HB; clear HO_3; have HO112 := n0_; have HB := n1_; clear n0_ n1_; (try clear hb); (try clear hkp); (try clear ho0)))
              go_roundg k1
              case measure => have := HK1.out; omega
              case rel => exact ⟨(t110), (wrap64 (x4_l1 + t109)), (by first | rfl | (simp; done) | (simp [*]; done)), H', ⟨by have := HK1.out; omega⟩, ⟨by (with_reducible repeat (first | apply Kd.R_alloc | apply Kd.R_drewN | apply Kd.R_drew)); exact HO112.out⟩, ⟨by repeat (first | (with_reducible first | exact HB.out | apply below_alloc | apply pw_below_drewN | apply below_drew1) | exact HB.out)⟩⟩
          · rw [if_neg c4] at H
            exact absurd H (by simp)
        · rw [if_neg c3] at H
          exact absurd H (by simp)
      · rw [if_neg c2] at H
        have c2b0 : decide (x4_l1 < (l0.length : Int)) = false := decide_eq_false c2
        clear c2
        obtain rfl := Option.some.inj H
        have hcv14 := own_string (P := Tryz.prog) Tryz.underlying27 Tryz.underlying5 Tryz.underlying9 (Kd.own_of_R HO_3.out)
        go_wp2
        go_ret
        exact ⟨by first | rfl | (simp [errW_none, errW_some] <;> rfl) | (simp [*, errW_none, errW_some] <;> rfl), by repeat (first | (with_reducible first | exact HB.out | apply below_alloc | apply pw_below_drewN | apply below_drew1) | exact HB.out)⟩
end Go.Proofs.YtkmbkejmfffafaaGreatDoor.PTde
end
namespace Go.Proofs.YtkmbkejmfffafaaGreatDoor.DecodeLaw
open Go Go.RowKit Go.Proofs.YtkmbkejmfffafaaGreatDoor.PTde Go.Proofs.YtkmbkejmfffafaaGreatDoorHandF Go.Proofs.YtkmbkejmfffafaaGreatDoorW.PrintWords
set_option linter.unusedVariables false
set_option linter.unusedSimpArgs false
set_option maxRecDepth 100000
theorem wrap_nat {i : Nat} (h : i < 1000000) : wrap64 ((i : Int) + 1) = ((i + 1 : Nat) : Int) := by
  unfold wrap64; omega
theorem decode_l0 (l : List Int) (hl : l.length ≤ 100000) (ha : ∀ x ∈ l, 0 ≤ x ∧ x < 128 ∧ x ≠ 13) : ∀ n i, l.length - i = n → i ≤ l.length → ∀ k, n < k → text_Decode.l0 k l (l.take i) (i : Int) = some (strOfNums l)
  | 0, i, hn, hi, k, hk => by
    obtain ⟨k, rfl⟩ : ∃ j, k = j + 1 := ⟨k - 1, by omega⟩
    have e : i = l.length := by omega
    rw [text_Decode.l0, if_neg (by omega), e, List.take_length]
  | n + 1, i, hn, hi, k, hk => by
    obtain ⟨k, rfl⟩ : ∃ j, k = j + 1 := ⟨k - 1, by omega⟩
    have hlt : i < l.length := by omega
    obtain ⟨h0, h1, h2⟩ := ha l[i] (List.getElem_mem hlt)
    have ed : utf8_DecodeRune.f (l.drop (i : Int).toNat) = some (l[i], 1) := by
      rw [Int.toNat_natCast, List.drop_eq_getElem_cons hlt]
      unfold utf8_DecodeRune.f
      simp only
      rw [if_pos ⟨h0, h1⟩]
    have ea : utf8_AppendRune.f (l.take i) l[i] = some (l.take (i + 1)) := by
      unfold utf8_AppendRune.f
      have e1 : l[i] % 4294967296 = l[i] := by omega
      have e2 : l[i] % 256 = l[i] := by omega
      have e3 : (l.take i).length = i := by rw [List.length_take]; omega
      rw [e1, e2, e3, if_pos (by omega), if_pos (by omega), List.take_succ_eq_append_getElem hlt]
    rw [text_Decode.l0, if_pos (by omega), if_pos (by omega), if_pos (by omega), ed]
    simp only [Option.bind_some]
    rw [if_neg h2, ea]
    simp only [Option.bind_some]
    rw [wrap_nat (by omega)]
    exact decode_l0 l hl ha n (i + 1) (by omega) (by omega) k (by omega)
theorem decode_f (l : List Int) (hl : l.length ≤ 100000) (ha : ∀ x ∈ l, 0 ≤ x ∧ x < 128 ∧ x ≠ 13) : text_Decode.f (l.length + 1) l = some (strOfNums l) := by
  have := decode_l0 l hl ha l.length 0 (by omega) (by omega) (l.length + 1) (by omega)
  exact this
end Go.Proofs.YtkmbkejmfffafaaGreatDoor.DecodeLaw
namespace Go.Proofs.YtkmbkejmfffafaaGreatDoor.Refl
open Go Go.RowKit Go.Proofs.YtkmbkejmfffafaaGreatDoorW.PrintWords
set_option linter.unusedVariables false
set_option linter.unusedSimpArgs false
set_option maxRecDepth 100000
def Ascii (l : List UInt8) : Prop := ∀ b ∈ l, b.toNat < 128 ∧ b.toNat ≠ 13
noncomputable def xDec2 (b n : Nat) (o : AObj) (h : AH) : AR := match o with
  | .bytes l e fz kd => some (strV l, ((h.owe (Nat.beq (len l) n)).owe (pB (Ascii l))).owe (Nat.ble (len l) 100000))
  | _ => none
noncomputable def xDec1 (s : SL) (h : AH) : AR := match s with
  | ⟨a, n, c⟩ => match a with
    | none => none
    | some p => match p with
      | ⟨b, off⟩ => match Nat.beq off 0 with
        | false => none
        | true => match Nat.beq c LOOSE with
          | false => none
          | true => match Nat.ble 1 n with
            | false => none
            | true => xDec2 b n (h.obj b) h
noncomputable def xDecode : XF := x1 fun v h => match asSl v with
  | none => none
  | some s => xDec1 s h
theorem xDecode_some {args : List Value} {h h1 : AH} {r : Value} (hx : xDecode args h = some (r, h1)) :
    ∃ b n l e fz kd, args = [slV b 0 n LOOSE] ∧ 1 ≤ n ∧ h.obj b = .bytes l e fz kd ∧ r = strV l ∧ h1 = ((h.owe (Nat.beq (len l) n)).owe (pB (Ascii l))).owe (Nat.ble (len l) 100000) := by
  obtain ⟨v, rfl, hx'⟩ := y1_some hx
  clear hx
  have hx := hx'
  clear hx'
  cases hs : asSl v with
  | none => simp [hs] at hx
  | some s =>
  simp only [hs] at hx
  obtain ⟨a, n, c⟩ := s
  unfold xDec1 at hx
  cases a with
  | none => simp at hx
  | some p =>
  obtain ⟨b, off⟩ := p
  simp only at hx
  cases h0 : Nat.beq off 0 with
  | false => simp [h0] at hx
  | true =>
  simp only [h0] at hx
  obtain rfl := Nat.eq_of_beq_eq_true h0
  cases hc : Nat.beq c LOOSE with
  | false => rw [hc] at hx; simp at hx
  | true =>
  rw [hc] at hx
  simp only at hx
  obtain rfl := Nat.eq_of_beq_eq_true hc
  cases hn : Nat.ble 1 n with
  | false => simp [hn] at hx
  | true =>
  simp only [hn] at hx
  unfold xDec2 at hx
  cases ho : h.obj b with
  | bytes l e fz kd =>
    simp only [ho, Option.some.injEq, Prod.mk.injEq] at hx
    have hv : v = slV b 0 n LOOSE := by
      cases v with
      | slice a n' c' =>
        cases a with
        | none => simp [asSl, asSlA] at hs
        | some a =>
          obtain ⟨ab, ao, asp⟩ := a
          cases asp with
          | none =>
            simp [asSl, asSlA, asPA] at hs
            obtain ⟨⟨rfl, rfl⟩, rfl, rfl⟩ := hs
            rfl
          | some x => simp [asSl, asSlA, asPA] at hs
      | _ => simp [asSl] at hs
    exact ⟨b, n, l, e, fz, kd, by rw [hv], Nat.le_of_ble_eq_true hn, ho, hx.1.symm, hx.2.symm⟩
  | _ => simp [ho] at hx
theorem row_readB {ρ : Ren} {h : AH} {w : World} {b e fz kd : Nat} {im : Im} {l : List UInt8} (hr : Rel Tryz.prog.cellsOf ρ h w) (hi : ρ b = some im) (ho : h.obj b = .bytes l e fz kd) (hn : l.length ≤ 9223372036854775807) :
    Kd.C (Kd.int .u8) w (some ⟨im.blk, im.sh + 0, none⟩) (l.map fun x => (x.toNat : Int)).length (l.map fun x => (x.toNat : Int)) := by
  have hd : h.obj b ≠ .dead := by rw [ho]; exact fun h => by cases h
  have hO := hr.obj b im hi (lt_of_obj rfl hd)
  rw [ho] at hO
  obtain ⟨cs', lo, hi', e1, e2, _⟩ := hO
  refine ⟨rfl, by simpa using hn, fun _ => ⟨_, rfl, fun j p hp => ?_⟩⟩
  have hj : j < l.length := by
    rcases Nat.lt_or_ge j l.length with h | h
    · exact h
    · rw [List.getElem?_eq_none (by simpa using h)] at hp; cases hp
  rw [List.getElem?_map, List.getElem?_eq_getElem hj] at hp
  obtain rfl := Option.some.inj hp
  refine ⟨[.int .u8 (l[j].toNat : Int)], rfl, rfl, fun i u hu => ?_⟩
  have hi0 : i = 0 := by
    rcases i with _ | i
    · rfl
    · simp at hu
  subst hi0
  obtain rfl : Value.int .u8 (l[j].toNat : Int) = u := by simpa using hu
  obtain ⟨_, v', e3, e4⟩ := e2 j (.int .u8 (l[j].toNat : Int)) (by simp only [AObj.cell, nth_eq, List.getElem?_eq_getElem hj]; rfl)
  cases e4
  unfold World.cell? Addr.add
  have s1 : (Kd.int .u8).sz = 1 := rfl
  rw [s1]
  by_cases hj0 : j = 0
  · subst hj0; simp [e1]; simpa using e3
  · simp [e1, hj0]; exact e3
theorem en149 : (Tryz.prog.funcs[149]?).map (fun fn => (fn.name == "runtime.NumGoroutine", fn.body.isSome)) = some (false, true) := by kernel_rfl
theorem xDecode_ok : ExtOK Tryz.prog 12 149 xDecode where
  fwd := fun args h r h1 hx => by
    obtain ⟨b, n, l, e, fz, kd, _, _, _, _, rfl⟩ := xDecode_some hx
    exact (((Up.owe h _).trans (Up.owe _ _)).trans (Up.owe _ _)).fwd
  run := fun args h r h1 hx hob ρ w args' hg hr hf hl => by
    obtain ⟨b, n, l, e, fz, kd, rfl, hn1, ho, rfl, rfl⟩ := xDecode_some hx
    obtain ⟨hob, q1⟩ := ob_owe hob
    obtain ⟨hob, q2⟩ := ob_owe hob
    obtain ⟨hob, q3⟩ := ob_owe hob
    have q2 : Ascii l := of_pB q2
    have q3 : l.length = n := by have := Nat.eq_of_beq_eq_true q3; rwa [len_eq] at this
    have q1 : l.length ≤ 100000 := by have := Nat.le_of_ble_eq_true q1; rwa [len_eq] at this
    subst q3
    refine ans_up (((Up.owe h _).trans (Up.owe _ _)).trans (Up.owe _ _)) rfl ?_
    have harg : ∃ im c', ρ b = some im ∧ args' = [.slice (some ⟨im.blk, im.sh + 0, none⟩) l.length c'] ∧ l.length ≤ c' := by
      cases hl with
      | cons h1 h2 =>
      cases h2
      cases h1 with
      | slTight _ hc _ => exact absurd hc (Nat.lt_irrefl _)
      | @slLoose a a' n c' im hs hi hn hd =>
        rcases hd with ⟨hd, _⟩ | hd
        · obtain ⟨im2, h2, rfl⟩ := hd.eq
          exact ⟨im2, c', h2, rfl, hn⟩
        · omega
    obtain ⟨im, c', hi, rfl, hc⟩ := harg
    have hC := row_readB hr hi ho (by omega)
    have hll : (l.map fun x => (x.toNat : Int)).length = l.length := by simp
    have hd := DecodeLaw.decode_f (l.map fun x => (x.toNat : Int)) (by rw [hll]; exact q1) (fun x hx => by
      obtain ⟨y, hy, rfl⟩ := List.mem_map.1 hx
      have := q2 y hy
      omega)
    have hs : strOfNums (l.map fun x => (x.toNat : Int)) = bA l := by
      unfold strOfNums bA
      congr 1
      rw [List.map_map]
      have : ((fun n : Int => UInt8.ofNat n.toNat) ∘ fun x : UInt8 => (x.toNat : Int)) = id := by
        funext x
        simp
      rw [this, List.map_id]
    unfold Ans
    rw [enter_of en149]
    have hk := PTde.text_Decode.calls _ (some ⟨im.blk, im.sh + 0, none⟩) c' _ _ w hC (by rw [hll]; exact hc) hd
    rw [hll, hs] at hk
    show Calls Tryz.prog 149 #[.slice (some ⟨im.blk, im.sh + 0, none⟩) l.length c'] w (Back _)
    refine Calls.mono hk fun e w' he => ?_
    obtain ⟨rfl, hb⟩ := he
    exact ⟨rfl, Step.grown hr hb⟩
end Go.Proofs.YtkmbkejmfffafaaGreatDoor.Refl
namespace Go.Proofs.YtkmbkejmfffafaaGreatDoor.Refl
open Go Go.RowKit
set_option linter.unusedVariables false
set_option linter.unusedSimpArgs false
set_option maxRecDepth 1000000
theorem itoa_pure {n : Nat} (hn : n < 400) : Pure true 18 [intV n] (strV (itoaF n)) := fun h ρ w args' ht hg hr hl => by
  obtain ⟨t1, _, _⟩ := tabsOK_some ht
  obtain ⟨h2, k1, k2⟩ := itoa_run hn
  obtain ⟨k3, k4⟩ := clean_some k2
  exact pure_ok envT0 k1 k3 k4 rfl rfl (hP_in t1) hP_flat hg hr hl (fun v hv => by simp at hv; subst hv; rfl) (strV_flat _)
noncomputable def hC0 : AH := { t := Tr.nil, n := 12, log := [], sym := false, cnt := 0, orc := [], ob := [] }
theorem hC0_obj (x : Nat) : hC0.obj x = .dead := by
  rw [AH.obj_def]
  show (if x < 12 then objIn (Tr.nil : Tr AObj) x else .dead) = _
  have : objIn (Tr.nil : Tr AObj) x = .dead := by unfold objIn; rw [Tr.get_nil]
  rw [this]; simp
theorem pure_of_run0 {E : Env} (hE : EnvF Tryz.prog E 12) {n f : Nat} {av : List Value} {r : Value} {h1 : AH} (hx : acall E n f av hC0 = some (r, h1)) (hob : OB h1) (hlog : h1.log = [])
    (hfa : ∀ v ∈ av, flat 5 v = true) (hfr : flat 5 r = true) : Pure false f av r := fun h ρ w args' _ hg hr hl =>
  pure_ok hE hx hob hlog rfl rfl (fun x _ => .inl (hC0_obj x)) (fun x _ => by rw [hC0_obj]; trivial) hg hr hl hfa hfr
end Go.Proofs.YtkmbkejmfffafaaGreatDoor.Refl
