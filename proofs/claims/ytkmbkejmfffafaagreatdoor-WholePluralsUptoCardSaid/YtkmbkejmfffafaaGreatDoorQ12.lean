/- Texts joined by this session's own program, part 12. PRgtx0, PRgtx1: written by this session's driver over the kit's printer. -/
import Derived.Test.YtkmbkejmfffafaaGreatDoorQ11
import Derived.Test.YtkmbkejmfffafaaGreatDoorProg
import Derived.Below
import Derived.Deep.Draws
import Derived.Deep.AppendLies
import Derived.Maps.AppendAt
import Derived.OwnWalk
import Derived.Laws.BytesArg
import Derived.Laws.MakeOwn
import Derived.Laws.OwnMore
import Derived.Deep.OwnRows
import Derived.Tactics
import Derived.Lib.ConvBytes
import Derived.Laws.Slices
import Derived.WalkKit
import Derived.KernelRfl
import Derived.RowKit3
import Derived.Deep.LoopGhost
import Derived.Deep.QuietTactic
import Derived.BigQuiet
import Derived.WideLaws
import Derived.Deep.DeepCutAuto
import Derived.Deep.CutBlock
import Derived.Deep.RegionHeld3
import Derived.Laws.Rows
import Derived.Lib.AppendStr
import Derived.ArgAppend
import Derived.Laws.IdiomCopy
import Derived.OrdersHeld
import Derived.Laws.BitsLemmas
import Derived.RowKit
import Derived.Test.YtkmbkejmfffafaaGreatDoorQ0
import Derived.Test.YtkmbkejmfffafaaGreatDoorQ6
import Derived.Lib.LaidTab
import Derived.Stop.Joined
import Derived.Test.YtkmbkejmfffafaaGreatDoorQ7
set_option linter.unusedSectionVars false
set_option linter.unusedVariables false
set_option linter.unusedSimpArgs false
namespace Go.Proofs.YtkmbkejmfffafaaGreatDoor.Refl
open Go Go.RowKit
set_option linter.unusedVariables false
set_option linter.unusedSimpArgs false
set_option maxRecDepth 1000000
theorem trim_first : ∀ l : List UInt8, (Lib.trimLeftB l 48).head? ≠ some 48
  | [] => fun h => by cases h
  | b :: l => by
    by_cases hb : b = 48
    · subst hb; exact trim_first l
    · have e : Lib.trimLeftB (b :: l) 48 = b :: l := by unfold Lib.trimLeftB; rw [List.dropWhile_cons_of_neg (by simpa using hb)]
      rw [e]; intro h; exact hb (Option.some.inj h)
theorem trim_digs {l : List UInt8} (h : Digs l) : Digs (Lib.trimLeftB l 48) := fun b hb => h b ((List.dropWhile_sublist _).subset hb)
theorem tl1_le : ∀ r ∈ tl1, lastV r ≤ 99 := by decide
theorem tl2_le : ∀ r ∈ tl2, lastV r ≤ 99 := by decide
theorem last2_le {N : List UInt8} (h : Digs N) : lastV (N.drop (N.length - 2)) ≤ 99 := by
  have hd : Digs (N.drop (N.length - 2)) := fun b hb => h b (List.mem_of_mem_drop hb)
  have hl : (N.drop (N.length - 2)).length ≤ 2 := by simp; omega
  rcases Nat.lt_or_ge (N.drop (N.length - 2)).length 1 with h1 | h1
  · have e : N.drop (N.length - 2) = [] := List.length_eq_zero_iff.1 (by omega)
    rw [e]; decide
  · rcases Nat.lt_or_ge (N.drop (N.length - 2)).length 2 with h2 | h2
    · exact tl1_le _ (tl1_mem hd (by omega))
    · exact tl2_le _ (tl2_mem hd (by omega))
theorem one_digit {N : List UInt8} (h : Digs N) (hf : N.head? ≠ some 48) (h1 : N ≠ [49]) (hl : N.length = 1) : 2 ≤ lastV (N.drop (N.length - 1)) := by
  have e : N.drop (N.length - 1) = N := by rw [hl]; rfl
  rw [e]
  have : ∀ r ∈ tl1, r.head? ≠ some 48 → r ≠ [49] → 2 ≤ lastV r := by decide
  exact this N (tl1_mem h hl) hf h1
theorem pluralOf_pure (g : List UInt8) (neg : Bool) {D : List UInt8} {sc : Nat} (hD : Digs D) (l0 : sc < D.length) (l1 : D.length ≤ 1000) : ∃ c, c ≤ 5 ∧ Pure true 21 [strV g, decA neg D sc] (intV c) := by
  have hW : Digs (D.take (D.length - sc)) := fun b hb => hD b (List.mem_of_mem_take hb)
  have p84 := trimLeft_pure (D.take (D.length - sc)) 48 (by decide)
  have p85 := trim_pure (D.drop (D.length - sc)) 48 (by decide) (by simp; omega)
  have hN := trim_digs hW
  have hf := trim_first (D.take (D.length - sc))
  have hNl : (Lib.trimLeftB (D.take (D.length - sc)) 48).length ≤ 1000 := by have := trim_le (D.take (D.length - sc)); simp at this; omega
  generalize hNe : Lib.trimLeftB (D.take (D.length - sc)) 48 = N at *
  generalize hQe : Lib.trimB (D.drop (D.length - sc)) 48 = Q at *
  have p1 := last1_pure (D := N) sc (bytesEq Q []) hN hNl
  have p2 := last2_pure (D := N) sc (bytesEq Q []) hN hNl
  have hb := last2_le hN
  have ho := one_digit hN hf
  generalize hae : lastV (N.drop (N.length - 1)) = a at *
  generalize hbe : lastV (N.drop (N.length - 2)) = b at *
  have o : OF D (D.take (D.length - sc)) (D.drop (D.length - sc)) N Q sc a b := ⟨l0, l1, rfl, rfl, p84, p85, p1, p2⟩
  by_cases e1 : g = [101, 110]
  · subst e1
    by_cases s0 : sc = 0
    · by_cases n1 : N = [49]
      · exact ⟨_, by decide, of_en_1 o s0 n1⟩
      · exact ⟨_, by decide, of_en_2 o s0 n1⟩
    · exact ⟨_, by decide, of_en_1p5 o s0⟩
  by_cases e2 : g = [100, 101]
  · subst e2
    by_cases s0 : sc = 0
    · by_cases n1 : N = [49]
      · exact ⟨_, by decide, of_de_1 o s0 n1⟩
      · exact ⟨_, by decide, of_de_2 o s0 n1⟩
    · exact ⟨_, by decide, of_de_1p5 o s0⟩
  by_cases e3 : g = [110, 108]
  · subst e3
    by_cases s0 : sc = 0
    · by_cases n1 : N = [49]
      · exact ⟨_, by decide, of_nl_1 o s0 n1⟩
      · exact ⟨_, by decide, of_nl_2 o s0 n1⟩
    · exact ⟨_, by decide, of_nl_1p5 o s0⟩
  by_cases e4 : g = [115, 118]
  · subst e4
    by_cases s0 : sc = 0
    · by_cases n1 : N = [49]
      · exact ⟨_, by decide, of_sv_1 o s0 n1⟩
      · exact ⟨_, by decide, of_sv_2 o s0 n1⟩
    · exact ⟨_, by decide, of_sv_1p5 o s0⟩
  by_cases e5 : g = [102, 114]
  · subst e5
    by_cases n0 : N = []
    · exact ⟨_, by decide, of_fr_0 o n0⟩
    · by_cases n1 : N = [49]
      · exact ⟨_, by decide, of_fr_1 o n1⟩
      · exact ⟨_, by decide, of_fr_2 o n0 n1⟩
  by_cases e6 : g = [101, 115]
  · subst e6
    by_cases q0 : Q = []
    · by_cases n1 : N = [49]
      · exact ⟨_, by decide, of_es_1 o q0 n1⟩
      · exact ⟨_, by decide, of_es_2 o q0 n1⟩
    · exact ⟨_, by decide, of_es_1p5 o q0⟩
  by_cases e7 : g = [112, 108]
  · subst e7
    by_cases s0 : sc = 0
    · by_cases n1 : N = [49]
      · exact ⟨_, by decide, of_pl_1 o s0 n1⟩
      · by_cases a0 : a < 2
        · exact ⟨_, by decide, of_pl_10 o s0 n1 a0⟩
        · by_cases a1 : 4 < a
          · exact ⟨_, by decide, of_pl_5 o s0 n1 a1⟩
          · by_cases b0 : b < 12
            · exact ⟨_, by decide, of_pl_2 o s0 n1 (by omega) (by omega) b0⟩
            · by_cases b1 : b ≤ 14
              · exact ⟨_, by decide, of_pl_12 o s0 n1 (by omega) (by omega) (by omega) b1⟩
              · exact ⟨_, by decide, of_pl_22 o s0 n1 (by omega) (by omega) (by omega)⟩
    · exact ⟨_, by decide, of_pl_1p5 o s0⟩
  by_cases e8 : g = [114, 117]
  · subst e8
    by_cases s0 : sc = 0
    · by_cases a2 : a = 1
      · by_cases b0 : b = 11
        · exact ⟨_, by decide, of_ru_11 o s0 a2 b0⟩
        · exact ⟨_, by decide, of_ru_1 o s0 a2 b0⟩
      · by_cases a0 : a < 2
        · exact ⟨_, by decide, of_ru_0 o s0 a2 a0⟩
        · by_cases a1 : 4 < a
          · exact ⟨_, by decide, of_ru_5 o s0 a1⟩
          · by_cases b0 : b < 12
            · exact ⟨_, by decide, of_ru_2 o s0 (by omega) (by omega) b0⟩
            · by_cases b1 : b ≤ 14
              · exact ⟨_, by decide, of_ru_12 o s0 (by omega) (by omega) (by omega) b1⟩
              · exact ⟨_, by decide, of_ru_22 o s0 (by omega) (by omega) (by omega)⟩
    · exact ⟨_, by decide, of_ru_1p5 o s0⟩
  by_cases e9 : g = [99, 115]
  · subst e9
    by_cases s0 : sc = 0
    · by_cases n1 : N = [49]
      · exact ⟨_, by decide, of_cs_1 o s0 n1⟩
      · by_cases nl : N.length = 1
        · have := ho n1 nl
          by_cases a1 : 4 < a
          · exact ⟨_, by decide, of_cs_5 o s0 n1 nl a1⟩
          · exact ⟨_, by decide, of_cs_2 o s0 n1 nl (by omega) (by omega)⟩
        · exact ⟨_, by decide, of_cs_10 o s0 n1 nl⟩
    · exact ⟨_, by decide, of_cs_1p5 o s0⟩
  by_cases e10 : g = [97, 114]
  · subst e10
    by_cases q0 : Q = []
    · by_cases n0 : N = []
      · exact ⟨_, by decide, of_ar_0 o q0 n0⟩
      · by_cases n1 : N = [49]
        · exact ⟨_, by decide, of_ar_1 o q0 n1⟩
        · by_cases n2 : N = [50]
          · exact ⟨_, by decide, of_ar_2 o q0 n2⟩
          · by_cases b0 : b < 3
            · exact ⟨_, by decide, of_ar_101 o q0 n0 n1 n2 b0⟩
            · by_cases b1 : b ≤ 10
              · exact ⟨_, by decide, of_ar_3 o q0 n0 n1 n2 (by omega) b1⟩
              · exact ⟨_, by decide, of_ar_11 o q0 n0 n1 n2 (by omega) hb⟩
    · exact ⟨_, by decide, of_ar_1p5 o q0⟩
  exact ⟨_, by decide, of_xx_1 (W := []) (P := []) (N := []) (Q := []) (a := 0) (b := 0) e1 e2 e3 e4 e5 e6 e7 e8 e9 e10⟩
end Go.Proofs.YtkmbkejmfffafaaGreatDoor.Refl
section
namespace Go.Proofs.YtkmbkejmfffafaaGreatDoor.PRgt
open Go.RowKit Go.Proofs.YtkmbkejmfffafaaGreatDoorW.PrintWords Go.Proofs.YtkmbkejmfffafaaGreatDoorW.PrintLast Go.Proofs.YtkmbkejmfffafaaGreatDoorW.PrintMore
attribute [local go_sem] max2_int min2_int max_two min_two max_three min_three max_four min_four   -- for this text's walks alone
set_option linter.unusedVariables false
set_option linter.unusedSimpArgs false
def errW : Option Int → Value
  | none => .nilIface
  | some c => .iface 0 (.int .i64 c)
theorem errW_none : errW none = .nilIface := rfl
theorem errW_some (c : Int) : errW (some c) = .iface 0 (.int .i64 c) := rfl
end Go.Proofs.YtkmbkejmfffafaaGreatDoor.PRgt
end
section
namespace Go.Proofs.YtkmbkejmfffafaaGreatDoor.PRgt
open Go.RowKit Go.Proofs.YtkmbkejmfffafaaGreatDoorW.PrintWords Go.Proofs.YtkmbkejmfffafaaGreatDoorW.PrintLast Go.Proofs.YtkmbkejmfffafaaGreatDoorW.PrintMore
attribute [local go_sem] max2_int min2_int max_two min_two max_three min_three max_four min_four   -- for this text's walks alone
set_option linter.unusedVariables false
set_option linter.unusedSimpArgs false
def polyglotlaw02_digit.f (a0 : Int) : Option (Bool) := if a0 ≥ 48 then (some (decide (a0 ≤ 57))) else (some false)
set_option maxHeartbeats 8000000 in
set_option maxRecDepth 100000 in
theorem polyglotlaw02_digit.calls (a0 : Int) (r : Bool) (w : World) (h : polyglotlaw02_digit.f a0 = some r) :
    Calls Tryz.prog 45 #[.int .u8 a0] w fun e w' => e = .returned (.bool r) ∧ Drawn0 w w' := by
  have H : (if a0 ≥ 48 then (some (decide (a0 ≤ 57))) else (some false)) = some r := h
  clear h
  by_cases c2 : a0 ≥ 48
  · rw [if_pos c2] at H
    have c2b0 : decide (48 ≤ a0) = true := decide_eq_true c2
    clear c2
    obtain rfl := Option.some.inj H
    go_enter Tryz.func45, Tryz.ntmps45
    go_wp2
    go_ret
    exact ⟨by first | rfl | (simp; done) | (simp [*]; done), by repeat (first | exact Drawn0.refl _ | apply Drawn0.step)⟩
  · rw [if_neg c2] at H
    have c2b0 : decide (48 ≤ a0) = false := decide_eq_false c2
    clear c2
    obtain rfl := Option.some.inj H
    go_enter Tryz.func45, Tryz.ntmps45
    go_wp2
    go_ret
    exact ⟨by first | rfl | (simp; done) | (simp [*]; done), by repeat (first | exact Drawn0.refl _ | apply Drawn0.step)⟩
mutual
def polyglotlaw02_Right.j0 : Nat → Bool → Bool → ByteArray → Int → Option (Bool)
  | 0, _, _, _, _ => none
  | k + 1, x20, x104000, x104001, x104002 => if x20 = true then (some false) else (polyglotlaw02_Right.l0 k 0 x104000 x104001 x104002)
def polyglotlaw02_Right.l0 : Nat → Int → Bool → ByteArray → Int → Option (Bool)
  | 0, _, _, _, _ => none
  | k + 1, x3, x104000, x104001, x104002 => if x3 < (x104001.size : Int) then (if 0 ≤ x3 then ((polyglotlaw02_digit.f (bt x104001 x3)).bind fun t104 => (if t104 = true then (polyglotlaw02_Right.l0 k (wrap64 (x3 + 1)) x104000 x104001 x104002) else (some false))) else (none)) else (if 0 < (x104001.size : Int) then (if (bt x104001 0) = 48 then (some ((x104001.size : Int) == (wrap64 (x104002 + 1)))) else (some true)) else (none))
end
def polyglotlaw02_Right.f (k : Nat) (a0_0 : Bool) (a0_1 : ByteArray) (a0_2 : Int) : Option (Bool) := if a0_2 < 0 then (polyglotlaw02_Right.j0 k true a0_0 a0_1 a0_2) else (if a0_2 ≥ (a0_1.size : Int) then (polyglotlaw02_Right.j0 k true a0_0 a0_1 a0_2) else (polyglotlaw02_Right.j0 k (decide ((a0_1.size : Int) > 60)) a0_0 a0_1 a0_2))
theorem polyglotlaw02_Right.mono_l : ∀ k, (∀ y0 y1 y2 y3, LeO (polyglotlaw02_Right.j0 k y0 y1 y2 y3) (polyglotlaw02_Right.j0 (k + 1) y0 y1 y2 y3)) ∧ (∀ y0 y1 y2 y3, LeO (polyglotlaw02_Right.l0 k y0 y1 y2 y3) (polyglotlaw02_Right.l0 (k + 1) y0 y1 y2 y3))
  | 0 => ⟨fun _ _ _ _ r h => by simp [polyglotlaw02_Right.j0] at h, fun _ _ _ _ r h => by simp [polyglotlaw02_Right.l0] at h⟩
  | k + 1 => by
    obtain ⟨ih0, ih1⟩ := polyglotlaw02_Right.mono_l k
    refine ⟨?_, ?_⟩
    · intro y0 y1 y2 y3
      unfold polyglotlaw02_Right.j0
      repeat' first
      | (with_reducible exact ih0 _ _ _ _)
      | (with_reducible exact ih1 _ _ _ _)
      | (with_reducible exact LeO.refl _)
      | (with_reducible exact LeO.none _)
      | (with_reducible refine LeO.ite ?_ ?_)
      | (with_reducible refine LeO.bind ?_ (fun _ => ?_))
      | exact ih0 _ _ _ _
      | exact ih1 _ _ _ _
      | exact LeO.none _
      | refine LeO.ite ?_ ?_
      | refine LeO.bind ?_ (fun _ => ?_)
    · intro y0 y1 y2 y3
      unfold polyglotlaw02_Right.l0
      repeat' first
      | (with_reducible exact ih0 _ _ _ _)
      | (with_reducible exact ih1 _ _ _ _)
      | (with_reducible exact LeO.refl _)
      | (with_reducible exact LeO.none _)
      | (with_reducible refine LeO.ite ?_ ?_)
      | (with_reducible refine LeO.bind ?_ (fun _ => ?_))
      | exact ih0 _ _ _ _
      | exact ih1 _ _ _ _
      | exact LeO.none _
      | refine LeO.ite ?_ ?_
      | refine LeO.bind ?_ (fun _ => ?_)
theorem polyglotlaw02_Right.mono : ∀ a0 a1 a2 k, LeO (polyglotlaw02_Right.f k a0 a1 a2) (polyglotlaw02_Right.f (k + 1) a0 a1 a2) := by
  intro a0 a1 a2 k
  obtain ⟨ih0, ih1⟩ := polyglotlaw02_Right.mono_l k
  unfold polyglotlaw02_Right.f
  repeat' first
      | (with_reducible exact ih0 _ _ _ _)
      | (with_reducible exact ih1 _ _ _ _)
      | (with_reducible exact LeO.refl _)
      | (with_reducible exact LeO.none _)
      | (with_reducible refine LeO.ite ?_ ?_)
      | (with_reducible refine LeO.bind ?_ (fun _ => ?_))
      | exact ih0 _ _ _ _
      | exact ih1 _ _ _ _
      | exact LeO.none _
      | refine LeO.ite ?_ ?_
      | refine LeO.bind ?_ (fun _ => ?_)
set_option maxHeartbeats 8000000 in
set_option maxRecDepth 100000 in
theorem polyglotlaw02_Right.calls (k : Nat) (a0_0 : Bool) (a0_1 : ByteArray) (a0_2 : Int) (r : Bool) (w : World) (h : polyglotlaw02_Right.f k a0_0 a0_1 a0_2 = some r) :
    Calls Tryz.prog 17 #[.agg #[.bool a0_0, .string a0_1, .int .i64 a0_2]] w fun e w' => e = .returned (.bool r) ∧ Below w.heap.size w w' := by
  have hu58 := Tryz.underlying58
  have HB := Aside0.mk (Below.refl w.heap.size w)
  have H : (if a0_2 < 0 then (polyglotlaw02_Right.j0 k true a0_0 a0_1 a0_2) else (if a0_2 ≥ (a0_1.size : Int) then (polyglotlaw02_Right.j0 k true a0_0 a0_1 a0_2) else (polyglotlaw02_Right.j0 k (decide ((a0_1.size : Int) > 60)) a0_0 a0_1 a0_2))) = some r := h
  clear h
  have HC2 := Aside0.mk H
  clear H
  go_enter Tryz.func17, Tryz.ntmps17
  go_upto_region 1 with (first | ((with_reducible refine gate_dst (N := 1) rfl ?_); (try (refine gate_guard (by rfl) ?_; dsimp only)); refine box_event ?hg (N := 1) ?hd (cs := #[.bool a0_0, .string a0_1, .int .i64 a0_2]) (t := 58) ?hr ?_; (case hd => rfl); (case hg => rfl); (case hr => first | (go_simp; done) | (go_simp; rfl)); intro gb103 hg w3 hbox hb; have n0_ := Aside0.mk (below_step (by repeat (first | (with_reducible first | exact HB.out | apply below_alloc | apply pw_below_drewN | apply below_drew1) | exact HB.out)) hb); have n1_ := Aside0.mk (hbox); have n2_ := Aside0.mk ((by rw [hg]; exact (below_size (by repeat (first | (with_reducible first | exact HB.out | apply below_alloc | apply pw_below_drewN | apply below_drew1) | exact HB.out))) : w.heap.size ≤ gb103)); have n3_ := Aside0.mk ((by rw [hg]; exact (below_size (by repeat (first | (with_reducible first | exact HB.out | apply below_alloc | apply pw_below_drewN | apply below_drew1) | exact HB.out))) : w.heap.size ≤ gb103)); clear HB; have HB := n0_; have BK103 := n1_; have GW103 := n2_; have GE103 := n3_; clear n0_ n1_ n2_ n3_; clear hb hbox hg))
  (try simp only [Act.put, List.setIfInBounds_toArray, List.set_cons_zero, List.set_cons_succ])
  go_cut [20] (fun v20 wc => ∃ (kq : Nat) (x20_1 : Bool), v20 = .bool x20_1 ∧ Aside0 (polyglotlaw02_Right.j0 kq x20_1 a0_0 a0_1 a0_2 = some r) ∧ Aside0 (kq ≤ k) ∧ Aside0 (wc.heap[gb103]? = some (.cells #[.bool a0_0, .string a0_1, .int .i64 a0_2] 58 (0, 0))) ∧ Aside0 (Below w.heap.size w wc))
  case first =>
    have H := HC2.out
    clear HC2
    by_cases c4 : a0_2 < 0
    · rw [if_pos c4] at H
      have c4b0 : decide (a0_2 < 0) = true := decide_eq_true c4
      clear c4
      (first | rw [c4b0] | (simp only [i64_w, i32_w]; rw [c4b0]) | skip)
      have H' := Aside0.mk H
      clear H
      have hcz5_0 : w3.cell? ⟨gb103, 0, none⟩ = some (.bool a0_0) := (blk_cell BK103.out 0).trans rfl
      have hcz5_1 : w3.cell? ⟨gb103, 1, none⟩ = some (.string a0_1) := (blk_cell BK103.out 1).trans rfl
      have hcz5_2 : w3.cell? ⟨gb103, 2, none⟩ = some (.int .i64 a0_2) := (blk_cell BK103.out 2).trans rfl
      have hfz5_0 := blk_frozen BK103.out 0
      have hfz5_1 := blk_frozen BK103.out 1
      have hfz5_2 := blk_frozen BK103.out 2
      go_wp2
      go_meet
      case rel => exact ⟨_, (true), (by first | rfl | (simp; done) | (simp [*]; done)), H', ⟨by first | omega | exact Nat.le_refl _⟩, ⟨by (with_reducible repeat (first | refine blk_drewN ?_ _ | refine blk_drew ?_ | refine blk_alloc ?_ _)); exact BK103.out⟩, ⟨by repeat (first | (with_reducible first | exact HB.out | apply below_alloc | apply pw_below_drewN | apply below_drew1 | refine below_set ?_ GE103.out) | exact HB.out)⟩⟩
    · rw [if_neg c4] at H
      have c4b0 : decide (a0_2 < 0) = false := decide_eq_false c4
      clear c4
      (first | rw [c4b0] | (simp only [i64_w, i32_w]; rw [c4b0]) | skip)
      by_cases c6 : a0_2 ≥ (a0_1.size : Int)
      · rw [if_pos c6] at H
        have c6b0 : decide ((a0_1.size : Int) ≤ a0_2) = true := decide_eq_true c6
        clear c6
        have H' := Aside0.mk H
        clear H
        have hcz7_0 : w3.cell? ⟨gb103, 0, none⟩ = some (.bool a0_0) := (blk_cell BK103.out 0).trans rfl
        have hcz7_1 : w3.cell? ⟨gb103, 1, none⟩ = some (.string a0_1) := (blk_cell BK103.out 1).trans rfl
        have hcz7_2 : w3.cell? ⟨gb103, 2, none⟩ = some (.int .i64 a0_2) := (blk_cell BK103.out 2).trans rfl
        have hfz7_0 := blk_frozen BK103.out 0
        have hfz7_1 := blk_frozen BK103.out 1
        have hfz7_2 := blk_frozen BK103.out 2
        go_wp2
        go_meet
        case rel => exact ⟨_, (true), (by first | rfl | (simp; done) | (simp [*]; done)), H', ⟨by first | omega | exact Nat.le_refl _⟩, ⟨by (with_reducible repeat (first | refine blk_drewN ?_ _ | refine blk_drew ?_ | refine blk_alloc ?_ _)); exact BK103.out⟩, ⟨by repeat (first | (with_reducible first | exact HB.out | apply below_alloc | apply pw_below_drewN | apply below_drew1 | refine below_set ?_ GE103.out) | exact HB.out)⟩⟩
      · rw [if_neg c6] at H
        have c6b0 : decide ((a0_1.size : Int) ≤ a0_2) = false := decide_eq_false c6
        clear c6
        have H' := Aside0.mk H
        clear H
        have hcz8_0 : w3.cell? ⟨gb103, 0, none⟩ = some (.bool a0_0) := (blk_cell BK103.out 0).trans rfl
        have hcz8_1 : w3.cell? ⟨gb103, 1, none⟩ = some (.string a0_1) := (blk_cell BK103.out 1).trans rfl
        have hcz8_2 : w3.cell? ⟨gb103, 2, none⟩ = some (.int .i64 a0_2) := (blk_cell BK103.out 2).trans rfl
        have hfz8_0 := blk_frozen BK103.out 0
        have hfz8_1 := blk_frozen BK103.out 1
        have hfz8_2 := blk_frozen BK103.out 2
        go_wp2
        go_meet
        case rel => exact ⟨_, (decide ((a0_1.size : Int) > 60)), (by first | rfl | (simp; done) | (simp [*]; done)), H', ⟨by first | omega | exact Nat.le_refl _⟩, ⟨by (with_reducible repeat (first | refine blk_drewN ?_ _ | refine blk_drew ?_ | refine blk_alloc ?_ _)); exact BK103.out⟩, ⟨by repeat (first | (with_reducible first | exact HB.out | apply below_alloc | apply pw_below_drewN | apply below_drew1 | refine below_set ?_ GE103.out) | exact HB.out)⟩⟩
  case rest =>
    clear HC2
    try clear c1
    try clear p2
    try clear c4
    try clear c4b0
    try clear c6
    try clear c6b0
    try clear hcz5_0
    try clear hcz5_1
    try clear hcz5_2
    try clear hcz7_0
    try clear hcz7_1
    try clear hcz7_2
    try clear hcz8_0
    try clear hcz8_1
    try clear hcz8_2
    try clear hfz5_0
    try clear hfz5_1
    try clear hfz5_2
    try clear hfz7_0
    try clear hfz7_1
    try clear hfz7_2
    try clear hfz8_0
    try clear hfz8_1
    try clear hfz8_2
    obtain ⟨kq, x20_1, rfl, HA, HJ1, BK103, HB⟩ := hcut
    cases kq with
    | zero => exact absurd HA.out (by simp [polyglotlaw02_Right.j0])
    | succ kj1 =>
      have H := HA.out
      clear HA
      simp only [polyglotlaw02_Right.j0] at H
      by_cases c9 : x20_1 = true
      · subst c9
        have H1 : (some false) = some r := by rw [if_pos rfl] at H; exact H
        clear H
        have H := H1
        clear H1
        obtain rfl := Option.some.inj H
        go_wp2
        go_ret
        exact ⟨by first | rfl | (simp [errW_none, errW_some] <;> rfl) | (simp [*, errW_none, errW_some] <;> rfl), by repeat (first | (with_reducible first | exact HB.out | apply below_alloc | apply pw_below_drewN | apply below_drew1 | refine below_set ?_ GE103.out) | exact HB.out)⟩
      · replace c9 := Bool.eq_false_iff.mpr c9
        subst c9
        have H1 : (polyglotlaw02_Right.l0 kj1 0 a0_0 a0_1 a0_2) = some r := by rw [if_neg (show ¬ (false = true) by decide)] at H; exact H
        clear H
        have H := H1
        clear H1
        have H' := Aside0.mk H
        clear H
        go_wp2
        go_loopg [3] kj1 (fun kq v3 w' => ∃ (x3_l2 : Int), v3 = .int .i64 x3_l2 ∧ Aside0 (polyglotlaw02_Right.l0 kq x3_l2 a0_0 a0_1 a0_2 = some r) ∧ Aside0 (kq ≤ kj1) ∧ Aside0 (w'.heap[gb103]? = some (.cells #[.bool a0_0, .string a0_1, .int .i64 a0_2] 58 (0, 0))) ∧ Aside0 (Below w.heap.size w w'))
        case atStart => exact ⟨(0), (by first | rfl | (simp; done) | (simp [*]; done)), H', ⟨Nat.le_refl _⟩, ⟨by (with_reducible repeat (first | refine blk_drewN ?_ _ | refine blk_drew ?_ | refine blk_alloc ?_ _)); exact BK103.out⟩, ⟨by repeat (first | (with_reducible first | exact HB.out | apply below_alloc | apply pw_below_drewN | apply below_drew1 | refine below_set ?_ GE103.out) | exact HB.out)⟩⟩
        case round =>
          clear H'
          try clear c1
          try clear p2
          try clear c4
          try clear c4b0
          try clear c6
          try clear c6b0
          try clear c9
          try clear hcz5_0
          try clear hcz5_1
          try clear hcz5_2
          try clear hcz7_0
          try clear hcz7_1
          try clear hcz7_2
          try clear hcz8_0
          try clear hcz8_1
          try clear hcz8_2
          try clear hfz5_0
          try clear hfz5_1
          try clear hfz5_2
          try clear hfz7_0
          try clear hfz7_1
          try clear hfz7_2
          try clear hfz8_0
          try clear hfz8_1
          try clear hfz8_2
          try clear p2
          obtain ⟨x3_l2, rfl, HA, HK2, BK103, HB⟩ := hrel
          cases gk with
          | zero => exact absurd HA.out (by simp [polyglotlaw02_Right.l0])
          | succ k2 =>
            have H := HA.out
            clear HA
            simp only [polyglotlaw02_Right.l0] at H
            by_cases c10 : x3_l2 < (a0_1.size : Int)
            · rw [if_pos c10] at H
              have c10b0 : decide (x3_l2 < (a0_1.size : Int)) = true := decide_eq_true c10
              clear c10
              by_cases c11 : 0 ≤ x3_l2
              · rw [if_pos c11] at H
                have c11b0 : decide (0 ≤ x3_l2) = true := decide_eq_true c11
                clear c11
                replace H := Option.bind_eq_some_iff.mp H
                obtain ⟨t104, A130, H⟩ := H
                replace H : (if t104 = true then (polyglotlaw02_Right.l0 k2 (wrap64 (x3_l2 + 1)) a0_0 a0_1 a0_2) else (some false)) = some r := H
                have A13 := Aside0.mk A130
                clear A130
                by_cases c14 : t104 = true
                · subst c14
                  have H1 : (polyglotlaw02_Right.l0 k2 (wrap64 (x3_l2 + 1)) a0_0 a0_1 a0_2) = some r := by rw [if_pos rfl] at H; exact H
                  clear H
                  have H := H1
                  clear H1
                  have H' := Aside0.mk H
                  clear H
                  have hcz15_0 : wr.cell? ⟨gb103, 0, none⟩ = some (.bool a0_0) := (blk_cell BK103.out 0).trans rfl
                  have hcz15_1 : wr.cell? ⟨gb103, 1, none⟩ = some (.string a0_1) := (blk_cell BK103.out 1).trans rfl
                  have hcz15_2 : wr.cell? ⟨gb103, 2, none⟩ = some (.int .i64 a0_2) := (blk_cell BK103.out 2).trans rfl
                  have hfz15_0 := blk_frozen BK103.out 0
                  have hfz15_1 := blk_frozen BK103.out 1
                  have hfz15_2 := blk_frozen BK103.out 2
                  have p12 : 0 ≤ (x3_l2 : Int) := of_decide_eq_true (by first | (with_reducible assumption) | assumption)
                  have q12 : x3_l2 < (a0_1.size : Int) := of_decide_eq_true (by first | (with_reducible assumption) | assumption)
                  have hx12 := bt_at a0_1 x3_l2
                  replace p12 := eq_true p12
                  replace q12 := eq_true q12
                  go_wp2_with (first | ((with_reducible refine gate_callee (f := 45) rfl ?_); refine goesL_ (some 32) rfl rfl Tryz.func45 (by kernel_rfl) rfl #[.int .u8 (bt a0_1 x3_l2)] rfl (by (try simp only [List.map_toArray, List.map_cons, List.map_nil]); first | done | rfl | (simp only [List.length_drop, List.length_take]; rfl)) ?_; (with_reducible refine (polyglotlaw02_digit.calls (bt a0_1 x3_l2) true _ A13.out).mono ?_); rintro e w' ⟨rfl, ⟨nd, rfl⟩⟩; refine ⟨_, rfl, ?_⟩))
                  go_roundg k2
                  case measure => have := HJ1.out; have := HK2.out; omega
                  case rel => exact ⟨(wrap64 (x3_l2 + 1)), (by first | rfl | (simp; done) | (simp [*]; done)), H', ⟨by have := HJ1.out; have := HK2.out; omega⟩, ⟨by (with_reducible repeat (first | refine blk_drewN ?_ _ | refine blk_drew ?_ | refine blk_alloc ?_ _)); exact BK103.out⟩, ⟨by repeat (first | (with_reducible first | exact HB.out | apply below_alloc | apply pw_below_drewN | apply below_drew1 | refine below_set ?_ GE103.out) | exact HB.out)⟩⟩
                · replace c14 := Bool.eq_false_iff.mpr c14
                  subst c14
                  have H1 : (some false) = some r := by rw [if_neg (show ¬ (false = true) by decide)] at H; exact H
                  clear H
                  have H := H1
                  clear H1
                  obtain rfl := Option.some.inj H
                  have hcz16_0 : wr.cell? ⟨gb103, 0, none⟩ = some (.bool a0_0) := (blk_cell BK103.out 0).trans rfl
                  have hcz16_1 : wr.cell? ⟨gb103, 1, none⟩ = some (.string a0_1) := (blk_cell BK103.out 1).trans rfl
                  have hcz16_2 : wr.cell? ⟨gb103, 2, none⟩ = some (.int .i64 a0_2) := (blk_cell BK103.out 2).trans rfl
                  have hfz16_0 := blk_frozen BK103.out 0
                  have hfz16_1 := blk_frozen BK103.out 1
                  have hfz16_2 := blk_frozen BK103.out 2
                  have p12 : 0 ≤ (x3_l2 : Int) := of_decide_eq_true (by first | (with_reducible assumption) | assumption)
                  have q12 : x3_l2 < (a0_1.size : Int) := of_decide_eq_true (by first | (with_reducible assumption) | assumption)
                  have hx12 := bt_at a0_1 x3_l2
                  replace p12 := eq_true p12
                  replace q12 := eq_true q12
                  go_wp2_with (first | ((with_reducible refine gate_callee (f := 45) rfl ?_); refine goesL_ (some 32) rfl rfl Tryz.func45 (by kernel_rfl) rfl #[.int .u8 (bt a0_1 x3_l2)] rfl (by (try simp only [List.map_toArray, List.map_cons, List.map_nil]); first | done | rfl | (simp only [List.length_drop, List.length_take]; rfl)) ?_; (with_reducible refine (polyglotlaw02_digit.calls (bt a0_1 x3_l2) false _ A13.out).mono ?_); rintro e w' ⟨rfl, ⟨nd, rfl⟩⟩; refine ⟨_, rfl, ?_⟩))
                  go_ret
                  exact ⟨by first | rfl | (simp [errW_none, errW_some] <;> rfl) | (simp [*, errW_none, errW_some] <;> rfl), by repeat (first | (with_reducible first | exact HB.out | apply below_alloc | apply pw_below_drewN | apply below_drew1 | refine below_set ?_ GE103.out) | exact HB.out)⟩
              · rw [if_neg c11] at H
                exact absurd H (by simp)
            · rw [if_neg c10] at H
              have c10b0 : decide (x3_l2 < (a0_1.size : Int)) = false := decide_eq_false c10
              clear c10
              by_cases c17 : 0 < (a0_1.size : Int)
              · rw [if_pos c17] at H
                have c17b0 : decide (0 < (a0_1.size : Int)) = true := decide_eq_true c17
                have c17b1 : decide (0 < a0_1.size) = true := decide_eq_true (by omega)
                clear c17
                by_cases c19 : (bt a0_1 0) = 48
                · rw [if_pos c19] at H
                  have c19b0 : ((bt a0_1 0) == 48) = true := beq_iff_eq.mpr c19
                  have c19b1 : ((bt a0_1 0) != 48) = false := bne_eq_false_iff_eq.mpr c19
                  clear c19
                  obtain rfl := Option.some.inj H
                  have hcz20_0 : wr.cell? ⟨gb103, 0, none⟩ = some (.bool a0_0) := (blk_cell BK103.out 0).trans rfl
                  have hcz20_1 : wr.cell? ⟨gb103, 1, none⟩ = some (.string a0_1) := (blk_cell BK103.out 1).trans rfl
                  have hcz20_2 : wr.cell? ⟨gb103, 2, none⟩ = some (.int .i64 a0_2) := (blk_cell BK103.out 2).trans rfl
                  have hfz20_0 := blk_frozen BK103.out 0
                  have hfz20_1 := blk_frozen BK103.out 1
                  have hfz20_2 := blk_frozen BK103.out 2
                  have p18 : 0 ≤ (0 : Int) := (by omega)
                  have q18 : 0 < a0_1.size := (by have : (0 : Int) < (a0_1.size : Int) := of_decide_eq_true (by first | (with_reducible assumption) | assumption); omega)
                  have hx18 : ∀ h : 0 < a0_1.size, ((a0_1[0]'h).toNat : Int) = bt a0_1 0 := bt_at a0_1 0
                  clear p18
                  have qi18 : (0 < (a0_1.size : Int)) = True := eq_true (of_decide_eq_true (by first | (with_reducible assumption) | assumption))
                  replace q18 := eq_true q18
                  go_wp2
                  go_ret
                  exact ⟨by first | rfl | (simp [errW_none, errW_some] <;> rfl) | (simp [*, errW_none, errW_some] <;> rfl), by repeat (first | (with_reducible first | exact HB.out | apply below_alloc | apply pw_below_drewN | apply below_drew1 | refine below_set ?_ GE103.out) | exact HB.out)⟩
                · rw [if_neg c19] at H
                  have c19b0 : ((bt a0_1 0) == 48) = false := beq_eq_false_iff_ne.mpr c19
                  have c19b1 : ((bt a0_1 0) != 48) = true := bne_iff_ne.mpr c19
                  obtain rfl := Option.some.inj H
                  have hcz21_0 : wr.cell? ⟨gb103, 0, none⟩ = some (.bool a0_0) := (blk_cell BK103.out 0).trans rfl
                  have hcz21_1 : wr.cell? ⟨gb103, 1, none⟩ = some (.string a0_1) := (blk_cell BK103.out 1).trans rfl
                  have hcz21_2 : wr.cell? ⟨gb103, 2, none⟩ = some (.int .i64 a0_2) := (blk_cell BK103.out 2).trans rfl
                  have hfz21_0 := blk_frozen BK103.out 0
                  have hfz21_1 := blk_frozen BK103.out 1
                  have hfz21_2 := blk_frozen BK103.out 2
                  have p18 : 0 ≤ (0 : Int) := (by omega)
                  have q18 : 0 < a0_1.size := (by have : (0 : Int) < (a0_1.size : Int) := of_decide_eq_true (by first | (with_reducible assumption) | assumption); omega)
                  have hx18 : ∀ h : 0 < a0_1.size, ((a0_1[0]'h).toNat : Int) = bt a0_1 0 := bt_at a0_1 0
                  clear p18
                  have qi18 : (0 < (a0_1.size : Int)) = True := eq_true (of_decide_eq_true (by first | (with_reducible assumption) | assumption))
                  replace q18 := eq_true q18
                  go_wp2
                  go_ret
                  exact ⟨by first | rfl | (simp [errW_none, errW_some] <;> rfl) | (simp [*, errW_none, errW_some] <;> rfl), by repeat (first | (with_reducible first | exact HB.out | apply below_alloc | apply pw_below_drewN | apply below_drew1 | refine below_set ?_ GE103.out) | exact HB.out)⟩
              · rw [if_neg c17] at H
                exact absurd H (by simp)
end Go.Proofs.YtkmbkejmfffafaaGreatDoor.PRgt
end
namespace Go.Proofs.YtkmbkejmfffafaaGreatDoor.Refl
open Go Go.RowKit
set_option linter.unusedVariables false
set_option linter.unusedSimpArgs false
set_option maxRecDepth 1000000
theorem en17 : (Tryz.prog.funcs[17]?).map (fun fn => (fn.name == "runtime.NumGoroutine", fn.body.isSome)) = some (false, true) := by kernel_rfl
theorem LR_flat1 {ρ : Ren} {a : Value} {l : List Value} (ha : flat 5 a = true) (h : LR ρ [a] l) : l = [a] := by
  cases h with
  | cons h1 h2 => cases h2; rw [flat_eq 5 _ _ ha h1]
theorem right_pure (k : Nat) (neg : Bool) (D : List UInt8) (sc : Int) (r : Bool) (hf : PRgt.polyglotlaw02_Right.f k neg (bA D) sc = some r) : Pure false 17 [.agg ⟨[.bool neg, strV D, .int .i64 sc]⟩] (.bool r) := by
  intro h ρ w args' _ hg hr hl
  obtain rfl := LR_flat1 rfl hl
  unfold Ans
  rw [enter_of en17]
  show Calls Tryz.prog 17 #[.agg #[.bool neg, .string (bA D), .int .i64 sc]] w (Back _)
  refine (PRgt.polyglotlaw02_Right.calls k neg (bA D) sc r w hf).mono fun e w' he => ?_
  obtain ⟨rfl, hb⟩ := he
  exact ⟨rfl, Step.grown hr hb⟩
end Go.Proofs.YtkmbkejmfffafaaGreatDoor.Refl
namespace Go.Proofs.YtkmbkejmfffafaaGreatDoor.RightLaw
open Go Go.RowKit Go.Proofs.YtkmbkejmfffafaaGreatDoor.PRgt Go.Proofs.YtkmbkejmfffafaaGreatDoorW.PrintWords
open Go.Proofs.YtkmbkejmfffafaaGreatDoor.Refl (bA Digs RightD)
set_option linter.unusedVariables false
set_option linter.unusedSimpArgs false
set_option maxRecDepth 1000000
theorem bt_bA {D : List UInt8} {i : Nat} (h : i < D.length) : bt (bA D) (i : Int) = ((D[i]).toNat : Int) := by
  rw [← bt_at (bA D) i (by show i < D.length; exact h)]; rfl
theorem digit_f (c : Int) : polyglotlaw02_digit.f c = some (decide (48 ≤ c ∧ c ≤ 57)) := by
  unfold polyglotlaw02_digit.f
  by_cases h : c ≥ 48
  · rw [if_pos h]; have h : 48 ≤ c := h; simp [h]
  · rw [if_neg h]; have : ¬ 48 ≤ c := h; simp [this]
theorem wrap_succ {i : Nat} (h : i < 1000) : wrap64 ((i : Int) + 1) = ((i + 1 : Nat) : Int) := by
  unfold wrap64; omega
theorem l0_law (m : Nat) (neg : Bool) {D : List UInt8} (sc : Int) (hD : D.length ≤ 60) (h0 : 0 < D.length) : ∀ n i, D.length - i = n → i ≤ D.length → ∃ r, polyglotlaw02_Right.l0 (m + n + 1) (i : Int) neg (bA D) sc = some r ∧
    (r = true → (∀ j, i ≤ j → (hj : j < D.length) → 48 ≤ (D[j]).toNat ∧ (D[j]).toNat ≤ 57) ∧ ((D[0]).toNat = 48 → (D.length : Int) = wrap64 (sc + 1)))
  | 0, i, hn, hi => by
    have hsz : (bA D).size = D.length := rfl
    have e : i = D.length := by omega
    unfold polyglotlaw02_Right.l0
    rw [hsz, if_neg (by omega), if_pos (by omega)]
    have b0 : bt (bA D) 0 = ((D[0]).toNat : Int) := bt_bA (i := 0) h0
    rw [b0]
    by_cases h48 : ((D[0]).toNat : Int) = 48
    · rw [if_pos h48]
      refine ⟨_, rfl, fun hr => ⟨fun j h1 h2 => by omega, fun _ => by simpa using hr⟩⟩
    · rw [if_neg h48]
      exact ⟨_, rfl, fun _ => ⟨fun j h1 h2 => by omega, fun h => absurd (by omega) h48⟩⟩
  | n + 1, i, hn, hi => by
    have hsz : (bA D).size = D.length := rfl
    have hlt : i < D.length := by omega
    unfold polyglotlaw02_Right.l0
    rw [hsz, if_pos (by omega), if_pos (by omega), bt_bA hlt, digit_f]
    simp only [Option.bind_some]
    by_cases hd : 48 ≤ ((D[i]).toNat : Int) ∧ ((D[i]).toNat : Int) ≤ 57
    · rw [if_pos (by simpa using hd), wrap_succ (by omega)]
      obtain ⟨r, h1, h2⟩ := l0_law m neg sc hD h0 n (i + 1) (by omega) (by omega)
      refine ⟨r, (h1 : polyglotlaw02_Right.l0 (m + (n + 1)) _ _ _ _ = _), fun hr => ⟨fun j hj hj2 => ?_, (h2 hr).2⟩⟩
      by_cases e : j = i
      · subst e; omega
      · exact (h2 hr).1 j (by omega) hj2
    · rw [if_neg (by simpa using hd)]
      exact ⟨_, rfl, fun h => by cases h⟩
theorem right_law (neg : Bool) (D : List UInt8) (sc : Int) : ∃ r, polyglotlaw02_Right.f 100 neg (bA D) sc = some r ∧ (r = true → ∃ n : Nat, sc = n ∧ D.length ≤ 60 ∧ RightD D n) := by
  have hsz : (bA D).size = D.length := rfl
  unfold polyglotlaw02_Right.f
  by_cases h1 : sc < 0
  · rw [if_pos h1]; exact ⟨false, rfl, fun h => by cases h⟩
  rw [if_neg h1, hsz]
  by_cases h2 : sc ≥ (D.length : Int)
  · rw [if_pos h2]; exact ⟨false, rfl, fun h => by cases h⟩
  rw [if_neg h2]
  by_cases h3 : (D.length : Int) > 60
  · rw [decide_eq_true h3]; exact ⟨false, rfl, fun h => by cases h⟩
  rw [decide_eq_false h3]
  have hl : D.length ≤ 60 := by omega
  have h0 : 0 < D.length := by omega
  obtain ⟨r, e1, e2⟩ := l0_law (98 - D.length) neg sc hl h0 D.length 0 (by omega) (by omega)
  have hk : 98 - D.length + D.length + 1 = 99 := by omega
  rw [hk] at e1
  refine ⟨r, e1, fun hr => ?_⟩
  obtain ⟨d1, d2⟩ := e2 hr
  refine ⟨sc.toNat, by omega, hl, ⟨fun b hb => ?_, by omega, ?_⟩⟩
  · obtain ⟨j, hj, rfl⟩ := List.getElem_of_mem hb
    exact d1 j (by omega) hj
  · by_cases h48 : (D[0]).toNat = 48
    · refine .inl ?_
      have := d2 h48
      unfold wrap64 at this
      omega
    · refine .inr fun he => h48 ?_
      rw [List.head?_eq_getElem?, List.getElem?_eq_getElem h0] at he
      rw [Option.some.inj he]; rfl
end Go.Proofs.YtkmbkejmfffafaaGreatDoor.RightLaw
namespace Go.Proofs.YtkmbkejmfffafaaGreatDoor.Refl
open Go Go.RowKit
set_option linter.unusedVariables false
set_option linter.unusedSimpArgs false
set_option maxRecDepth 1000000
noncomputable def optA (sc : Nat) : Value := .agg ⟨[intV 1, intV sc, intV 3, .bool false, .bool false]⟩
noncomputable def obSh (D W : List UInt8) (sc : Nat) : List Bool :=
  [(Nat.add 1 (len W)).ble 9223372036854775807,
   bytesEq W (List.take (((len D).sub sc).sub 0) (List.drop 0 D)),
   ((len D).sub sc).ble (len D),
   beqB (Nat.beq 1 1) (sc.ble (len D)),
   ((len D).add sc).ble 9223372036854775807,
   beqB (Nat.beq 0 1) (iLt 0 (Int.ofNat (sc.sub sc))),
   beqB (Nat.beq 1 1) (sc.ble sc),
   (sc.add sc).ble 9223372036854775807,
   beqB (Nat.beq 0 1) (Nat.blt 40 sc),
   beqB (Nat.beq 0 1) (iLt (Int.ofNat sc) (Int.ofNat sc)),
   beqB (Nat.beq 0 1) (beqB (iLt (Int.ofNat sc) (Int.ofNat sc)) true),
   beqB (Nat.beq 0 1) (beqB (iLt (Int.ofNat sc) (Int.ofNat sc)) true),
   beqB (Nat.beq 0 1) (beqB (iLt (Int.ofNat sc) (Int.ofNat sc)) true),
   beqB (Nat.beq 0 1) (beqB (iLt (Int.ofNat sc) (Int.ofNat sc)) true),
   beqB (Nat.beq 0 1) (beqB (iLt (Int.ofNat sc) (Int.ofNat sc)) true),
   beqB (Nat.beq 0 1) (beqB (iLt (Int.ofNat sc) (Int.ofNat sc)) true),
   beqB (Nat.beq 0 1) (beqB (iLt (Int.ofNat sc) (Int.ofNat sc)) true),
   beqB (Nat.beq 0 1) (beqB (iLt (Int.ofNat sc) (Int.ofNat sc)) true),
   beqB (Nat.beq 1 1) !iLt (Int.ofNat 3) (Int.ofNat sc)]
theorem runSh1 (D W : List UInt8) (neg : Bool) (sc : Nat) : lookB (acall (envS [] (Tr.nil.set 17 W)) 200 53 [optA sc, decA neg D sc] (hN (bits [0,1,0,0,0,0,0,0,0,0,0,0,0,0,1,0,1,2,1,0] 0))) =
    some (decA neg D sc, [], allB (fun b => b) ([beqB (Nat.beq 0 1) (iLt 0 (Int.ofNat (Nat.sub 1 (len W)))), beqB (Nat.beq 1 1) ((len W).ble 1)] ++ obSh D W sc)) := by kernel_rfl
theorem runSh2 (D W : List UInt8) (neg : Bool) (sc : Nat) : lookB (acall (envS [] (Tr.nil.set 17 W)) 200 53 [optA sc, decA neg D sc] (hN (bits [0,1,0,0,0,0,0,0,0,0,0,0,0,0,1,0,1,2,0,0] 0))) =
    some (decA neg D sc, [], allB (fun b => b) ([beqB (Nat.beq 0 1) ((len W).ble 1)] ++ obSh D W sc)) := by kernel_rfl
theorem obSh_ok {D : List UInt8} {sc : Nat} (h : sc ≤ 3) (h1 : sc < D.length) (h2 : D.length ≤ 1000) : ∀ x ∈ obSh D (D.take (D.length - sc)) sc, x = true := by
  have q : bytesEq (D.take (D.length - sc)) (List.take (((len D).sub sc).sub 0) (List.drop 0 D)) = true := by
    rw [bytesEq_eq, len_eq]; exact decide_eq_true rfl
  intro x hx
  unfold obSh at hx
  simp only [List.mem_cons, List.not_mem_nil, or_false] at hx
  rcases hx with hx | hx | hx | hx | hx | hx | hx | hx | hx | hx | hx | hx | hx | hx | hx | hx | hx | hx | hx
  all_goals (subst hx; first | assumption | (simp [ble_eq, blt_eq, iLt_eq, beqB_eq, bq, len_eq]; done) | (simp [ble_eq, blt_eq, iLt_eq, beqB_eq, bq, len_eq]; omega))
theorem shape_pure (neg : Bool) {D : List UInt8} {sc : Nat} (h : sc ≤ 3) (h1 : sc < D.length) (h2 : D.length ≤ 1000) : Pure false 53 [optA sc, decA neg D sc] (decA neg D sc) := by
  have fin : ∀ {orc : List (Nat × Bool)} {ob : List Bool}, lookB (acall (envS [] (Tr.nil.set 17 (D.take (D.length - sc)))) 200 53 [optA sc, decA neg D sc] (hN orc)) = some (decA neg D sc, [], allB (fun b => b) ob) → (∀ x ∈ ob, x = true) → Pure false 53 [optA sc, decA neg D sc] (decA neg D sc) := by
    intro orc ob hr ho
    obtain ⟨h1, k1, k2, k3⟩ := lookB_some hr ((allB_eq _ _).2 ho)
    exact pure_of_run (envS_ok none_ok) k1 k3 k2 (fun v hv => by simp at hv; rcases hv with rfl | rfl <;> rfl) rfl
  have lW : (D.take (D.length - sc)).length = D.length - sc := by simp
  by_cases hl : D.length - sc = 1
  · refine fin (runSh1 D _ neg sc) (all_app (fun x hx => ?_) (obSh_ok h h1 h2))
    simp only [List.mem_cons, List.not_mem_nil, or_false] at hx
    rcases hx with hx | hx
    all_goals (subst hx; rw [len_eq, lW, hl]; rfl)
  · refine fin (runSh2 D _ neg sc) (all_app (fun x hx => ?_) (obSh_ok h h1 h2))
    simp only [List.mem_cons, List.not_mem_nil, or_false] at hx
    subst hx
    rw [len_eq, lW, ble_eq, decide_eq_false (by omega)]; rfl
end Go.Proofs.YtkmbkejmfffafaaGreatDoor.Refl
namespace Go.Proofs.YtkmbkejmfffafaaGreatDoor.Refl
open Go Go.RowKit
set_option linter.unusedVariables false
set_option linter.unusedSimpArgs false
set_option maxRecDepth 100000
structure Begins (W : World) : Prop where
  asc : ∃ cs fr, W.heap[0]? = some (.cells cs 166 fr) ∧ cs.toList = asc
  p10 : ∃ cs fr, W.heap[2]? = some (.cells cs 264 fr) ∧ cs.toList = p10
theorem p10_scalar : ∀ v ∈ p10, scalar v = true := (allB_eq _ _).1 (by rfl)
theorem asc_scalar : ∀ v ∈ asc, scalar v = true := (allB_eq _ _).1 (by kernel_rfl)
theorem vars_tail {x : String × DataW Unit} {l : List (String × DataW Unit)} {W : World} {ps : List MemPlace} (h : DataW.LaidVars Tryz.prog W (x :: l) ps) : ∃ q, DataW.LaidVars Tryz.prog W l q := by
  obtain ⟨g', t', cs, fuel, p, q, hg', ht', hvar, hd, hr, _⟩ := h
  exact ⟨q, hr⟩
theorem vars_head {name : String} {k : IntKind} {zs : List Int} {l : List (String × DataW Unit)} {W : World} {ps : List MemPlace} {g : Nat} {t e : TypeId} {n : Nat} (h : DataW.LaidVars Tryz.prog W ((name, Lib.tabData k zs) :: l) ps)
    (hg : Tryz.prog.globalNamed name = some g) (hty : (Tryz.prog.globals[g]?).map (·.type) = some t) (ht : Tryz.prog.underlying t = some (.array n e)) (he : Tryz.prog.underlying e = some (.int k)) (hce : Tryz.prog.cellsOf e = 1) (hct : Tryz.prog.cellsOf t = n) : Lib.TabIs Tryz.prog W name k zs := by
  obtain ⟨g', t', cs, fuel, p, q, hg', ht', hvar, hd, _, _⟩ := h
  obtain rfl := Option.some.inj (hg.symm.trans hg')
  obtain rfl := Option.some.inj (hty.symm.trans ht')
  unfold Lib.TabIs
  rw [hvar, ← Lib.cells_of_tab ht he hce hct hd]
theorem tab_block {W : World} {name : String} {k : IntKind} {zs : List Int} {g : Nat} {t : TypeId} {zero : Array Value} (hT : Lib.TabIs Tryz.prog W name k zs) (hg : Tryz.prog.globalNamed name = some g) (hsh : W.ShapedOpen Tryz.prog) (hlt : g < Tryz.prog.globals.size)
    (h0 : ((begin Tryz.prog (fun _ _ => 0) default).world.heap[g]?).bind Obj.row? = some (zero, t)) : ∃ cs fr, W.heap[g]? = some (.cells cs t fr) ∧ cs.toList = zs.map fun z => Value.int k z := by
  obtain ⟨cs, hh, _, _⟩ := hsh.1 g zero t hlt h0
  refine ⟨cs, _, hh, ?_⟩
  unfold Lib.TabIs World.var? at hT
  rw [hg] at hT
  simp only [Option.bind_some, hh, Option.some.injEq] at hT
  rw [hT]
end Go.Proofs.YtkmbkejmfffafaaGreatDoor.Refl
namespace Go.Proofs.YtkmbkejmfffafaaGreatDoor.Refl
open Go Go.RowKit
set_option linter.unusedVariables false
set_option linter.unusedSimpArgs false
set_option maxRecDepth 100000
structure BeginsM (W : World) (m : Int) : Prop extends Begins W where
  mx : ∃ cs fr, W.heap[4]? = some (.cells cs 3 fr) ∧ cs.toList = [Value.int .i64 m]
noncomputable def cellM (b : Nat) : Nat := if b = 0 then Tryz.prog.cellsOf 166 else if b = 4 then Tryz.prog.cellsOf 3 else Tryz.prog.cellsOf 264
noncomputable def ρM : Ren := fun b => match Nat.blt b 12 with
  | true => some ⟨b, 0, 0, cellM b⟩
  | false => none
theorem ρM_some {b : Nat} {im : Im} (h : ρM b = some im) : b < 12 ∧ im = ⟨b, 0, 0, cellM b⟩ := by
  unfold ρM at h
  rw [blt_eq] at h
  by_cases hb : b < 12
  · simp only [hb, decide_true, Option.some.injEq] at h; exact ⟨hb, h.symm⟩
  · simp [hb] at h
theorem hM_obj (m : Int) (orc : List (Nat × Bool)) (b : Nat) : (hM m orc).obj b = if b = 4 then .cells [.int .i64 m] 3 1 2 else if b = 2 then .cells p10 264 20 2 else if b = 0 then .cells Refl.asc 166 256 2 else .dead := by
  rw [AH.obj_def]
  show (if b < 12 then objIn (((Tr.nil.set 0 (.cells Refl.asc 166 256 2)).set 2 (.cells p10 264 20 2)).set 4 (.cells [.int .i64 m] 3 1 2)) b else .dead) = _
  rw [objIn_set, objIn_set, objIn_set]
  have : objIn (Tr.nil : Tr AObj) b = .dead := by unfold objIn; rw [Tr.get_nil]
  rw [this]
  by_cases h4 : b = 4
  · subst h4; simp
  · by_cases h2 : b = 2
    · subst h2; simp
    · by_cases h0 : b = 0
      · subst h0; simp
      · simp [h4, h2, h0]
theorem row_startM {W : World} {b e n : Nat} {l : List Value} (hc : cellM b = Tryz.prog.cellsOf e) (hl : ∀ v ∈ l, flat 5 v = true) (hn : l.length = n) (hs : ∀ v ∈ l, scalar v = true) (h : ∃ cs fr, W.heap[b]? = some (.cells cs e fr) ∧ cs.toList = l) :
    OR Tryz.prog.cellsOf ρM W ⟨b, 0, 0, cellM b⟩ (.cells l e n 2) := by
  obtain ⟨cs, ⟨lo, hi⟩, h1, h2⟩ := h
  have hsz : cs.size = n := by rw [← Array.length_toList, h2, hn]
  refine ⟨cs, lo, hi, h1, fun i v hv => ?_, ⟨fun j h3 h4 h5 => ?_, fun h => absurd rfl h⟩, Nat.zero_le _, hc, fun h => by cases h⟩
  · simp only [AObj.cell, nth_eq] at hv
    refine ⟨hs v (List.mem_of_getElem? hv), v, ?_, flat_VR _ 5 v (hl v (List.mem_of_getElem? hv))⟩
    rw [Nat.zero_add, ← Array.getElem?_toList, h2]; exact hv
  · show j < 0 + n
    omega
theorem rel_startM {W : World} {m : Int} (h : BeginsM W m) (orc : List (Nat × Bool)) : Rel Tryz.prog.cellsOf ρM (hM m orc) W where
  obj := fun b im hb hn => by
    obtain ⟨hb12, rfl⟩ := ρM_some hb
    rw [hM_obj]
    by_cases hb4 : b = 4
    · subst hb4
      rw [if_pos rfl]
      exact row_startM rfl (fun v hv => by simp at hv; subst hv; rfl) rfl (fun v hv => by simp at hv; subst hv; rfl) h.mx
    rw [if_neg hb4]
    by_cases hb2 : b = 2
    · subst hb2
      rw [if_pos rfl]
      exact row_startM rfl p10_flat p10_len p10_scalar h.p10
    · rw [if_neg hb2]
      by_cases hb0 : b = 0
      · subst hb0
        rw [if_pos rfl]
        exact row_startM rfl asc_flat asc_len asc_scalar h.asc
      · rw [show (if b = 0 then AObj.cells asc 166 256 2 else AObj.dead) = AObj.dead from if_neg hb0]; trivial
  inj := fun b b' im im' h1 h1' _ _ _ _ h6 => by
    obtain ⟨_, rfl⟩ := ρM_some h1
    obtain ⟨_, rfl⟩ := ρM_some h1'
    exact h6
  top := fun b hb => AH.obj_top _ hb
theorem gl_startM : GL 12 ρM := fun g hg => ⟨⟨g, 0, 0, cellM g⟩, by unfold ρM; rw [blt_eq]; simp [hg], rfl, rfl⟩
theorem fr_startM (m : Int) (orc : List (Nat × Bool)) (n : Nat) : Fr ρM (hM m orc).n n := fun x hx _ => by
  have hx : 12 ≤ x := hx
  unfold ρM
  rw [blt_eq]
  have : ¬ x < 12 := by omega
  simp [this]
theorem calls_startM {E : Env} (hE : EnvF Tryz.prog E 12) {m : Int} {n f : Nat} {args args' : List Value} {orc : List (Nat × Bool)} {h1 : AH} (hx : acall E n f args (hM m orc) = some (.bool true, h1)) (hob : OB h1) (hlog : h1.log = [])
    (hl : LR ρM args args') (hen : ∀ (a : Array Value) (w : World), (callFunc f a).run Tryz.prog w = .ok (.enter f a) w) {W : World} (hW : BeginsM W m) :
    Calls Tryz.prog f args'.toArray W (fun e W' => e = .returned (.bool true) ∧ Below W.heap.size W W') := by
  have ha := acall_ok hE n f args (hM m orc) _ h1 hx hob ρM W args' gl_startM (rel_startM hW orc) (fr_startM m orc _) hl
  unfold Ans at ha
  rw [hen] at ha
  have hc : Calls Tryz.prog f args'.toArray W (Back _) := ha
  refine hc.mono fun e W' he => ?_
  cases e with
  | returned v =>
    obtain ⟨ρ', hv, st⟩ := he
    cases hv
    refine ⟨rfl, st.str.os, st.str.tape, st.str.output, st.size, fun k hk => ?_⟩
    rcases st.frame k hk with h | ⟨b, im, h2, _⟩
    · exact h
    · rw [hlog] at h2; simp at h2
  | panicked c => exact he.elim
  | outgrown => exact he.elim
end Go.Proofs.YtkmbkejmfffafaaGreatDoor.Refl
namespace Go.Proofs.YtkmbkejmfffafaaGreatDoor.Refl
open Go Go.RowKit
set_option linter.unusedVariables false
set_option linter.unusedSimpArgs false
set_option maxRecDepth 1000000
noncomputable def srcA : List UInt8 := [97, 32, 61, 32, 123, 32, 78, 85, 77, 66, 69, 82, 40, 36, 110, 44, 32, 109, 105, 110, 105, 109, 117, 109, 70, 114, 97, 99, 116, 105, 111, 110, 68, 105, 103, 105, 116, 115, 58, 32]
noncomputable def srcB : List UInt8 := [41, 32, 45, 62, 10, 32, 32, 32, 32, 91, 122, 101, 114, 111, 93, 32, 122, 101, 114, 111, 10, 32, 32, 32, 32, 91, 111, 110, 101, 93, 32, 111, 110, 101, 10, 32, 32, 32, 32, 91, 116, 119, 111, 93, 32, 116, 119, 111, 10, 32, 32, 32, 32, 91, 102, 101, 119, 93, 32, 102, 101, 119, 10, 32, 32, 32, 32, 91, 109, 97, 110, 121, 93, 32, 109, 97, 110, 121, 10, 32, 32, 32, 42, 91, 111, 116, 104, 101, 114, 93, 32, 111, 116, 104, 101, 114, 10, 32, 125]
noncomputable def srcP (k : Nat) : List UInt8 := app srcA (UInt8.ofNat (Nat.add 48 k) :: srcB)
noncomputable def pP (k : Nat) (L S : List UInt8) : List (List UInt8) := [[97], L, [48], srcP k, [113], [97], [], [49], [110], [110], S]
structure PL where
  k : Nat
  c : Nat
  L : List UInt8
  Lg : List UInt8
  Sc : List UInt8
  Re : List UInt8
  T : List UInt8
  vs : Option (List (List UInt8))
  neg : Bool
  D : List UInt8
  S : List UInt8
noncomputable def PL.dec (x : PL) : Value := decA x.neg x.D x.k
noncomputable def argS (S : List UInt8) : Value := .agg ⟨[strV [110], intV 1, strV S]⟩
noncomputable def valT (neg : Bool) (D : List UInt8) (k : Nat) : Value := .tuple ⟨[valV neg D k, .bool true]⟩
noncomputable def atV (b : Nat) (o : Option (List (List UInt8))) : Option (Nat × List (List UInt8)) := match o with
  | none => none
  | some vs => some (b, vs)
noncomputable def PL.tP (x : PL) (s : List UInt8) : TagT := ⟨s, x.Lg, x.Sc, x.Re, x.vs, true⟩
noncomputable def PL.tS (x : PL) (b : Nat) : TagU := ⟨x.Lg, x.Sc, x.Re, atV b x.vs, x.T⟩
noncomputable def t53 (x : PL) : List Value × Value := ([optA x.k, x.dec], x.dec)
noncomputable def t21 (x : PL) : List Value × Value := ([strV x.Lg, x.dec], intV x.c)
noncomputable def t44 (x : PL) : List Value × Value := ([argS x.S], valT x.neg x.D x.k)
noncomputable def plugP (x : PL) : List (Nat × XF) := [(8, xAlive), (105, xClosed 200 105), (18, xItoa), (143, xRune), (68, xClosed 200 68),
  (97, yText [(205, [97]), (207, x.L), (208, [48]), (217, srcP x.k), (282, [113]), (286, [97]), (287, []), (288, [49]), (340, [110]), (341, [110]), (348, x.S)]),
  (12, xTagP [(1, x.tP x.L), (483, x.tP x.L), (561, x.tP x.T)]), (13, xTagS [(554, x.tS 78), (555, x.tS 78), (558, x.tS 78), (563, x.tS 78), (564, x.tS 617)]),
  (17, xTold false 17 [(8, ([x.dec], .bool true))]), (20, xTold false 20 [(27, ([x.dec], strV x.S))]),
  (44, xTold false 44 [(162, t44 x), (415, t44 x), (540, t44 x), (547, t44 x)]),
  (53, xTold false 53 [(674, t53 x), (696, t53 x), (718, t53 x), (740, t53 x), (762, t53 x), (784, t53 x)]),
  (21, xTold true 21 [(675, t21 x), (697, t21 x), (719, t21 x), (741, t21 x), (763, t21 x), (785, t21 x), (725, t21 x), (747, t21 x), (769, t21 x), (791, t21 x), (813, t21 x), (835, t21 x)])]
noncomputable def orcP (b : Nat) : List (Nat × Bool) := [(6, true), (7, true), (9, true), (10, false), (16, true), (17, true), (18, true), (19, false), (99, false), (197, false), (200, false), (201, false), (203, false), (281, true), (422, false), (556, true), (565, true),
  (b, true), (Nat.add b 1, true), (Nat.add b 2, true), (Nat.add b 3, true), (Nat.add b 4, true), (Nat.add b 5, false), (1000000, false)]
noncomputable def o44 (x : PL) : List Bool := [pB (Pure false 44 [argS x.S] (valT x.neg x.D x.k)), pB ([argS x.S] = [argS x.S])]
noncomputable def o21 (x : PL) : List Bool := [pB (Pure true 21 [strV x.Lg, x.dec] (intV x.c)), pB ([strV x.Lg, x.dec] = [strV x.Lg, x.dec])]
noncomputable def o53 (x : PL) : List Bool := [pB (Pure false 53 [optA x.k, x.dec] x.dec), pB ([optA x.k, x.dec] = [optA x.k, x.dec])]
noncomputable def oTP (x : PL) (s : List UInt8) : List Bool := match x.vs with
  | none => [pB (YtkmbkejmfffafaaGreatDoorHand.tag_Parse.f (bA s) = some (bA x.Lg, bA x.Sc, bA x.Re, List.map bA [], true)), pB ([strV s] = [strV s])]
  | some vs => [pB (vs ≠ []), pB (YtkmbkejmfffafaaGreatDoorHand.tag_Parse.f (bA s) = some (bA x.Lg, bA x.Sc, bA x.Re, List.map bA vs, true)), pB ([strV s] = [strV s])]
noncomputable def oTS (x : PL) (b : Nat) : List Bool := match x.vs with
  | none => [pB (PFit.tag_Tag_String.f (bA x.Lg) (bA x.Sc) (bA x.Re) (List.map bA []) = some (bA x.T)), pB ([tagA x.Lg x.Sc x.Re (.slice none 0 0)] = [tagA x.Lg x.Sc x.Re (.slice none 0 0)])]
  | some vs => [Nat.ble (len vs) 9223372036854775807, pB (vs ≠ []), pB (List.map strV vs = List.map strV vs), pB (PFit.tag_Tag_String.f (bA x.Lg) (bA x.Sc) (bA x.Re) (List.map bA vs) = some (bA x.T)), pB ([tagA x.Lg x.Sc x.Re (slV b 0 (len vs) LOOSE)] = [tagA x.Lg x.Sc x.Re (slV b 0 (len vs) LOOSE)])]
noncomputable def oPart (t : List UInt8) : List Bool := [Nat.ble (Nat.add (len (app (app (itoaF (len t)) [58]) t)) (len [44])) 1099511627776, Nat.ble (Nat.add (len (app (itoaF (len t)) [58])) (len t)) 1099511627776, Nat.ble (Nat.add (len (itoaF (len t))) (len [58])) 1099511627776, Nat.blt (len t) 400]
noncomputable def oLen (l : List (List UInt8)) (n : Nat) : Bool := Nat.ble (nP l n) 4294967296
noncomputable def oSam (l : List (List UInt8)) (n : Nat) : Bool := Nat.beq (len (sP l n)) (nP l n)
noncomputable def oAll (l : List (List UInt8)) : Bool := Nat.ble (len (sP l 11)) 1099511627776
noncomputable def oAt (l : List (List UInt8)) (n : Nat) (p : List UInt8) : Bool := bytesEq (List.take (len (partF p)) (List.drop (nP l n) (sP l 11))) (partF p)
noncomputable def oEq (l : List (List UInt8)) : Bool := iEq (Int.ofNat (nP l 11)) (Int.ofNat (len (sP l 11)))
noncomputable def oEnc (x : PL) (l : List (List UInt8)) : List Bool :=
  app [oAll l, Nat.blt (len x.S) 400, oAt l 10 x.S, oAll l, oAt l 9 [110], oAll l, oAt l 8 [110], oAll l, oAt l 7 [49], oAll l, oAt l 6 [], oAll l, oAt l 5 [97], oAll l, oAt l 4 [113], beqB true (iLt (Int.ofNat (nP l 4)) (Int.ofNat (len (sP l 11)))),
    oAll l, oAt l 3 (srcP x.k), oAll l, oAt l 2 [48], oAll l, Nat.blt (len x.L) 400, oAt l 1 x.L, oAll l, Nat.beq (len (sP l 11)) (len (sP l 11)), beqB false (iLt 262144 (Int.ofNat (len (sP l 11)))), oSam l 11, Nat.ble (nP l 11) 1099511627776,
    beqB false (Nat.beq (nP l 11) 0), beqB false (Nat.beq (nP l 11) 0), oSam l 10, beqB false (Nat.beq (len (partF x.S)) 0), oLen l 11]
  (app (oPart x.S) (app [oSam l 9, oLen l 10, oSam l 8, oLen l 9, oSam l 7, oLen l 8, oSam l 6, oLen l 7, oSam l 5, oLen l 6, oSam l 4, oLen l 5]
  (app (o44 x) (app [oSam l 3, oLen l 4, oSam l 2, oLen l 3, beqB false (Nat.beq (len (partF x.L)) 0), oLen l 2] (oPart x.L)))))
noncomputable def oHead (x : PL) : List Bool :=
  app [pB (Pure false 20 [x.dec] (strV x.S)), pB ([x.dec] = [x.dec]), beqB false (iLt 30 (Int.ofNat (len x.D))), beqB true (beqB (iLt 30 (Int.ofNat (len x.D))) false), beqB true (beqB (iLt 30 (Int.ofNat (len x.D))) false), beqB true (beqB (iLt 30 (Int.ofNat (len x.D))) false),
    beqB false (iLt 60 (Int.ofNat (len x.L))), beqB true (beqB (iLt 60 (Int.ofNat (len x.L))) false), pB (Pure false 17 [x.dec] (.bool true)), pB ([x.dec] = [x.dec]), beqB true (beqB (iLt 60 (Int.ofNat (len x.L))) false), beqB true (beqB (iLt 60 (Int.ofNat (len x.L))) false)] (oTP x x.L)
noncomputable def oMid (x : PL) (l : List (List UInt8)) : List Bool :=
  app [beqB true (bytesEq x.T x.T)] (app (oTS x 617) (app (oTS x 78) (app (oTP x x.T) (app (oTS x 78) (app [beqB true (bytesEq x.T x.T)] (app (oTS x 78) (app (oTS x 78) (app (o44 x) (app (o44 x) (app (oTP x x.L)
  (app [beqB false (iLt (Int.ofNat (nP l 11)) (Int.ofNat (len (sP l 11))))] (o44 x))))))))))))
noncomputable def oIt (l : List (List UInt8)) : List Bool := [beqB false (!oEq l), beqB true (beqB (!oEq l) false), beqB true (beqB (!oEq l) false), beqB true (beqB (!oEq l) false), beqB true (beqB (!oEq l) false), beqB true (beqB (!oEq l) false)]
noncomputable def obP (n : Nat) (x : PL) : List Bool :=
  app (o21 x) (app (oIt (pP x.k x.L x.S)) (app (rep (app (o21 x) (o53 x)) n) (app (oMid x (pP x.k x.L x.S)) (app (oEnc x (pP x.k x.L x.S)) (oHead x)))))
end Go.Proofs.YtkmbkejmfffafaaGreatDoor.Refl
