import Derived.Test.YtpedajhcfkohlaaDoorProg
import Derived.Below
import Derived.Deep.Draws
import Derived.Deep.AppendLies
import Derived.Maps.AppendAt
import Derived.OwnWalk
import Derived.Laws.BytesArg
import Derived.Laws.MakeOwn
import Derived.Laws.OwnMore
import Derived.Deep.OwnRows
import Derived.Tactics
import Derived.Lib.ConvBytes
import Derived.Laws.Slices
import Derived.WalkKit
import Derived.KernelRfl
import Derived.RowKit3
import Derived.Deep.LoopGhost
import Derived.Deep.QuietTactic
import Derived.BigQuiet
import Derived.WideLaws
import Derived.Deep.DeepCutAuto
import Derived.Deep.CutBlock
import Derived.Deep.RegionHeld3
import Derived.Laws.Rows
import Derived.Lib.AppendStr
import Derived.ArgAppend
import Derived.Laws.IdiomCopy
import Derived.OrdersHeld
import Derived.Laws.BitsLemmas
import Derived.RowKit
import Derived.Test.YtpedajhcfkohlaaDoorHandS
import Derived.Test.YtpedajhcfkohlaaDoorWWords
import Derived.Test.YtpedajhcfkohlaaDoorWLast
import Derived.Test.YtpedajhcfkohlaaDoorWTab
import Derived.Test.YtpedajhcfkohlaaDoorWFour
import Derived.Test.YtpedajhcfkohlaaDoorWQPut
import Derived.Test.YtpedajhcfkohlaaDoorWApart
import Derived.Test.YtpedajhcfkohlaaDoorWArr
import Derived.Test.YtpedajhcfkohlaaDoorWZeros
import Derived.Test.YtpedajhcfkohlaaDoorWFoot
import Derived.Test.YtpedajhcfkohlaaDoorWKept
import Derived.Test.YtpedajhcfkohlaaDoorWShare
import Derived.Test.YtpedajhcfkohlaaDoorWN
import Derived.Test.YtpedajhcfkohlaaDoorWFootNe
import Derived.Test.YtpedajhcfkohlaaDoorWAt
import Derived.Test.YtpedajhcfkohlaaDoorWEqStruct
import Derived.Test.YtpedajhcfkohlaaDoorWRepsOne
import Derived.Test.YtpedajhcfkohlaaDoorWInv
import Derived.Test.YtpedajhcfkohlaaDoorWInvWords
import Derived.Test.YtpedajhcfkohlaaDoorWGuard
import Derived.Test.YtpedajhcfkohlaaDoorWNEv
import Derived.Test.YtpedajhcfkohlaaDoorWMore
-- Written by this session's own program (wip/drive.py) over the kit's printer: not the printer's own text.
namespace Go.Proofs.YtpedajhcfkohlaaDoor.PNFirst
open Go.RowKit Go.Proofs.YtpedajhcfkohlaaDoorHand Go.Proofs.YtpedajhcfkohlaaDoor.PNeg Go.Proofs.YtpedajhcfkohlaaDoorW.PrintWords Go.Proofs.YtpedajhcfkohlaaDoorW.PrintLast Go.Proofs.YtpedajhcfkohlaaDoorW.PrintMore
attribute [local go_sem] max2_int min2_int max_two min_two max_three min_three max_four min_four   -- for this text's walks alone
set_option linter.unusedVariables false
set_option linter.unusedSimpArgs false



-- the values' own types
/-! #### struct type 25 -/
theorem k25_openF {W : World} {ok : Nat → Prop} {x : S25} {cs : List Value} (h : Kd.FK k25 W ok x cs) : ∃ A3 c3, cs = [.string x.f0, .string x.f1, .string x.f2, .slice A3 x.f3.length c3] ∧ x.f3.length ≤ c3 ∧ Kd.F Kd.string W ok A3 x.f3.length x.f3 := by
  obtain ⟨A3, c3, rfl, l3, _⟩ := k25_open (Kd.FK_now h)
  exact ⟨A3, c3, rfl, l3, (fun W' hW => by obtain ⟨A3_, c3_, he, l3_, g3_⟩ := k25_open (h W' hW); injection (Option.some.inj (show some (Value.slice A3 x.f3.length c3) = some (Value.slice A3_ x.f3.length c3_) from congrArg (fun l => l[3]?) he)) with ha_ _ _; rw [ha_]; exact g3_)⟩
theorem k25_mkF (W : World) (ok : Nat → Prop) (x : S25) {A3 : Option Addr} {c3 : Nat} (l3 : x.f3.length ≤ c3) (g3 : Kd.F Kd.string W ok A3 x.f3.length x.f3) : Kd.FK k25 W ok x [.string x.f0, .string x.f1, .string x.f2, .slice A3 x.f3.length c3] := fun W2 hW => k25_mk W2 x l3 (g3 W2 hW)
end Go.Proofs.YtpedajhcfkohlaaDoor.PNFirst
-- Written by this session's own program (wip/drive.py) over the kit's printer: not the printer's own text.
namespace Go.Proofs.YtpedajhcfkohlaaDoor.PNFirst
open Go.RowKit Go.Proofs.YtpedajhcfkohlaaDoorHand Go.Proofs.YtpedajhcfkohlaaDoor.PNeg Go.Proofs.YtpedajhcfkohlaaDoorW.PrintWords Go.Proofs.YtpedajhcfkohlaaDoorW.PrintLast Go.Proofs.YtpedajhcfkohlaaDoorW.PrintMore
attribute [local go_sem] max2_int min2_int max_two min_two max_three min_three max_four min_four   -- for this text's walks alone
set_option linter.unusedVariables false
set_option linter.unusedSimpArgs false

/-! ### polyglotlaw11_NegoFirst: function 13 -/
mutual
def polyglotlaw11_NegoFirst.j0 : Nat → ByteArray → List ByteArray → ByteArray → Bool → Option (Bool)
  | 0, _, _, _, _ => none
  | k + 1, x0, x1, x2, x28 => if x28 = true then (some true) else ((tag_ParseV.f x0).bind fun bt103 => ((tag_ParseV.f x2).bind fun bt111 => (if bt103.2.2.2.2 = true then (polyglotlaw11_NegoFirst.j1 k x1 (!bt111.2.2.2.2) bt103.1 bt103.2.1 bt103.2.2.1 bt103.2.2.2.1 bt111.1 bt111.2.1 bt111.2.2.1 bt111.2.2.2.1) else (polyglotlaw11_NegoFirst.j1 k x1 true bt103.1 bt103.2.1 bt103.2.2.1 bt103.2.2.2.1 bt111.1 bt111.2.1 bt111.2.2.1 bt111.2.2.2.1))))
def polyglotlaw11_NegoFirst.j1 : Nat → List ByteArray → Bool → ByteArray → ByteArray → ByteArray → List ByteArray → ByteArray → ByteArray → ByteArray → List ByteArray → Option (Bool)
  | 0, _, _, _, _, _, _, _, _, _, _ => none
  | k + 1, x1, x44, x111000, x111001, x111002, x111003, x119000, x119001, x119002, x119003 => if x44 = true then (some true) else ((nego_TagsN.f x1).bind fun t119 => ((some (([(⟨x111000, x111001, x111002, x111003⟩ : S25)] : List (S25)) : List (S25))).bind fun y122 => (if t119.length + y122.length < 1954687338268 then ((some (t119 ++ y122 : List (S25))).bind fun y125 => ((nego_Chain.f (([(⟨x111000, x111001, x111002, x111003⟩ : S25)] : List (S25))) y125 x119000 x119001 x119002 x119003).bind fun t131 => ((nego_Chain.f ([] : List (S25)) y125 x119000 x119001 x119002 x119003).bind fun t134 => (if (t131.length : Int) > 0 then (if 0 < (t131.length : Int) then ((tag_Str.f ((rd_T25 t131 0).f0) ((rd_T25 t131 0).f1) ((rd_T25 t131 0).f2) ((rd_T25 t131 0).f3)).bind fun t138 => ((tag_Str.f x111000 x111001 x111002 x111003).bind fun t139 => (if t138.toList = t139.toList then (if (t134.length : Int) = 1 then (if 0 < (t134.length : Int) then ((tag_Str.f ((rd_T25 t134 0).f0) ((rd_T25 t134 0).f1) ((rd_T25 t134 0).f2) ((rd_T25 t134 0).f3)).bind fun t141 => ((tag_Str.f x119000 x119001 x119002 x119003).bind fun t142 => (some (t141.toList == t142.toList)))) else (none)) else (some false)) else (some false)))) else (none)) else (some false))))) else (none))))
end
def polyglotlaw11_NegoFirst.f (k : Nat) (a0 : ByteArray) (l1 : List ByteArray) (a2 : ByteArray) : Option (Bool) := (law11_head.f).bind fun t101 => (if t101 = true then ((law11_short.f l1).bind fun t102 => (if t102 = true then (if (a0.size : Int) > 60 then (polyglotlaw11_NegoFirst.j0 k a0 l1 a2 true) else (polyglotlaw11_NegoFirst.j0 k a0 l1 a2 (decide ((a2.size : Int) > 60)))) else (polyglotlaw11_NegoFirst.j0 k a0 l1 a2 true))) else (some false))
theorem polyglotlaw11_NegoFirst.mono_l : ∀ k, (∀ y0 y1 y2 y3, LeO (polyglotlaw11_NegoFirst.j0 k y0 y1 y2 y3) (polyglotlaw11_NegoFirst.j0 (k + 1) y0 y1 y2 y3)) ∧ (∀ y0 y1 y2 y3 y4 y5 y6 y7 y8 y9, LeO (polyglotlaw11_NegoFirst.j1 k y0 y1 y2 y3 y4 y5 y6 y7 y8 y9) (polyglotlaw11_NegoFirst.j1 (k + 1) y0 y1 y2 y3 y4 y5 y6 y7 y8 y9))
  | 0 => ⟨fun _ _ _ _ r h => by simp [polyglotlaw11_NegoFirst.j0] at h, fun _ _ _ _ _ _ _ _ _ _ r h => by simp [polyglotlaw11_NegoFirst.j1] at h⟩
  | k + 1 => by
    obtain ⟨ih0, ih1⟩ := polyglotlaw11_NegoFirst.mono_l k
    refine ⟨?_, ?_⟩
    · intro y0 y1 y2 y3
      unfold polyglotlaw11_NegoFirst.j0
      repeat' first
      | (with_reducible exact ih0 _ _ _ _)
      | (with_reducible exact ih1 _ _ _ _ _ _ _ _ _ _)
      | (with_reducible exact LeO.refl _)
      | (with_reducible exact LeO.none _)
      | (with_reducible refine LeO.ite ?_ ?_)
      | (with_reducible refine LeO.bind ?_ (fun _ => ?_))
      | exact ih0 _ _ _ _
      | exact ih1 _ _ _ _ _ _ _ _ _ _
      | exact LeO.none _
      | refine LeO.ite ?_ ?_
      | refine LeO.bind ?_ (fun _ => ?_)
    · intro y0 y1 y2 y3 y4 y5 y6 y7 y8 y9
      unfold polyglotlaw11_NegoFirst.j1
      repeat' first
      | (with_reducible exact ih0 _ _ _ _)
      | (with_reducible exact ih1 _ _ _ _ _ _ _ _ _ _)
      | (with_reducible exact LeO.refl _)
      | (with_reducible exact LeO.none _)
      | (with_reducible refine LeO.ite ?_ ?_)
      | (with_reducible refine LeO.bind ?_ (fun _ => ?_))
      | exact ih0 _ _ _ _
      | exact ih1 _ _ _ _ _ _ _ _ _ _
      | exact LeO.none _
      | refine LeO.ite ?_ ?_
      | refine LeO.bind ?_ (fun _ => ?_)
theorem polyglotlaw11_NegoFirst.mono : ∀ a0 a1 a2 k, LeO (polyglotlaw11_NegoFirst.f k a0 a1 a2) (polyglotlaw11_NegoFirst.f (k + 1) a0 a1 a2) := by
  intro a0 a1 a2 k
  obtain ⟨ih0, ih1⟩ := polyglotlaw11_NegoFirst.mono_l k
  unfold polyglotlaw11_NegoFirst.f
  repeat' first
      | (with_reducible exact ih0 _ _ _ _)
      | (with_reducible exact ih1 _ _ _ _ _ _ _ _ _ _)
      | (with_reducible exact LeO.refl _)
      | (with_reducible exact LeO.none _)
      | (with_reducible refine LeO.ite ?_ ?_)
      | (with_reducible refine LeO.bind ?_ (fun _ => ?_))
      | exact ih0 _ _ _ _
      | exact ih1 _ _ _ _ _ _ _ _ _ _
      | exact LeO.none _
      | refine LeO.ite ?_ ?_
      | refine LeO.bind ?_ (fun _ => ?_)
def polyglotlaw11_NegoFirst.T12 : Bool × List (List Nat × List Nat) := (true, [([], []), ([0], [0]), ([1], [1]), ([2], [2]), ([3], [3]), ([4, 3], [3, 4]), ([5, 3], [3, 5]), ([6, 3, 3], [3, 6]), ([3], [3]), ([8, 7, 3], [3, 8]), ([7, 9, 3], [3, 7, 9]), ([3, 10], [3, 10]), ([11, 9], [11]), ([12], [12]), ([13, 12], [12, 13]), ([14, 12], [12, 14]), ([12, 15], [12, 15]), ([16, 12], [16]), ([17], [17]), ([18, 17], [17, 18]), ([19, 17], [17, 19]), ([20, 17, 17], [17, 20]), ([17], [17]), ([22, 21, 17], [17, 22]), ([21, 23, 17], [17, 21, 23]), ([17, 24], [17, 24]), ([25, 23, 0, 1, 2, 3, 4, 5, 6, 7, 8, 9, 10, 11, 12, 13, 14, 15, 16, 17, 18, 19, 20, 21, 22, 23, 24, 25], [25])])
def polyglotlaw11_NegoFirst.B12 : List Nat := [0, 1, 3, 7, 15, 31, 63, 127, 15, 511, 1023, 2047, 4095, 8191, 16383, 32767, 65535, 131071, 262143, 524287, 1048575, 2097151, 262143, 8388607, 16777215, 33554431, 67108863]
theorem polyglotlaw11_NegoFirst.tab12 : rtab .any (opsOf Tryd.f13 12) = polyglotlaw11_NegoFirst.T12 := by kernel_rfl
theorem polyglotlaw11_NegoFirst.bits12 : waitsOk polyglotlaw11_NegoFirst.T12.2 polyglotlaw11_NegoFirst.B12 = true := by kernel_rfl
set_option maxHeartbeats 8000000 in
set_option maxRecDepth 100000 in
theorem polyglotlaw11_NegoFirst.calls (k : Nat) (a0 : ByteArray) (A1 : Option Addr) (c1 : Nat) (l1 : List ByteArray) (a2 : ByteArray) (r : Bool) (w : World) (hr1 : Kd.C Kd.string w A1 l1.length l1) (hc1 : l1.length ≤ c1) (h : polyglotlaw11_NegoFirst.f k a0 l1 a2 = some r) (hG : GW w := by first | exact hG | exact GW.drewN hG _ | exact GW.below hG (by first | exact HB.out | (with_reducible exact HB.out) | (repeat (first | (with_reducible first | exact HB.out | apply below_alloc | apply pw_below_drewN | apply below_drew1) | (refine below_setA ?_ (by assumption)) | exact HB.out)))) (hr_ : Aside0 (r = true) := by exact ⟨rfl⟩) :
    Calls Tryd.prog 13 #[.string a0, .slice A1 l1.length c1, .string a2] w fun e w' => e = .returned (.bool r) ∧ Below w.heap.size w w' := by
  have hu25 := Tryd.underlying25
  have HR1 := Aside0.mk hr1
  have HC1 := Aside0.mk hc1
  clear hr1 hc1
  have HB := Aside0.mk (Below.refl w.heap.size w)
  have H : ((law11_head.f).bind fun t101 => (if t101 = true then ((law11_short.f l1).bind fun t102 => (if t102 = true then (if (a0.size : Int) > 60 then (polyglotlaw11_NegoFirst.j0 k a0 l1 a2 true) else (polyglotlaw11_NegoFirst.j0 k a0 l1 a2 (decide ((a2.size : Int) > 60)))) else (polyglotlaw11_NegoFirst.j0 k a0 l1 a2 true))) else (some false))) = some r := h
  clear h
  replace H := Option.bind_eq_some_iff.mp H
  obtain ⟨t101, A40, H⟩ := H
  replace H : (if t101 = true then ((law11_short.f l1).bind fun t102 => (if t102 = true then (if (a0.size : Int) > 60 then (polyglotlaw11_NegoFirst.j0 k a0 l1 a2 true) else (polyglotlaw11_NegoFirst.j0 k a0 l1 a2 (decide ((a2.size : Int) > 60)))) else (polyglotlaw11_NegoFirst.j0 k a0 l1 a2 true))) else (some false)) = some r := H
  have A4 := Aside0.mk A40
  clear A40
  by_cases c5 : t101 = true
  · subst c5
    have H1 : ((law11_short.f l1).bind fun t102 => (if t102 = true then (if (a0.size : Int) > 60 then (polyglotlaw11_NegoFirst.j0 k a0 l1 a2 true) else (polyglotlaw11_NegoFirst.j0 k a0 l1 a2 (decide ((a2.size : Int) > 60)))) else (polyglotlaw11_NegoFirst.j0 k a0 l1 a2 true))) = some r := by rw [if_pos rfl] at H; exact H
    clear H
    have H := H1
    clear H1
    have HC6 := Aside0.mk H
    clear H
    go_enter Tryd.func13, Tryd.ntmps13
    go_upto_region 3 with (first | ((with_reducible refine gate_callee (f := 27) rfl ?_); refine goesL_ (some 14) rfl rfl Tryd.func27 (by kernel_rfl) rfl #[] rfl (by (try simp only [List.map_toArray, List.map_cons, List.map_nil]); first | done | rfl | (simp only [List.length_drop, List.length_take]; rfl)) ?_; (with_reducible refine (law11_head.calls  true _ A4.out).mono ?_); rintro e w7 ⟨rfl, hb⟩; refine ⟨_, rfl, ?_⟩; have n0_ := Aside0.mk (below_step (by repeat (first | (with_reducible first | exact HB.out | apply below_alloc | apply pw_below_drewN | apply below_drew1) | exact HB.out)) hb); clear HB; have HB := n0_; clear n0_; (try clear hb); (try clear hb2); (try clear hk); (try clear hi)))
    (try simp only [Act.put, List.setIfInBounds_toArray, List.set_cons_zero, List.set_cons_succ])
    go_cut [28] (fun v28 wc => ∃ (kq : Nat) (x28_5 : Bool), v28 = .bool x28_5 ∧ Aside0 (polyglotlaw11_NegoFirst.j0 kq a0 l1 a2 x28_5 = some r) ∧ Aside0 (kq ≤ k) ∧ Aside0 (Below w.heap.size w wc))
    case first =>
      have H := HC6.out
      clear HC6
      replace H := Option.bind_eq_some_iff.mp H
      obtain ⟨t102, A80, H⟩ := H
      replace H : (if t102 = true then (if (a0.size : Int) > 60 then (polyglotlaw11_NegoFirst.j0 k a0 l1 a2 true) else (polyglotlaw11_NegoFirst.j0 k a0 l1 a2 (decide ((a2.size : Int) > 60)))) else (polyglotlaw11_NegoFirst.j0 k a0 l1 a2 true)) = some r := H
      have A8 := Aside0.mk A80
      clear A80
      by_cases c9 : t102 = true
      · subst c9
        have H1 : (if (a0.size : Int) > 60 then (polyglotlaw11_NegoFirst.j0 k a0 l1 a2 true) else (polyglotlaw11_NegoFirst.j0 k a0 l1 a2 (decide ((a2.size : Int) > 60)))) = some r := by rw [if_pos rfl] at H; exact H
        clear H
        have H := H1
        clear H1
        by_cases c10 : (a0.size : Int) > 60
        · rw [if_pos c10] at H
          have c10b0 : decide (60 < (a0.size : Int)) = true := decide_eq_true c10
          have c10b1 : decide (60 < a0.size) = true := decide_eq_true (by omega)
          clear c10
          (first | rw [c10b0] | (simp only [i64_w, i32_w]; rw [c10b0]) | skip)
          have H' := Aside0.mk H
          clear H
          go_wp2_with (first | ((with_reducible refine gate_callee (f := 28) rfl ?_); refine goesL_ (some 17) rfl rfl Tryd.func28 (by kernel_rfl) rfl #[.slice A1 l1.length c1] rfl (by (try simp only [List.map_toArray, List.map_cons, List.map_nil]); first | done | rfl | (simp only [List.length_drop, List.length_take]; rfl)) ?_; (with_reducible refine (law11_short.calls _ _ l1 true _ ?side1 ?side2 A8.out).mono ?_); (case side1 => repeat (first | exact (Kd.C_below HR1.out HB.out) | (with_reducible refine Kd.C_alloc ?_ _) | (with_reducible refine Kd.C_drewN ?_ _) | (with_reducible refine Kd.C_drew ?_))); (case side2 => exact HC1.out); rintro e w' ⟨rfl, ⟨nd, rfl⟩⟩; refine ⟨_, rfl, ?_⟩))
          go_meet
          case rel => exact ⟨_, (true), (by first | rfl | (simp; done) | (simp [*]; done)), H', ⟨by first | omega | exact Nat.le_refl _⟩, ⟨by repeat (first | (with_reducible first | exact HB.out | apply below_alloc | apply pw_below_drewN | apply below_drew1) | exact HB.out)⟩⟩
        · rw [if_neg c10] at H
          have c10b0 : decide (60 < (a0.size : Int)) = false := decide_eq_false c10
          have c10b1 : decide (60 < a0.size) = false := decide_eq_false (by omega)
          clear c10
          (first | rw [c10b0] | (simp only [i64_w, i32_w]; rw [c10b0]) | skip)
          have H' := Aside0.mk H
          clear H
          go_wp2_with (first | ((with_reducible refine gate_callee (f := 28) rfl ?_); refine goesL_ (some 17) rfl rfl Tryd.func28 (by kernel_rfl) rfl #[.slice A1 l1.length c1] rfl (by (try simp only [List.map_toArray, List.map_cons, List.map_nil]); first | done | rfl | (simp only [List.length_drop, List.length_take]; rfl)) ?_; (with_reducible refine (law11_short.calls _ _ l1 true _ ?side1 ?side2 A8.out).mono ?_); (case side1 => repeat (first | exact (Kd.C_below HR1.out HB.out) | (with_reducible refine Kd.C_alloc ?_ _) | (with_reducible refine Kd.C_drewN ?_ _) | (with_reducible refine Kd.C_drew ?_))); (case side2 => exact HC1.out); rintro e w' ⟨rfl, ⟨nd, rfl⟩⟩; refine ⟨_, rfl, ?_⟩))
          go_meet
          case rel => exact ⟨_, (decide ((a2.size : Int) > 60)), (by first | rfl | (simp; done) | (simp [*]; done)), H', ⟨by first | omega | exact Nat.le_refl _⟩, ⟨by repeat (first | (with_reducible first | exact HB.out | apply below_alloc | apply pw_below_drewN | apply below_drew1) | exact HB.out)⟩⟩
      · replace c9 := Bool.eq_false_iff.mpr c9
        subst c9
        have H1 : (polyglotlaw11_NegoFirst.j0 k a0 l1 a2 true) = some r := by rw [if_neg (show ¬ (false = true) by decide)] at H; exact H
        clear H
        have H := H1
        clear H1
        have H' := Aside0.mk H
        clear H
        go_wp2_with (first | ((with_reducible refine gate_callee (f := 28) rfl ?_); refine goesL_ (some 17) rfl rfl Tryd.func28 (by kernel_rfl) rfl #[.slice A1 l1.length c1] rfl (by (try simp only [List.map_toArray, List.map_cons, List.map_nil]); first | done | rfl | (simp only [List.length_drop, List.length_take]; rfl)) ?_; (with_reducible refine (law11_short.calls _ _ l1 false _ ?side1 ?side2 A8.out).mono ?_); (case side1 => repeat (first | exact (Kd.C_below HR1.out HB.out) | (with_reducible refine Kd.C_alloc ?_ _) | (with_reducible refine Kd.C_drewN ?_ _) | (with_reducible refine Kd.C_drew ?_))); (case side2 => exact HC1.out); rintro e w' ⟨rfl, ⟨nd, rfl⟩⟩; refine ⟨_, rfl, ?_⟩))
        go_meet
        case rel => exact ⟨_, (true), (by first | rfl | (simp; done) | (simp [*]; done)), H', ⟨by first | omega | exact Nat.le_refl _⟩, ⟨by repeat (first | (with_reducible first | exact HB.out | apply below_alloc | apply pw_below_drewN | apply below_drew1) | exact HB.out)⟩⟩
    case rest =>
      clear HC6
      try clear c1
      try clear c2
      try clear p2
      try clear c5
      try clear c9
      try clear c10
      try clear c10b0
      try clear c10b1
      obtain ⟨kq, x28_5, rfl, HA, HJ5, HB⟩ := hcut
      cases kq with
      | zero => exact absurd HA.out (by simp [polyglotlaw11_NegoFirst.j0])
      | succ kj5 =>
        have H := HA.out
        clear HA
        simp only [polyglotlaw11_NegoFirst.j0] at H
        by_cases c11 : x28_5 = true
        · subst c11
          have H1 : (some true) = some r := by rw [if_pos rfl] at H; exact H
          clear H
          have H := H1
          clear H1
          obtain rfl := Option.some.inj H
          go_wp2
          go_ret
          exact ⟨by first | rfl | (simp [errW_none, errW_some] <;> rfl) | (simp [*, errW_none, errW_some] <;> rfl), by repeat (first | (with_reducible first | exact HB.out | apply below_alloc | apply pw_below_drewN | apply below_drew1) | exact HB.out)⟩
        · replace c11 := Bool.eq_false_iff.mpr c11
          subst c11
          have H1 : ((tag_ParseV.f a0).bind fun bt103 => ((tag_ParseV.f a2).bind fun bt111 => (if bt103.2.2.2.2 = true then (polyglotlaw11_NegoFirst.j1 kj5 l1 (!bt111.2.2.2.2) bt103.1 bt103.2.1 bt103.2.2.1 bt103.2.2.2.1 bt111.1 bt111.2.1 bt111.2.2.1 bt111.2.2.2.1) else (polyglotlaw11_NegoFirst.j1 kj5 l1 true bt103.1 bt103.2.1 bt103.2.2.1 bt103.2.2.2.1 bt111.1 bt111.2.1 bt111.2.2.1 bt111.2.2.2.1)))) = some r := by rw [if_neg (show ¬ (false = true) by decide)] at H; exact H
          clear H
          have H := H1
          clear H1
          replace H := Option.bind_eq_some_iff.mp H
          obtain ⟨⟨t103, t104, t105, t106, t109⟩, A120, H⟩ := H
          replace H : ((tag_ParseV.f a2).bind fun bt111 => (if t109 = true then (polyglotlaw11_NegoFirst.j1 kj5 l1 (!bt111.2.2.2.2) t103 t104 t105 t106 bt111.1 bt111.2.1 bt111.2.2.1 bt111.2.2.2.1) else (polyglotlaw11_NegoFirst.j1 kj5 l1 true t103 t104 t105 t106 bt111.1 bt111.2.1 bt111.2.2.1 bt111.2.2.2.1))) = some r := H
          have A12 := Aside0.mk A120
          clear A120
          replace H := Option.bind_eq_some_iff.mp H
          obtain ⟨⟨t111, t112, t113, t114, t117⟩, A130, H⟩ := H
          replace H : (if t109 = true then (polyglotlaw11_NegoFirst.j1 kj5 l1 (!t117) t103 t104 t105 t106 t111 t112 t113 t114) else (polyglotlaw11_NegoFirst.j1 kj5 l1 true t103 t104 t105 t106 t111 t112 t113 t114)) = some r := H
          have A13 := Aside0.mk A130
          clear A130
          have HC14 := Aside0.mk H
          clear H
          go_upto_region 7 with (first | ((with_reducible refine gate_callee (f := 15) rfl ?_); refine goesL_ (some 31) rfl rfl Tryd.func15 (by kernel_rfl) rfl #[.string a0] rfl (by (try simp only [List.map_toArray, List.map_cons, List.map_nil]); first | done | rfl | (simp only [List.length_drop, List.length_take]; rfl)) ?_; (with_reducible refine (tag_ParseV.calls a0 t103 t104 t105 t106 t109 _ A12.out).mono ?_); rintro e w15 ⟨v107, rfl, ho0, hb⟩; refine ⟨_, rfl, ?_⟩; have n0_ := Aside0.mk (Kd.V_lower (Kd.V_mono (ok' := fun k_ => True) ho0 (fun k_ hk_ => trivial)) (below_size (by repeat (first | (with_reducible first | exact HB.out | apply below_alloc | apply pw_below_drewN | apply below_drew1) | exact HB.out)))); have n1_ := Aside0.mk (below_step (by repeat (first | (with_reducible first | exact HB.out | apply below_alloc | apply pw_below_drewN | apply below_drew1) | exact HB.out)) hb); clear HB; have HO108 := n0_; have HB := n1_; clear n0_ n1_; (try clear hb); (try clear hb2); (try clear hk); (try clear hi); (try clear ho0)) | ((with_reducible refine gate_dst (N := 7) rfl ?_); (try (refine gate_guard (by rfl) ?_; dsimp only)); refine box_event ?hg (N := 7) ?hd (cs := #[.string (⟨#[]⟩ : ByteArray), .string (⟨#[]⟩ : ByteArray), .string (⟨#[]⟩ : ByteArray), .slice none 0 0]) (t := 25) ?hr ?_; (case hd => rfl); (case hg => rfl); (case hr => first | (go_simp; done) | (go_simp; rfl)); intro gb110 hg w16 hbox hb; have n0_ := Aside0.mk (Kd.V_below (Kd.V_elderB (by (with_reducible repeat (first | apply Kd.V_alloc | apply Kd.V_drewN | apply Kd.V_drew)); exact HO108.out) gb110 (Nat.le_of_eq hg.symm)) hb); have n1_ := Aside0.mk (below_step (by repeat (first | (with_reducible first | exact HB.out | apply below_alloc | apply pw_below_drewN | apply below_drew1) | exact HB.out)) hb); have n2_ := Aside0.mk (hbox); have n3_ := Aside0.mk ((by rw [hg]; exact (below_size (by repeat (first | (with_reducible first | exact HB.out | apply below_alloc | apply pw_below_drewN | apply below_drew1) | exact HB.out))) : w.heap.size ≤ gb110)); have n4_ := Aside0.mk ((by rw [hg]; exact (below_size (by repeat (first | (with_reducible first | exact HB.out | apply below_alloc | apply pw_below_drewN | apply below_drew1) | exact HB.out))) : w.heap.size ≤ gb110)); clear HO108; clear HB; have HO108 := n0_; have HB := n1_; have BK110 := n2_; have GW110 := n3_; have GE110 := n4_; clear n0_ n1_ n2_ n3_ n4_; clear hb hbox hg; have hcz17_0 : w16.cell? ⟨gb110, 0, none⟩ = some (.string (⟨#[]⟩ : ByteArray)) := (blk_cell BK110.out 0).trans rfl; have hcz17_1 : w16.cell? ⟨gb110, 1, none⟩ = some (.string (⟨#[]⟩ : ByteArray)) := (blk_cell BK110.out 1).trans rfl; have hcz17_2 : w16.cell? ⟨gb110, 2, none⟩ = some (.string (⟨#[]⟩ : ByteArray)) := (blk_cell BK110.out 2).trans rfl; have hcz17_3 : w16.cell? ⟨gb110, 3, none⟩ = some (.slice none 0 0) := (blk_cell BK110.out 3).trans rfl; have hfz17_0 := blk_frozen BK110.out 0; have hfz17_1 := blk_frozen BK110.out 1; have hfz17_2 := blk_frozen BK110.out 2; have hfz17_3 := blk_frozen BK110.out 3; obtain ⟨Ao18, co18, eo18⟩ := Kd.V_slice HO108.out; subst eo18) | ((with_reducible refine gate_callee (f := 15) rfl ?_); refine goesL_ (some 36) rfl rfl Tryd.func15 (by kernel_rfl) rfl #[.string a2] rfl (by (try simp only [List.map_toArray, List.map_cons, List.map_nil]); first | done | rfl | (simp only [List.length_drop, List.length_take]; rfl)) ?_; (with_reducible refine (tag_ParseV.calls a2 t111 t112 t113 t114 t117 _ A13.out).mono ?_); rintro e w19 ⟨v115, rfl, ho0, hb⟩; refine ⟨_, rfl, ?_⟩; have n0_ := Aside0.mk (Kd.V_below (by (with_reducible repeat (first | apply Kd.V_alloc | apply Kd.V_drewN | apply Kd.V_drew)); exact (Kd.V_mono (Kd.V_far (p := ⟨gb110, 3, none⟩) (Kd.V_far (p := ⟨gb110, 2, none⟩) (Kd.V_far (p := ⟨gb110, 1, none⟩) (Kd.V_far (p := ⟨gb110, 0, none⟩) (Kd.V_mono HO108.out (fun k_ hk => (⟨hk, hk.2⟩ : _ ∧ k_ ≠ gb110))) (fun _ hk => hk.2) (.string t103)) (fun _ hk => hk.2) (.string t104)) (fun _ hk => hk.2) (.string t105)) (fun _ hk => hk.2) (.slice Ao18 t106.length co18)) (fun _ h_ => h_.1))) hb); have n1_ := Aside0.mk (Kd.V_lower (Kd.V_mono (ok' := fun k_ => k_ ≠ gb110) ho0 (fun k_ hk_ => (Kd.freshB (g := gb110) (o := .cells #[.string t103, .string t104, .string t105, .slice Ao18 t106.length co18] 25 (0, 0)) (by (with_reducible repeat (first | refine blk_drewN ?_ _ | refine blk_drew ?_ | refine blk_alloc ?_ _)); refine blk_put (cs := #[.string t103, .string t104, .string t105, .slice none 0 0]) ?_ 3 _ rfl; (with_reducible repeat (first | refine blk_drewN ?_ _ | refine blk_drew ?_ | refine blk_alloc ?_ _)); refine blk_put (cs := #[.string t103, .string t104, .string (⟨#[]⟩ : ByteArray), .slice none 0 0]) ?_ 2 _ rfl; (with_reducible repeat (first | refine blk_drewN ?_ _ | refine blk_drew ?_ | refine blk_alloc ?_ _)); refine blk_put (cs := #[.string t103, .string (⟨#[]⟩ : ByteArray), .string (⟨#[]⟩ : ByteArray), .slice none 0 0]) ?_ 1 _ rfl; (with_reducible repeat (first | refine blk_drewN ?_ _ | refine blk_drew ?_ | refine blk_alloc ?_ _)); refine blk_put (cs := #[.string (⟨#[]⟩ : ByteArray), .string (⟨#[]⟩ : ByteArray), .string (⟨#[]⟩ : ByteArray), .slice none 0 0]) ?_ 0 _ rfl; (with_reducible repeat (first | refine blk_drewN ?_ _ | refine blk_drew ?_ | refine blk_alloc ?_ _)); exact BK110.out) k_ hk_))) (below_size (by repeat (first | (with_reducible first | exact HB.out | apply below_alloc | apply pw_below_drewN | apply below_drew1 | refine below_set ?_ GE110.out) | exact HB.out)))); have n2_ := Aside0.mk (blk_below (g := gb110) (o := .cells #[.string t103, .string t104, .string t105, .slice Ao18 t106.length co18] 25 (0, 0)) (by (with_reducible repeat (first | refine blk_drewN ?_ _ | refine blk_drew ?_ | refine blk_alloc ?_ _)); refine blk_put (cs := #[.string t103, .string t104, .string t105, .slice none 0 0]) ?_ 3 _ rfl; (with_reducible repeat (first | refine blk_drewN ?_ _ | refine blk_drew ?_ | refine blk_alloc ?_ _)); refine blk_put (cs := #[.string t103, .string t104, .string (⟨#[]⟩ : ByteArray), .slice none 0 0]) ?_ 2 _ rfl; (with_reducible repeat (first | refine blk_drewN ?_ _ | refine blk_drew ?_ | refine blk_alloc ?_ _)); refine blk_put (cs := #[.string t103, .string (⟨#[]⟩ : ByteArray), .string (⟨#[]⟩ : ByteArray), .slice none 0 0]) ?_ 1 _ rfl; (with_reducible repeat (first | refine blk_drewN ?_ _ | refine blk_drew ?_ | refine blk_alloc ?_ _)); refine blk_put (cs := #[.string (⟨#[]⟩ : ByteArray), .string (⟨#[]⟩ : ByteArray), .string (⟨#[]⟩ : ByteArray), .slice none 0 0]) ?_ 0 _ rfl; (with_reducible repeat (first | refine blk_drewN ?_ _ | refine blk_drew ?_ | refine blk_alloc ?_ _)); exact BK110.out) hb); have n3_ := Aside0.mk (below_step (by repeat (first | (with_reducible first | exact HB.out | apply below_alloc | apply pw_below_drewN | apply below_drew1 | refine below_set ?_ GE110.out) | exact HB.out)) hb); clear HO108; clear BK110; clear HB; have HO108 := n0_; have HO116 := n1_; have BK110 := n2_; have HB := n3_; clear n0_ n1_ n2_ n3_; (try clear hb); (try clear hb2); (try clear hk); (try clear hi); (try clear ho0)) | ((with_reducible refine gate_dst (N := 9) rfl ?_); (try (refine gate_guard (by rfl) ?_; dsimp only)); refine box_event ?hg (N := 9) ?hd (cs := #[.string (⟨#[]⟩ : ByteArray), .string (⟨#[]⟩ : ByteArray), .string (⟨#[]⟩ : ByteArray), .slice none 0 0]) (t := 25) ?hr ?_; (case hd => rfl); (case hg => rfl); (case hr => first | (go_simp; done) | (go_simp; rfl)); intro gb118 hg w20 hbox hb; have n0_ := Aside0.mk (Kd.V_below (Kd.V_elderB (by (with_reducible repeat (first | apply Kd.V_alloc | apply Kd.V_drewN | apply Kd.V_drew)); exact HO108.out) gb118 (Nat.le_of_eq hg.symm)) hb); have n1_ := Aside0.mk (Kd.V_below (Kd.V_elderB (by (with_reducible repeat (first | apply Kd.V_alloc | apply Kd.V_drewN | apply Kd.V_drew)); exact HO116.out) gb118 (Nat.le_of_eq hg.symm)) hb); have n2_ := Aside0.mk (blk_below (g := gb110) (o := .cells #[.string t103, .string t104, .string t105, .slice Ao18 t106.length co18] 25 (0, 0)) (by (with_reducible repeat (first | refine blk_drewN ?_ _ | refine blk_drew ?_ | refine blk_alloc ?_ _)); exact BK110.out) hb); have n3_ := Aside0.mk (below_step (by repeat (first | (with_reducible first | exact HB.out | apply below_alloc | apply pw_below_drewN | apply below_drew1 | refine below_set ?_ GE110.out) | exact HB.out)) hb); have n4_ := Aside0.mk (hbox); have n5_ := Aside0.mk ((by rw [hg]; exact (below_size (by repeat (first | (with_reducible first | exact HB.out | apply below_alloc | apply pw_below_drewN | apply below_drew1 | refine below_set ?_ GE110.out) | exact HB.out))) : w.heap.size ≤ gb118)); have n6_ := Aside0.mk ((by rw [hg]; exact (below_size (by repeat (first | (with_reducible first | exact HB.out | apply below_alloc | apply pw_below_drewN | apply below_drew1 | refine below_set ?_ GE110.out) | exact HB.out))) : w.heap.size ≤ gb118)); have n7_ := Aside0.mk ((by rw [hg]; exact Nat.ne_of_lt (blk_lt (g := gb110) (o := .cells #[.string t103, .string t104, .string t105, .slice Ao18 t106.length co18] 25 (0, 0)) (by (with_reducible repeat (first | refine blk_drewN ?_ _ | refine blk_drew ?_ | refine blk_alloc ?_ _)); exact BK110.out)) : gb110 ≠ gb118)); have n8_ := Aside0.mk ((by rw [hg]; exact Nat.ne_of_gt (blk_lt (g := gb110) (o := .cells #[.string t103, .string t104, .string t105, .slice Ao18 t106.length co18] 25 (0, 0)) (by (with_reducible repeat (first | refine blk_drewN ?_ _ | refine blk_drew ?_ | refine blk_alloc ?_ _)); exact BK110.out)) : gb118 ≠ gb110)); clear HO108; clear HO116; clear BK110; clear HB; have HO108 := n0_; have HO116 := n1_; have BK110 := n2_; have HB := n3_; have BK118 := n4_; have GW118 := n5_; have GE118 := n6_; have NB110_118 := n7_; have NB118_110 := n8_; clear n0_ n1_ n2_ n3_ n4_ n5_ n6_ n7_ n8_; clear hb hbox hg; have hnb21 := NB118_110.out; have hnc21 := NB110_118.out; have hcz22_0 : w20.cell? ⟨gb118, 0, none⟩ = some (.string (⟨#[]⟩ : ByteArray)) := (blk_cell BK118.out 0).trans rfl; have hcz22_1 : w20.cell? ⟨gb118, 1, none⟩ = some (.string (⟨#[]⟩ : ByteArray)) := (blk_cell BK118.out 1).trans rfl; have hcz22_2 : w20.cell? ⟨gb118, 2, none⟩ = some (.string (⟨#[]⟩ : ByteArray)) := (blk_cell BK118.out 2).trans rfl; have hcz22_3 : w20.cell? ⟨gb118, 3, none⟩ = some (.slice none 0 0) := (blk_cell BK118.out 3).trans rfl; have hfz22_0 := blk_frozen BK118.out 0; have hfz22_1 := blk_frozen BK118.out 1; have hfz22_2 := blk_frozen BK118.out 2; have hfz22_3 := blk_frozen BK118.out 3; obtain ⟨Ao23, co23, eo23⟩ := Kd.V_slice HO116.out; subst eo23))
          (try simp only [Act.put, List.setIfInBounds_toArray, List.set_cons_zero, List.set_cons_succ])
          go_cut [44] (fun v44 wc => ∃ (kq : Nat) (x44_13 : Bool), v44 = .bool x44_13 ∧ Aside0 (polyglotlaw11_NegoFirst.j1 kq l1 x44_13 t103 t104 t105 t106 t111 t112 t113 t114 = some r) ∧ Aside0 (kq ≤ kj5) ∧ Aside0 (Kd.V Kd.string 9 wc w.heap.size (fun k_ => k_ ≠ gb110 ∧ k_ ≠ gb118) (.slice Ao18 t106.length co18) t106) ∧ Aside0 (Kd.V Kd.string 9 wc w.heap.size (fun k_ => k_ ≠ gb110 ∧ k_ ≠ gb118) (.slice Ao23 t114.length co23) t114) ∧ Aside0 (wc.heap[gb110]? = some (.cells #[.string t103, .string t104, .string t105, (.slice Ao18 t106.length co18)] 25 (0, 0))) ∧ Aside0 (wc.heap[gb118]? = some (.cells #[.string t111, .string t112, .string t113, (.slice Ao23 t114.length co23)] 25 (0, 0))) ∧ Aside0 (Below w.heap.size w wc))
          case first =>
            have H := HC14.out
            clear HC14
            by_cases c24 : t109 = true
            · subst c24
              have H1 : (polyglotlaw11_NegoFirst.j1 kj5 l1 (!t117) t103 t104 t105 t106 t111 t112 t113 t114) = some r := by rw [if_pos rfl] at H; exact H
              clear H
              have H := H1
              clear H1
              have H' := Aside0.mk H
              clear H
              go_wp2
              go_meet
              case rel => exact ⟨_, (!t117), (by first | rfl | (simp; done) | (simp [*]; done)), H', ⟨by have := HJ5.out; first | omega | exact Nat.le_refl _⟩, ⟨by (with_reducible repeat (first | apply Kd.V_alloc | apply Kd.V_drewN | apply Kd.V_drew)); exact Kd.V_mono (Kd.V_far (p := ⟨gb118, 3, none⟩) (Kd.V_far (p := ⟨gb118, 2, none⟩) (Kd.V_far (p := ⟨gb118, 1, none⟩) (Kd.V_far (p := ⟨gb118, 0, none⟩) (Kd.V_mono HO108.out (fun k_ hk => (⟨hk, hk.2⟩ : _ ∧ k_ ≠ gb118))) (fun _ hk => hk.2) (.string t111)) (fun _ hk => hk.2) (.string t112)) (fun _ hk => hk.2) (.string t113)) (fun _ hk => hk.2) (.slice Ao23 t114.length co23)) (fun _ hk => ⟨hk.1.1.2, hk.1.2⟩)⟩, ⟨by (with_reducible repeat (first | apply Kd.V_alloc | apply Kd.V_drewN | apply Kd.V_drew)); exact Kd.V_mono (Kd.V_far (p := ⟨gb118, 3, none⟩) (Kd.V_far (p := ⟨gb118, 2, none⟩) (Kd.V_far (p := ⟨gb118, 1, none⟩) (Kd.V_far (p := ⟨gb118, 0, none⟩) (Kd.V_mono HO116.out (fun k_ hk => (⟨hk, hk.2⟩ : _ ∧ k_ ≠ gb118))) (fun _ hk => hk.2) (.string t111)) (fun _ hk => hk.2) (.string t112)) (fun _ hk => hk.2) (.string t113)) (fun _ hk => hk.2) (.slice Ao23 t114.length co23)) (fun _ hk => ⟨hk.1.1, hk.1.2⟩)⟩, ⟨by (with_reducible repeat (first | refine blk_drewN ?_ _ | refine blk_drew ?_ | refine blk_alloc ?_ _)); refine blk_far ?_ NB110_118.out _; (with_reducible repeat (first | refine blk_drewN ?_ _ | refine blk_drew ?_ | refine blk_alloc ?_ _)); refine blk_far ?_ NB110_118.out _; (with_reducible repeat (first | refine blk_drewN ?_ _ | refine blk_drew ?_ | refine blk_alloc ?_ _)); refine blk_far ?_ NB110_118.out _; (with_reducible repeat (first | refine blk_drewN ?_ _ | refine blk_drew ?_ | refine blk_alloc ?_ _)); refine blk_far ?_ NB110_118.out _; (with_reducible repeat (first | refine blk_drewN ?_ _ | refine blk_drew ?_ | refine blk_alloc ?_ _)); exact BK110.out⟩, ⟨by (with_reducible repeat (first | refine blk_drewN ?_ _ | refine blk_drew ?_ | refine blk_alloc ?_ _)); refine blk_put (cs := #[.string t111, .string t112, .string t113, .slice none 0 0]) ?_ 3 _ rfl; (with_reducible repeat (first | refine blk_drewN ?_ _ | refine blk_drew ?_ | refine blk_alloc ?_ _)); refine blk_put (cs := #[.string t111, .string t112, .string (⟨#[]⟩ : ByteArray), .slice none 0 0]) ?_ 2 _ rfl; (with_reducible repeat (first | refine blk_drewN ?_ _ | refine blk_drew ?_ | refine blk_alloc ?_ _)); refine blk_put (cs := #[.string t111, .string (⟨#[]⟩ : ByteArray), .string (⟨#[]⟩ : ByteArray), .slice none 0 0]) ?_ 1 _ rfl; (with_reducible repeat (first | refine blk_drewN ?_ _ | refine blk_drew ?_ | refine blk_alloc ?_ _)); refine blk_put (cs := #[.string (⟨#[]⟩ : ByteArray), .string (⟨#[]⟩ : ByteArray), .string (⟨#[]⟩ : ByteArray), .slice none 0 0]) ?_ 0 _ rfl; (with_reducible repeat (first | refine blk_drewN ?_ _ | refine blk_drew ?_ | refine blk_alloc ?_ _)); exact BK118.out⟩, ⟨by repeat (first | (with_reducible first | exact HB.out | apply below_alloc | apply pw_below_drewN | apply below_drew1 | refine below_set ?_ GE110.out | refine below_set ?_ GE118.out) | exact HB.out)⟩⟩
            · replace c24 := Bool.eq_false_iff.mpr c24
              subst c24
              have H1 : (polyglotlaw11_NegoFirst.j1 kj5 l1 true t103 t104 t105 t106 t111 t112 t113 t114) = some r := by rw [if_neg (show ¬ (false = true) by decide)] at H; exact H
              clear H
              have H := H1
              clear H1
              have H' := Aside0.mk H
              clear H
              go_wp2
              go_meet
              case rel => exact ⟨_, (true), (by first | rfl | (simp; done) | (simp [*]; done)), H', ⟨by have := HJ5.out; first | omega | exact Nat.le_refl _⟩, ⟨by (with_reducible repeat (first | apply Kd.V_alloc | apply Kd.V_drewN | apply Kd.V_drew)); exact Kd.V_mono (Kd.V_far (p := ⟨gb118, 3, none⟩) (Kd.V_far (p := ⟨gb118, 2, none⟩) (Kd.V_far (p := ⟨gb118, 1, none⟩) (Kd.V_far (p := ⟨gb118, 0, none⟩) (Kd.V_mono HO108.out (fun k_ hk => (⟨hk, hk.2⟩ : _ ∧ k_ ≠ gb118))) (fun _ hk => hk.2) (.string t111)) (fun _ hk => hk.2) (.string t112)) (fun _ hk => hk.2) (.string t113)) (fun _ hk => hk.2) (.slice Ao23 t114.length co23)) (fun _ hk => ⟨hk.1.1.2, hk.1.2⟩)⟩, ⟨by (with_reducible repeat (first | apply Kd.V_alloc | apply Kd.V_drewN | apply Kd.V_drew)); exact Kd.V_mono (Kd.V_far (p := ⟨gb118, 3, none⟩) (Kd.V_far (p := ⟨gb118, 2, none⟩) (Kd.V_far (p := ⟨gb118, 1, none⟩) (Kd.V_far (p := ⟨gb118, 0, none⟩) (Kd.V_mono HO116.out (fun k_ hk => (⟨hk, hk.2⟩ : _ ∧ k_ ≠ gb118))) (fun _ hk => hk.2) (.string t111)) (fun _ hk => hk.2) (.string t112)) (fun _ hk => hk.2) (.string t113)) (fun _ hk => hk.2) (.slice Ao23 t114.length co23)) (fun _ hk => ⟨hk.1.1, hk.1.2⟩)⟩, ⟨by (with_reducible repeat (first | refine blk_drewN ?_ _ | refine blk_drew ?_ | refine blk_alloc ?_ _)); refine blk_far ?_ NB110_118.out _; (with_reducible repeat (first | refine blk_drewN ?_ _ | refine blk_drew ?_ | refine blk_alloc ?_ _)); refine blk_far ?_ NB110_118.out _; (with_reducible repeat (first | refine blk_drewN ?_ _ | refine blk_drew ?_ | refine blk_alloc ?_ _)); refine blk_far ?_ NB110_118.out _; (with_reducible repeat (first | refine blk_drewN ?_ _ | refine blk_drew ?_ | refine blk_alloc ?_ _)); refine blk_far ?_ NB110_118.out _; (with_reducible repeat (first | refine blk_drewN ?_ _ | refine blk_drew ?_ | refine blk_alloc ?_ _)); exact BK110.out⟩, ⟨by (with_reducible repeat (first | refine blk_drewN ?_ _ | refine blk_drew ?_ | refine blk_alloc ?_ _)); refine blk_put (cs := #[.string t111, .string t112, .string t113, .slice none 0 0]) ?_ 3 _ rfl; (with_reducible repeat (first | refine blk_drewN ?_ _ | refine blk_drew ?_ | refine blk_alloc ?_ _)); refine blk_put (cs := #[.string t111, .string t112, .string (⟨#[]⟩ : ByteArray), .slice none 0 0]) ?_ 2 _ rfl; (with_reducible repeat (first | refine blk_drewN ?_ _ | refine blk_drew ?_ | refine blk_alloc ?_ _)); refine blk_put (cs := #[.string t111, .string (⟨#[]⟩ : ByteArray), .string (⟨#[]⟩ : ByteArray), .slice none 0 0]) ?_ 1 _ rfl; (with_reducible repeat (first | refine blk_drewN ?_ _ | refine blk_drew ?_ | refine blk_alloc ?_ _)); refine blk_put (cs := #[.string (⟨#[]⟩ : ByteArray), .string (⟨#[]⟩ : ByteArray), .string (⟨#[]⟩ : ByteArray), .slice none 0 0]) ?_ 0 _ rfl; (with_reducible repeat (first | refine blk_drewN ?_ _ | refine blk_drew ?_ | refine blk_alloc ?_ _)); exact BK118.out⟩, ⟨by repeat (first | (with_reducible first | exact HB.out | apply below_alloc | apply pw_below_drewN | apply below_drew1 | refine below_set ?_ GE110.out | refine below_set ?_ GE118.out) | exact HB.out)⟩⟩
          case rest =>
            clear HC14
            try clear c1
            try clear c2
            try clear p2
            try clear c5
            try clear c9
            try clear c10
            try clear c10b0
            try clear c10b1
            try clear c11
            try clear c13
            try clear c15
            try clear c21
            try clear c24
            try clear hcz17_0
            try clear hcz17_1
            try clear hcz17_2
            try clear hcz17_3
            try clear hcz22_0
            try clear hcz22_1
            try clear hcz22_2
            try clear hcz22_3
            try clear hfz17_0
            try clear hfz17_1
            try clear hfz17_2
            try clear hfz17_3
            try clear hfz22_0
            try clear hfz22_1
            try clear hfz22_2
            try clear hfz22_3
            try clear p2
            obtain ⟨kq, x44_13, rfl, HA, HJ13, HO_111003, HO_119003, BK110, BK118, HB⟩ := hcut
            cases kq with
            | zero => exact absurd HA.out (by simp [polyglotlaw11_NegoFirst.j1])
            | succ kj13 =>
              have H := HA.out
              clear HA
              simp only [polyglotlaw11_NegoFirst.j1] at H
              by_cases c25 : x44_13 = true
              · subst c25
                have H1 : (some true) = some r := by rw [if_pos rfl] at H; exact H
                clear H
                have H := H1
                clear H1
                obtain rfl := Option.some.inj H
                go_wp2
                go_ret
                exact ⟨by first | rfl | (simp [errW_none, errW_some] <;> rfl) | (simp [*, errW_none, errW_some] <;> rfl), by repeat (first | (with_reducible first | exact HB.out | apply below_alloc | apply pw_below_drewN | apply below_drew1 | refine below_set ?_ GE110.out | refine below_set ?_ GE118.out) | exact HB.out)⟩
              · replace c25 := Bool.eq_false_iff.mpr c25
                subst c25
                have H1 : ((nego_TagsN.f l1).bind fun t119 => ((some (([(⟨t103, t104, t105, t106⟩ : S25)] : List (S25)) : List (S25))).bind fun y122 => (if t119.length + y122.length < 1954687338268 then ((some (t119 ++ y122 : List (S25))).bind fun y125 => ((nego_Chain.f (([(⟨t103, t104, t105, t106⟩ : S25)] : List (S25))) y125 t111 t112 t113 t114).bind fun t131 => ((nego_Chain.f ([] : List (S25)) y125 t111 t112 t113 t114).bind fun t134 => (if (t131.length : Int) > 0 then (if 0 < (t131.length : Int) then ((tag_Str.f ((rd_T25 t131 0).f0) ((rd_T25 t131 0).f1) ((rd_T25 t131 0).f2) ((rd_T25 t131 0).f3)).bind fun t138 => ((tag_Str.f t103 t104 t105 t106).bind fun t139 => (if t138.toList = t139.toList then (if (t134.length : Int) = 1 then (if 0 < (t134.length : Int) then ((tag_Str.f ((rd_T25 t134 0).f0) ((rd_T25 t134 0).f1) ((rd_T25 t134 0).f2) ((rd_T25 t134 0).f3)).bind fun t141 => ((tag_Str.f t111 t112 t113 t114).bind fun t142 => (some (t141.toList == t142.toList)))) else (none)) else (some false)) else (some false)))) else (none)) else (some false))))) else (none)))) = some r := by rw [if_neg (show ¬ (false = true) by decide)] at H; exact H
                clear H
                have H := H1
                clear H1
                replace H := Option.bind_eq_some_iff.mp H
                obtain ⟨t119, A260, H⟩ := H
                replace H : ((some (([(⟨t103, t104, t105, t106⟩ : S25)] : List (S25)) : List (S25))).bind fun y122 => (if t119.length + y122.length < 1954687338268 then ((some (t119 ++ y122 : List (S25))).bind fun y125 => ((nego_Chain.f (([(⟨t103, t104, t105, t106⟩ : S25)] : List (S25))) y125 t111 t112 t113 t114).bind fun t131 => ((nego_Chain.f ([] : List (S25)) y125 t111 t112 t113 t114).bind fun t134 => (if (t131.length : Int) > 0 then (if 0 < (t131.length : Int) then ((tag_Str.f ((rd_T25 t131 0).f0) ((rd_T25 t131 0).f1) ((rd_T25 t131 0).f2) ((rd_T25 t131 0).f3)).bind fun t138 => ((tag_Str.f t103 t104 t105 t106).bind fun t139 => (if t138.toList = t139.toList then (if (t134.length : Int) = 1 then (if 0 < (t134.length : Int) then ((tag_Str.f ((rd_T25 t134 0).f0) ((rd_T25 t134 0).f1) ((rd_T25 t134 0).f2) ((rd_T25 t134 0).f3)).bind fun t141 => ((tag_Str.f t111 t112 t113 t114).bind fun t142 => (some (t141.toList == t142.toList)))) else (none)) else (some false)) else (some false)))) else (none)) else (some false))))) else (none))) = some r := H
                have A26 := Aside0.mk A260
                clear A260
                obtain ⟨y122, hy122⟩ : ∃ y_ : List (S25), y_ = (([(⟨t103, t104, t105, t106⟩ : S25)] : List (S25))) := ⟨_, rfl⟩
                replace H : (if t119.length + y122.length < 1954687338268 then ((some (t119 ++ y122 : List (S25))).bind fun y125 => ((nego_Chain.f (([(⟨t103, t104, t105, t106⟩ : S25)] : List (S25))) y125 t111 t112 t113 t114).bind fun t131 => ((nego_Chain.f ([] : List (S25)) y125 t111 t112 t113 t114).bind fun t134 => (if (t131.length : Int) > 0 then (if 0 < (t131.length : Int) then ((tag_Str.f ((rd_T25 t131 0).f0) ((rd_T25 t131 0).f1) ((rd_T25 t131 0).f2) ((rd_T25 t131 0).f3)).bind fun t138 => ((tag_Str.f t103 t104 t105 t106).bind fun t139 => (if t138.toList = t139.toList then (if (t134.length : Int) = 1 then (if 0 < (t134.length : Int) then ((tag_Str.f ((rd_T25 t134 0).f0) ((rd_T25 t134 0).f1) ((rd_T25 t134 0).f2) ((rd_T25 t134 0).f3)).bind fun t141 => ((tag_Str.f t111 t112 t113 t114).bind fun t142 => (some (t141.toList == t142.toList)))) else (none)) else (some false)) else (some false)))) else (none)) else (some false))))) else (none)) = some r := by first | (rw [hy122]; with_reducible exact H) | (have H2_ := (Option.bind_some _ _).symm.trans H; rw [hy122]; with_reducible exact H2_) | (have H2_ := (Option.bind_some _ _).symm.trans H; with_reducible exact H2_) | with_reducible exact H | (rw [hy122]; exact H) | exact H
                have Ny122 := Aside0.mk hy122
                clear hy122
                by_cases c27 : t119.length + y122.length < 1954687338268
                · rw [if_pos c27] at H
                  have LMc27 := Aside0.mk c27
                  clear c27
                  obtain ⟨y125, hy125⟩ : ∃ y_ : List (S25), y_ = (t119 ++ y122) := ⟨_, rfl⟩
                  replace H : ((nego_Chain.f (([(⟨t103, t104, t105, t106⟩ : S25)] : List (S25))) y125 t111 t112 t113 t114).bind fun t131 => ((nego_Chain.f ([] : List (S25)) y125 t111 t112 t113 t114).bind fun t134 => (if (t131.length : Int) > 0 then (if 0 < (t131.length : Int) then ((tag_Str.f ((rd_T25 t131 0).f0) ((rd_T25 t131 0).f1) ((rd_T25 t131 0).f2) ((rd_T25 t131 0).f3)).bind fun t138 => ((tag_Str.f t103 t104 t105 t106).bind fun t139 => (if t138.toList = t139.toList then (if (t134.length : Int) = 1 then (if 0 < (t134.length : Int) then ((tag_Str.f ((rd_T25 t134 0).f0) ((rd_T25 t134 0).f1) ((rd_T25 t134 0).f2) ((rd_T25 t134 0).f3)).bind fun t141 => ((tag_Str.f t111 t112 t113 t114).bind fun t142 => (some (t141.toList == t142.toList)))) else (none)) else (some false)) else (some false)))) else (none)) else (some false)))) = some r := by first | (rw [hy125]; with_reducible exact H) | (have H2_ := (Option.bind_some _ _).symm.trans H; rw [hy125]; with_reducible exact H2_) | (have H2_ := (Option.bind_some _ _).symm.trans H; with_reducible exact H2_) | with_reducible exact H | (rw [hy125]; exact H) | exact H
                  have Ny125 := Aside0.mk hy125
                  clear hy125
                  obtain ⟨y128, hy128⟩ : ∃ y_ : List (S25), y_ = (([(⟨t103, t104, t105, t106⟩ : S25)] : List (S25))) := ⟨_, rfl⟩
                  replace H : ((nego_Chain.f y128 y125 t111 t112 t113 t114).bind fun t131 => ((nego_Chain.f ([] : List (S25)) y125 t111 t112 t113 t114).bind fun t134 => (if (t131.length : Int) > 0 then (if 0 < (t131.length : Int) then ((tag_Str.f ((rd_T25 t131 0).f0) ((rd_T25 t131 0).f1) ((rd_T25 t131 0).f2) ((rd_T25 t131 0).f3)).bind fun t138 => ((tag_Str.f t103 t104 t105 t106).bind fun t139 => (if t138.toList = t139.toList then (if (t134.length : Int) = 1 then (if 0 < (t134.length : Int) then ((tag_Str.f ((rd_T25 t134 0).f0) ((rd_T25 t134 0).f1) ((rd_T25 t134 0).f2) ((rd_T25 t134 0).f3)).bind fun t141 => ((tag_Str.f t111 t112 t113 t114).bind fun t142 => (some (t141.toList == t142.toList)))) else (none)) else (some false)) else (some false)))) else (none)) else (some false)))) = some r := by first | (rw [hy128]; with_reducible exact H) | (have H2_ := (Option.bind_some _ _).symm.trans H; rw [hy128]; with_reducible exact H2_) | (have H2_ := (Option.bind_some _ _).symm.trans H; with_reducible exact H2_) | with_reducible exact H | (rw [hy128]; exact H) | exact H
                  have Ny128 := Aside0.mk hy128
                  clear hy128
                  replace H := Option.bind_eq_some_iff.mp H
                  obtain ⟨t131, A280, H⟩ := H
                  replace H : ((nego_Chain.f ([] : List (S25)) y125 t111 t112 t113 t114).bind fun t134 => (if (t131.length : Int) > 0 then (if 0 < (t131.length : Int) then ((tag_Str.f ((rd_T25 t131 0).f0) ((rd_T25 t131 0).f1) ((rd_T25 t131 0).f2) ((rd_T25 t131 0).f3)).bind fun t138 => ((tag_Str.f t103 t104 t105 t106).bind fun t139 => (if t138.toList = t139.toList then (if (t134.length : Int) = 1 then (if 0 < (t134.length : Int) then ((tag_Str.f ((rd_T25 t134 0).f0) ((rd_T25 t134 0).f1) ((rd_T25 t134 0).f2) ((rd_T25 t134 0).f3)).bind fun t141 => ((tag_Str.f t111 t112 t113 t114).bind fun t142 => (some (t141.toList == t142.toList)))) else (none)) else (some false)) else (some false)))) else (none)) else (some false))) = some r := H
                  have A28 := Aside0.mk A280
                  clear A280
                  replace H := Option.bind_eq_some_iff.mp H
                  obtain ⟨t134, A290, H⟩ := H
                  replace H : (if (t131.length : Int) > 0 then (if 0 < (t131.length : Int) then ((tag_Str.f ((rd_T25 t131 0).f0) ((rd_T25 t131 0).f1) ((rd_T25 t131 0).f2) ((rd_T25 t131 0).f3)).bind fun t138 => ((tag_Str.f t103 t104 t105 t106).bind fun t139 => (if t138.toList = t139.toList then (if (t134.length : Int) = 1 then (if 0 < (t134.length : Int) then ((tag_Str.f ((rd_T25 t134 0).f0) ((rd_T25 t134 0).f1) ((rd_T25 t134 0).f2) ((rd_T25 t134 0).f3)).bind fun t141 => ((tag_Str.f t111 t112 t113 t114).bind fun t142 => (some (t141.toList == t142.toList)))) else (none)) else (some false)) else (some false)))) else (none)) else (some false)) = some r := H
                  have A29 := Aside0.mk A290
                  clear A290
                  by_cases c30 : (t131.length : Int) > 0
                  · rw [if_pos c30] at H
                    have c30b0 : decide (0 < (t131.length : Int)) = true := decide_eq_true c30
                    have c30b1 : decide (0 < t131.length) = true := decide_eq_true (by omega)
                    clear c30
                    by_cases c31 : 0 < (t131.length : Int)
                    · rw [if_pos c31] at H
                      have c31b0 : decide (0 < (t131.length : Int)) = true := decide_eq_true c31
                      have c31b1 : decide (0 < t131.length) = true := decide_eq_true (by omega)
                      clear c31
                      replace H := Option.bind_eq_some_iff.mp H
                      obtain ⟨t138, A320, H⟩ := H
                      replace H : ((tag_Str.f t103 t104 t105 t106).bind fun t139 => (if t138.toList = t139.toList then (if (t134.length : Int) = 1 then (if 0 < (t134.length : Int) then ((tag_Str.f ((rd_T25 t134 0).f0) ((rd_T25 t134 0).f1) ((rd_T25 t134 0).f2) ((rd_T25 t134 0).f3)).bind fun t141 => ((tag_Str.f t111 t112 t113 t114).bind fun t142 => (some (t141.toList == t142.toList)))) else (none)) else (some false)) else (some false))) = some r := H
                      have A32 := Aside0.mk A320
                      clear A320
                      replace H := Option.bind_eq_some_iff.mp H
                      obtain ⟨t139, A330, H⟩ := H
                      replace H : (if t138.toList = t139.toList then (if (t134.length : Int) = 1 then (if 0 < (t134.length : Int) then ((tag_Str.f ((rd_T25 t134 0).f0) ((rd_T25 t134 0).f1) ((rd_T25 t134 0).f2) ((rd_T25 t134 0).f3)).bind fun t141 => ((tag_Str.f t111 t112 t113 t114).bind fun t142 => (some (t141.toList == t142.toList)))) else (none)) else (some false)) else (some false)) = some r := H
                      have A33 := Aside0.mk A330
                      clear A330
                      by_cases c34 : t138.toList = t139.toList
                      · rw [if_pos c34] at H
                        have c34b0 : (t138.toList == t139.toList) = true := beq_iff_eq.mpr c34
                        have c34b1 : (t138.toList != t139.toList) = false := bne_eq_false_iff_eq.mpr c34
                        clear c34
                        by_cases c35 : (t134.length : Int) = 1
                        · rw [if_pos c35] at H
                          have c35b0 : ((t134.length : Int) == 1) = true := beq_iff_eq.mpr c35
                          have c35b1 : ((t134.length : Int) != 1) = false := bne_eq_false_iff_eq.mpr c35
                          clear c35
                          by_cases c36 : 0 < (t134.length : Int)
                          · rw [if_pos c36] at H
                            have c36b0 : decide (0 < (t134.length : Int)) = true := decide_eq_true c36
                            have c36b1 : decide (0 < t134.length) = true := decide_eq_true (by omega)
                            clear c36
                            replace H := Option.bind_eq_some_iff.mp H
                            obtain ⟨t141, A370, H⟩ := H
                            replace H : ((tag_Str.f t111 t112 t113 t114).bind fun t142 => (some (t141.toList == t142.toList))) = some r := H
                            have A37 := Aside0.mk A370
                            clear A370
                            replace H := Option.bind_eq_some_iff.mp H
                            obtain ⟨t142, A380, H⟩ := H
                            replace H : (some (t141.toList == t142.toList)) = some r := H
                            have A38 := Aside0.mk A380
                            clear A380
                            obtain rfl := Option.some.inj H
                            try go_wp2
                            have n0_ := Aside0.mk (Kd.V_drew HO_111003.out)
                            have n1_ := Aside0.mk (Kd.V_drew HO_119003.out)
                            have n2_ := Aside0.mk (blk_drew BK110.out)
                            have n3_ := Aside0.mk (blk_drew BK118.out)
                            have n4_ := Aside0.mk (below_drew1 HB.out)
                            clear HO_111003
                            clear HO_119003
                            clear BK110
                            clear BK118
                            clear HB
                            have HO_111003 := n0_
                            have HO_119003 := n1_
                            have BK110 := n2_
                            have BK118 := n3_
                            have HB := n4_
                            clear n0_ n1_ n2_ n3_ n4_
                            refine start_ (n := 6) (S := fun w' => w'.cell? ⟨gb110, 0, none⟩ = some (.string t103) ∧ w'.cell? ⟨gb110, 1, none⟩ = some (.string t104) ∧ w'.cell? ⟨gb110, 2, none⟩ = some (.string t105) ∧ w'.cell? ⟨gb110, 3, none⟩ = some (.slice Ao18 t106.length co18)) (ds := []) #[false, false, false, false, false, false] (by kernel_rfl) rfl rfl ⟨(blk_cell BK110.out 0).trans rfl, (blk_cell BK110.out 1).trans rfl, (blk_cell BK110.out 2).trans rfl, (blk_cell BK110.out 3).trans rfl⟩ (fun hHeld => ?_)
                            generalize wc.drew = w39 at HO_111003 HO_119003 BK110 BK118 HB hHeld ⊢
                            refine pure_ (i := 0) (N := some 45) (v := ?_) (a' := ?_) #[true, false, false, false, false, false] rfl rfl (by kernel_rfl) (fun _ _ _ h => h) (Or.inl ⟨by rfl, ?_⟩) ?_ ?_
                            rotate_left
                            · intro w'
                              go_simp
                              with_reducible rfl
                            rotate_left
                            · simp only [Act.put, List.setIfInBounds_toArray, List.set_cons_zero, List.set_cons_succ, i64_w, i32_w]
                              rfl
                            refine take_ (i := 2) (N := some 47) (v := ?_) (a' := ?_) #[true, false, true, false, false, false] rfl rfl (by kernel_rfl) (fun _ _ _ h => h) (Or.inl ⟨by rfl, ?_⟩) hHeld ?_ ?_
                            rotate_left
                            · rintro w' ⟨s0, s1, s2, s3⟩
                              go_simp
                              with_reducible rfl
                            rotate_left
                            · simp only [Act.put, List.setIfInBounds_toArray, List.set_cons_zero, List.set_cons_succ, i64_w, i32_w]
                              rfl
                            refine join_ (σ := Value × Value) 2 #[true, true, true, true, false, false] (fun s_ => [(46, s_.1), (48, s_.2)]) (fun s_ w' => (w'.cell? ⟨gb110, 0, none⟩ = some (.string t103) ∧ w'.cell? ⟨gb110, 1, none⟩ = some (.string t104) ∧ w'.cell? ⟨gb110, 2, none⟩ = some (.string t105) ∧ w'.cell? ⟨gb110, 3, none⟩ = some (.slice Ao18 t106.length co18)) ∧ (Kd.N k25 25 w' w.heap.size (fun k_ => some k_ ≠ (s_.2 : Value).ownBlock ∧ k_ ≠ gb110 ∧ k_ ≠ gb118) s_.1 t119) ∧ (Kd.N k25 25 w' w.heap.size (fun k_ => some k_ ≠ (s_.1 : Value).ownBlock ∧ k_ ≠ gb110 ∧ k_ ≠ gb118) s_.2 y122) ∧ (Kd.V Kd.string 9 w' w.heap.size (fun k_ => some k_ ≠ (s_.1 : Value).ownBlock ∧ some k_ ≠ (s_.2 : Value).ownBlock ∧ k_ ≠ gb110 ∧ k_ ≠ gb118) (.slice Ao18 t106.length co18) t106) ∧ (Kd.V Kd.string 9 w' w.heap.size (fun k_ => some k_ ≠ (s_.1 : Value).ownBlock ∧ some k_ ≠ (s_.2 : Value).ownBlock ∧ k_ ≠ gb110 ∧ k_ ≠ gb118) (.slice Ao23 t114.length co23) t114) ∧ (w'.heap[gb110]? = some (.cells #[.string t103, .string t104, .string t105, .slice Ao18 t106.length co18] 25 (0, 0))) ∧ (w'.heap[gb118]? = some (.cells #[.string t111, .string t112, .string t113, .slice Ao23 t114.length co23] 25 (0, 0))) ∧ (Below w.heap.size w w')) ?_ ?_
                            rotate_left
                            · intro hCont
                              refine two_ (i := 1) (j := 3) (Ni := some 46) (Nj := some 48) #[true, true, true, false, false, false] #[true, false, true, true, false, false] rfl rfl rfl rfl (by kernel_rfl) (by decide) (by decide) (fun K hK => ?_) (fun K hK => ?_)
                              · skip
                                refine goes_ Tryd.func29 (by kernel_rfl) rfl #[.slice A1 l1.length c1] (by rfl) rfl rfl (by (try simp only [List.map_toArray, List.map_cons, List.map_nil]); first | done | rfl | (simp only [List.length_drop, List.length_take]; rfl)) ?_
                                with_reducible refine (nego_TagsN.calls _ _ l1 t119 _ ?side1 ?side2 A26.out).mono ?_
                                (case side1 => repeat (first | exact (Kd.C_below HR1.out HB.out) | (with_reducible refine Kd.C_alloc ?_ _) | (with_reducible refine Kd.C_drewN ?_ _) | (with_reducible refine Kd.C_drew ?_)))
                                (case side2 => exact HC1.out)
                                rintro e w40 ⟨v120, rfl, ho0, hb⟩
                                refine ⟨_, rfl, ?_⟩
                                have n0_ := Aside0.mk (Kd.V_elder' (by (with_reducible repeat (first | apply Kd.V_alloc | apply Kd.V_drewN | apply Kd.V_drew)); exact HO_111003.out) (Kd.N_base ho0) hb)
                                have n1_ := Aside0.mk (Kd.V_elder' (by (with_reducible repeat (first | apply Kd.V_alloc | apply Kd.V_drewN | apply Kd.V_drew)); exact HO_119003.out) (Kd.N_base ho0) hb)
                                have n2_ := Aside0.mk (Kd.N_lower (Kd.N_mono (ok' := fun k_ => k_ ≠ gb110 ∧ k_ ≠ gb118) ho0 (fun k_ hk_ => ⟨(Kd.freshB (g := gb110) (o := .cells #[.string t103, .string t104, .string t105, .slice Ao18 t106.length co18] 25 (0, 0)) (by (with_reducible repeat (first | refine blk_drewN ?_ _ | refine blk_drew ?_ | refine blk_alloc ?_ _)); exact BK110.out) k_ hk_), (Kd.freshB (g := gb118) (o := .cells #[.string t111, .string t112, .string t113, .slice Ao23 t114.length co23] 25 (0, 0)) (by (with_reducible repeat (first | refine blk_drewN ?_ _ | refine blk_drew ?_ | refine blk_alloc ?_ _)); exact BK118.out) k_ hk_)⟩)) (below_size (by repeat (first | (with_reducible first | exact HB.out | apply below_alloc | apply pw_below_drewN | apply below_drew1 | refine below_set ?_ GE110.out | refine below_set ?_ GE118.out) | exact HB.out))))
                                have n3_ := Aside0.mk (blk_below (g := gb110) (o := .cells #[.string t103, .string t104, .string t105, .slice Ao18 t106.length co18] 25 (0, 0)) (by (with_reducible repeat (first | refine blk_drewN ?_ _ | refine blk_drew ?_ | refine blk_alloc ?_ _)); exact BK110.out) hb)
                                have n4_ := Aside0.mk (blk_below (g := gb118) (o := .cells #[.string t111, .string t112, .string t113, .slice Ao23 t114.length co23] 25 (0, 0)) (by (with_reducible repeat (first | refine blk_drewN ?_ _ | refine blk_drew ?_ | refine blk_alloc ?_ _)); exact BK118.out) hb)
                                have n5_ := Aside0.mk (below_step (by repeat (first | (with_reducible first | exact HB.out | apply below_alloc | apply pw_below_drewN | apply below_drew1 | refine below_set ?_ GE110.out | refine below_set ?_ GE118.out) | exact HB.out)) hb)
                                clear HO_111003
                                clear HO_119003
                                clear BK110
                                clear BK118
                                clear HB
                                have HO_111003 := n0_
                                have HO_119003 := n1_
                                have HO121 := n2_
                                have BK110 := n3_
                                have BK118 := n4_
                                have HB := n5_
                                clear n0_ n1_ n2_ n3_ n4_ n5_
                                (try clear hb)
                                (try clear hb2)
                                (try clear hk)
                                (try clear hi)
                                (try clear ho0)
                                refine hK.out _ _ ⟨(blk_cell BK110.out 0).trans rfl, (blk_cell BK110.out 1).trans rfl, (blk_cell BK110.out 2).trans rfl, (blk_cell BK110.out 3).trans rfl⟩ (fun hHeld => ?_)
                                clear hK K
                                refine norm_ (a' := ?_) ?_ ?_
                                rotate_left
                                · show Act.put _ (some 46) _ = _
                                  simp only [Act.put, List.setIfInBounds_toArray, List.set_cons_zero, List.set_cons_succ, i64_w, i32_w]
                                  rfl
                                refine one_ (i := 3) (N := some 48) #[true, true, true, true, false, false] rfl rfl (by kernel_rfl) (by decide) (fun K hK => ?_)
                                refine Kd.N_lit_step k25 _ 25 ?hg (N' := 48) ?hd (xs := ([(⟨t103, t104, t105, t106⟩ : S25)] : List (S25))) (inner := [.string t103, .string t104, .string t105, .slice Ao18 t106.length co18]) (ok := (fun k_ => some k_ ≠ (v120 : Value).ownBlock ∧ k_ ≠ gb110 ∧ k_ ≠ gb118)) (okp := (fun k_ => some k_ ≠ (v120 : Value).ownBlock ∧ k_ ≠ gb110 ∧ k_ ≠ gb118)) ?hr ?hp (fun _ hk => hk) ((show ∀ k_, w40.heap.size ≤ k_ → (fun k_ => some k_ ≠ (v120 : Value).ownBlock ∧ k_ ≠ gb110 ∧ k_ ≠ gb118) k_ from fun k_ hk => ⟨Kd.fresh' (Kd.N_lt (by (with_reducible repeat (first | apply Kd.N_alloc | apply Kd.N_drewN | apply Kd.N_drew)); exact HO121.out)) k_ hk, Kd.freshB (g := gb110) (o := .cells #[.string t103, .string t104, .string t105, .slice Ao18 t106.length co18] 25 (0, 0)) (by (with_reducible repeat (first | refine blk_drewN ?_ _ | refine blk_drew ?_ | refine blk_alloc ?_ _)); exact BK110.out) k_ hk, Kd.freshB (g := gb118) (o := .cells #[.string t111, .string t112, .string t113, .slice Ao23 t114.length co23] 25 (0, 0)) (by (with_reducible repeat (first | refine blk_drewN ?_ _ | refine blk_drew ?_ | refine blk_alloc ?_ _)); exact BK118.out) k_ hk⟩) _ (Nat.le_refl _)) (Below.refl _ _) (Nat.le_refl _) (by simp) ?_; (case hd => rfl); (case hg => rfl); (case hr => first | (go_simp; done) | (go_simp; rfl)); (case hp => exact (Reps.c4 (show Kd.FK k25 _ _ (⟨t103, t104, t105, t106⟩ : S25) [.string t103, .string t104, .string t105, .slice Ao18 t106.length co18] from (k25_mkF _ _ (⟨t103, t104, t105, t106⟩ : S25) (Kd.V_reads' (Kd.V_mono (ok' := (fun k_ => some k_ ≠ (v120 : Value).ownBlock ∧ k_ ≠ gb110 ∧ k_ ≠ gb118)) (HO_111003.out) (fun k_ hk => ⟨hk.2, ⟨hk.1.1, hk.1.2⟩⟩))).2.1 (Kd.V_F (Kd.V_mono (ok' := (fun k_ => some k_ ≠ (v120 : Value).ownBlock ∧ k_ ≠ gb110 ∧ k_ ≠ gb118)) (HO_111003.out) (fun k_ hk => ⟨hk.2, ⟨hk.1.1, hk.1.2⟩⟩))))) (Reps.none _ _)))
                                intro v123 w41 ho42 hb hg_ hnew_
                                clear hg_ hnew_
                                (first | rw [← Ny122.out] at ho42 | (simp only [Int.reduceToNat] at ho42; rw [← Ny122.out] at ho42))
                                have n0_ := Aside0.mk (Kd.V_elder' (by (with_reducible repeat (first | apply Kd.V_alloc | apply Kd.V_drewN | apply Kd.V_drew)); exact HO_111003.out) (Kd.N_base ho42) hb)
                                have n1_ := Aside0.mk (Kd.V_elder' (by (with_reducible repeat (first | apply Kd.V_alloc | apply Kd.V_drewN | apply Kd.V_drew)); exact HO_119003.out) (Kd.N_base ho42) hb)
                                have n2_ := Aside0.mk (Kd.N_elder' (by (with_reducible repeat (first | apply Kd.N_alloc | apply Kd.N_drewN | apply Kd.N_drew)); exact HO121.out) (Kd.N_base ho42) hb)
                                have n3_ := Aside0.mk (Kd.N_lower ho42 (below_size (by repeat (first | (with_reducible first | exact HB.out | apply below_alloc | apply pw_below_drewN | apply below_drew1 | refine below_set ?_ GE110.out | refine below_set ?_ GE118.out) | exact HB.out))))
                                have n4_ := Aside0.mk (blk_below (g := gb110) (o := .cells #[.string t103, .string t104, .string t105, .slice Ao18 t106.length co18] 25 (0, 0)) (by (with_reducible repeat (first | refine blk_drewN ?_ _ | refine blk_drew ?_ | refine blk_alloc ?_ _)); exact BK110.out) hb)
                                have n5_ := Aside0.mk (blk_below (g := gb118) (o := .cells #[.string t111, .string t112, .string t113, .slice Ao23 t114.length co23] 25 (0, 0)) (by (with_reducible repeat (first | refine blk_drewN ?_ _ | refine blk_drew ?_ | refine blk_alloc ?_ _)); exact BK118.out) hb)
                                have n6_ := Aside0.mk (below_step (by repeat (first | (with_reducible first | exact HB.out | apply below_alloc | apply pw_below_drewN | apply below_drew1 | refine below_set ?_ GE110.out | refine below_set ?_ GE118.out) | exact HB.out)) hb)
                                clear HO_111003
                                clear HO_119003
                                clear HO121
                                clear BK110
                                clear BK118
                                clear HB
                                have HO_111003 := n0_
                                have HO_119003 := n1_
                                have HO121 := n2_
                                have HO124 := n3_
                                have BK110 := n4_
                                have BK118 := n5_
                                have HB := n6_
                                clear n0_ n1_ n2_ n3_ n4_ n5_ n6_
                                clear hb ho42
                                refine hK.out _ _ ⟨(blk_cell BK110.out 0).trans rfl, (blk_cell BK110.out 1).trans rfl, (blk_cell BK110.out 2).trans rfl, (blk_cell BK110.out 3).trans rfl⟩ (fun hHeld => ?_)
                                clear hK K
                                refine norm_ (a' := ?_) ?_ ?_
                                rotate_left
                                · show Act.put _ (some 48) _ = _
                                  simp only [Act.put, List.setIfInBounds_toArray, List.set_cons_zero, List.set_cons_succ, i64_w, i32_w]
                                  rfl
                                exact norm_ (by simp only [putAll, Act.put, List.setIfInBounds_toArray, List.set_cons_zero, List.set_cons_succ]) (hCont (v120, v123) _ ⟨hHeld, (by (with_reducible repeat (first | apply Kd.N_alloc | apply Kd.N_drewN | apply Kd.N_drew)); exact Kd.N_mono HO121.out (fun _ hk => ⟨hk.2, ⟨hk.1.1, hk.1.2⟩⟩)), (by (with_reducible repeat (first | apply Kd.N_alloc | apply Kd.N_drewN | apply Kd.N_drew)); exact HO124.out), (by (with_reducible repeat (first | apply Kd.V_alloc | apply Kd.V_drewN | apply Kd.V_drew)); exact Kd.V_mono HO_111003.out (fun _ hk => ⟨hk.1.2, ⟨hk.2, ⟨hk.1.1.1, hk.1.1.2⟩⟩⟩)), (by (with_reducible repeat (first | apply Kd.V_alloc | apply Kd.V_drewN | apply Kd.V_drew)); exact Kd.V_mono HO_119003.out (fun _ hk => ⟨hk.1.2, ⟨hk.2, ⟨hk.1.1.1, hk.1.1.2⟩⟩⟩)), (by (with_reducible repeat (first | refine blk_drewN ?_ _ | refine blk_drew ?_ | refine blk_alloc ?_ _)); exact BK110.out), (by (with_reducible repeat (first | refine blk_drewN ?_ _ | refine blk_drew ?_ | refine blk_alloc ?_ _)); exact BK118.out), (by repeat (first | (with_reducible first | exact HB.out | apply below_alloc | apply pw_below_drewN | apply below_drew1 | refine below_set ?_ GE110.out | refine below_set ?_ GE118.out) | exact HB.out))⟩)
                              · skip
                                refine Kd.N_lit_step k25 _ 25 ?hg (N' := 48) ?hd (xs := ([(⟨t103, t104, t105, t106⟩ : S25)] : List (S25))) (inner := [.string t103, .string t104, .string t105, .slice Ao18 t106.length co18]) (ok := (fun k_ => k_ ≠ gb110 ∧ k_ ≠ gb118)) (okp := (fun k_ => k_ ≠ gb110 ∧ k_ ≠ gb118)) ?hr ?hp (fun _ hk => hk) ((show ∀ k_, w39.heap.size ≤ k_ → (fun k_ => k_ ≠ gb110 ∧ k_ ≠ gb118) k_ from fun k_ hk => ⟨Kd.freshB (g := gb110) (o := .cells #[.string t103, .string t104, .string t105, .slice Ao18 t106.length co18] 25 (0, 0)) (by (with_reducible repeat (first | refine blk_drewN ?_ _ | refine blk_drew ?_ | refine blk_alloc ?_ _)); exact BK110.out) k_ hk, Kd.freshB (g := gb118) (o := .cells #[.string t111, .string t112, .string t113, .slice Ao23 t114.length co23] 25 (0, 0)) (by (with_reducible repeat (first | refine blk_drewN ?_ _ | refine blk_drew ?_ | refine blk_alloc ?_ _)); exact BK118.out) k_ hk⟩) _ (Nat.le_refl _)) (Below.refl _ _) (Nat.le_refl _) (by simp) ?_; (case hd => rfl); (case hg => rfl); (case hr => first | (go_simp; done) | (go_simp; rfl)); (case hp => exact (Reps.c4 (show Kd.FK k25 _ _ (⟨t103, t104, t105, t106⟩ : S25) [.string t103, .string t104, .string t105, .slice Ao18 t106.length co18] from (k25_mkF _ _ (⟨t103, t104, t105, t106⟩ : S25) (Kd.V_reads' (Kd.V_mono (ok' := (fun k_ => k_ ≠ gb110 ∧ k_ ≠ gb118)) (HO_111003.out) (fun k_ hk => ⟨hk.1, hk.2⟩))).2.1 (Kd.V_F (Kd.V_mono (ok' := (fun k_ => k_ ≠ gb110 ∧ k_ ≠ gb118)) (HO_111003.out) (fun k_ hk => ⟨hk.1, hk.2⟩))))) (Reps.none _ _)))
                                intro v123 w40 ho41 hb hg_ hnew_
                                clear hg_ hnew_
                                (first | rw [← Ny122.out] at ho41 | (simp only [Int.reduceToNat] at ho41; rw [← Ny122.out] at ho41))
                                have n0_ := Aside0.mk (Kd.V_elder' (by (with_reducible repeat (first | apply Kd.V_alloc | apply Kd.V_drewN | apply Kd.V_drew)); exact HO_111003.out) (Kd.N_base ho41) hb)
                                have n1_ := Aside0.mk (Kd.V_elder' (by (with_reducible repeat (first | apply Kd.V_alloc | apply Kd.V_drewN | apply Kd.V_drew)); exact HO_119003.out) (Kd.N_base ho41) hb)
                                have n2_ := Aside0.mk (Kd.N_lower ho41 (below_size (by repeat (first | (with_reducible first | exact HB.out | apply below_alloc | apply pw_below_drewN | apply below_drew1 | refine below_set ?_ GE110.out | refine below_set ?_ GE118.out) | exact HB.out))))
                                have n3_ := Aside0.mk (blk_below (g := gb110) (o := .cells #[.string t103, .string t104, .string t105, .slice Ao18 t106.length co18] 25 (0, 0)) (by (with_reducible repeat (first | refine blk_drewN ?_ _ | refine blk_drew ?_ | refine blk_alloc ?_ _)); exact BK110.out) hb)
                                have n4_ := Aside0.mk (blk_below (g := gb118) (o := .cells #[.string t111, .string t112, .string t113, .slice Ao23 t114.length co23] 25 (0, 0)) (by (with_reducible repeat (first | refine blk_drewN ?_ _ | refine blk_drew ?_ | refine blk_alloc ?_ _)); exact BK118.out) hb)
                                have n5_ := Aside0.mk (below_step (by repeat (first | (with_reducible first | exact HB.out | apply below_alloc | apply pw_below_drewN | apply below_drew1 | refine below_set ?_ GE110.out | refine below_set ?_ GE118.out) | exact HB.out)) hb)
                                clear HO_111003
                                clear HO_119003
                                clear BK110
                                clear BK118
                                clear HB
                                have HO_111003 := n0_
                                have HO_119003 := n1_
                                have HO124 := n2_
                                have BK110 := n3_
                                have BK118 := n4_
                                have HB := n5_
                                clear n0_ n1_ n2_ n3_ n4_ n5_
                                clear hb ho41
                                refine hK.out _ _ ⟨(blk_cell BK110.out 0).trans rfl, (blk_cell BK110.out 1).trans rfl, (blk_cell BK110.out 2).trans rfl, (blk_cell BK110.out 3).trans rfl⟩ (fun hHeld => ?_)
                                clear hK K
                                refine norm_ (a' := ?_) ?_ ?_
                                rotate_left
                                · show Act.put _ (some 48) _ = _
                                  simp only [Act.put, List.setIfInBounds_toArray, List.set_cons_zero, List.set_cons_succ, i64_w, i32_w]
                                  rfl
                                refine one_ (i := 1) (N := some 46) #[true, true, true, true, false, false] rfl rfl (by kernel_rfl) (by decide) (fun K hK => ?_)
                                refine goes_ Tryd.func29 (by kernel_rfl) rfl #[.slice A1 l1.length c1] (by rfl) rfl rfl (by (try simp only [List.map_toArray, List.map_cons, List.map_nil]); first | done | rfl | (simp only [List.length_drop, List.length_take]; rfl)) ?_
                                with_reducible refine (nego_TagsN.calls _ _ l1 t119 _ ?side1 ?side2 A26.out).mono ?_
                                (case side1 => repeat (first | exact (Kd.C_below HR1.out HB.out) | (with_reducible refine Kd.C_alloc ?_ _) | (with_reducible refine Kd.C_drewN ?_ _) | (with_reducible refine Kd.C_drew ?_)))
                                (case side2 => exact HC1.out)
                                rintro e w42 ⟨v120, rfl, ho0, hb⟩
                                refine ⟨_, rfl, ?_⟩
                                have n0_ := Aside0.mk (Kd.V_elder' (by (with_reducible repeat (first | apply Kd.V_alloc | apply Kd.V_drewN | apply Kd.V_drew)); exact HO_111003.out) (Kd.N_base ho0) hb)
                                have n1_ := Aside0.mk (Kd.V_elder' (by (with_reducible repeat (first | apply Kd.V_alloc | apply Kd.V_drewN | apply Kd.V_drew)); exact HO_119003.out) (Kd.N_base ho0) hb)
                                have n2_ := Aside0.mk (Kd.N_elder' (by (with_reducible repeat (first | apply Kd.N_alloc | apply Kd.N_drewN | apply Kd.N_drew)); exact HO124.out) (Kd.N_base ho0) hb)
                                have n3_ := Aside0.mk (Kd.N_lower (Kd.N_mono (ok' := fun k_ => some k_ ≠ (v123 : Value).ownBlock ∧ k_ ≠ gb110 ∧ k_ ≠ gb118) ho0 (fun k_ hk_ => ⟨(Kd.fresh' (Kd.N_lt (by (with_reducible repeat (first | apply Kd.N_alloc | apply Kd.N_drewN | apply Kd.N_drew)); exact HO124.out)) k_ hk_), (Kd.freshB (g := gb110) (o := .cells #[.string t103, .string t104, .string t105, .slice Ao18 t106.length co18] 25 (0, 0)) (by (with_reducible repeat (first | refine blk_drewN ?_ _ | refine blk_drew ?_ | refine blk_alloc ?_ _)); exact BK110.out) k_ hk_), (Kd.freshB (g := gb118) (o := .cells #[.string t111, .string t112, .string t113, .slice Ao23 t114.length co23] 25 (0, 0)) (by (with_reducible repeat (first | refine blk_drewN ?_ _ | refine blk_drew ?_ | refine blk_alloc ?_ _)); exact BK118.out) k_ hk_)⟩)) (below_size (by repeat (first | (with_reducible first | exact HB.out | apply below_alloc | apply pw_below_drewN | apply below_drew1 | refine below_set ?_ GE110.out | refine below_set ?_ GE118.out) | exact HB.out))))
                                have n4_ := Aside0.mk (blk_below (g := gb110) (o := .cells #[.string t103, .string t104, .string t105, .slice Ao18 t106.length co18] 25 (0, 0)) (by (with_reducible repeat (first | refine blk_drewN ?_ _ | refine blk_drew ?_ | refine blk_alloc ?_ _)); exact BK110.out) hb)
                                have n5_ := Aside0.mk (blk_below (g := gb118) (o := .cells #[.string t111, .string t112, .string t113, .slice Ao23 t114.length co23] 25 (0, 0)) (by (with_reducible repeat (first | refine blk_drewN ?_ _ | refine blk_drew ?_ | refine blk_alloc ?_ _)); exact BK118.out) hb)
                                have n6_ := Aside0.mk (below_step (by repeat (first | (with_reducible first | exact HB.out | apply below_alloc | apply pw_below_drewN | apply below_drew1 | refine below_set ?_ GE110.out | refine below_set ?_ GE118.out) | exact HB.out)) hb)
                                clear HO_111003
                                clear HO_119003
                                clear HO124
                                clear BK110
                                clear BK118
                                clear HB
                                have HO_111003 := n0_
                                have HO_119003 := n1_
                                have HO124 := n2_
                                have HO121 := n3_
                                have BK110 := n4_
                                have BK118 := n5_
                                have HB := n6_
                                clear n0_ n1_ n2_ n3_ n4_ n5_ n6_
                                (try clear hb)
                                (try clear hb2)
                                (try clear hk)
                                (try clear hi)
                                (try clear ho0)
                                refine hK.out _ _ ⟨(blk_cell BK110.out 0).trans rfl, (blk_cell BK110.out 1).trans rfl, (blk_cell BK110.out 2).trans rfl, (blk_cell BK110.out 3).trans rfl⟩ (fun hHeld => ?_)
                                clear hK K
                                refine norm_ (a' := ?_) ?_ ?_
                                rotate_left
                                · show Act.put _ (some 46) _ = _
                                  simp only [Act.put, List.setIfInBounds_toArray, List.set_cons_zero, List.set_cons_succ, i64_w, i32_w]
                                  rfl
                                exact norm_ (by simp only [putAll, Act.put, List.setIfInBounds_toArray, List.set_cons_zero, List.set_cons_succ]) (hCont (v120, v123) _ ⟨hHeld, (by (with_reducible repeat (first | apply Kd.N_alloc | apply Kd.N_drewN | apply Kd.N_drew)); exact HO121.out), (by (with_reducible repeat (first | apply Kd.N_alloc | apply Kd.N_drewN | apply Kd.N_drew)); exact Kd.N_mono HO124.out (fun _ hk => ⟨hk.2, ⟨hk.1.1, hk.1.2⟩⟩)), (by (with_reducible repeat (first | apply Kd.V_alloc | apply Kd.V_drewN | apply Kd.V_drew)); exact Kd.V_mono HO_111003.out (fun _ hk => ⟨hk.2, ⟨hk.1.2, ⟨hk.1.1.1, hk.1.1.2⟩⟩⟩)), (by (with_reducible repeat (first | apply Kd.V_alloc | apply Kd.V_drewN | apply Kd.V_drew)); exact Kd.V_mono HO_119003.out (fun _ hk => ⟨hk.2, ⟨hk.1.2, ⟨hk.1.1.1, hk.1.1.2⟩⟩⟩)), (by (with_reducible repeat (first | refine blk_drewN ?_ _ | refine blk_drew ?_ | refine blk_alloc ?_ _)); exact BK110.out), (by (with_reducible repeat (first | refine blk_drewN ?_ _ | refine blk_drew ?_ | refine blk_alloc ?_ _)); exact BK118.out), (by repeat (first | (with_reducible first | exact HB.out | apply below_alloc | apply pw_below_drewN | apply below_drew1 | refine below_set ?_ GE110.out | refine below_set ?_ GE118.out) | exact HB.out))⟩)
                            rintro ⟨v120, v123⟩ w43 ⟨hS_, h0_, h1_, h2_, h3_, h4_, h5_, h6_⟩
                            have n0_ : Aside0 (Kd.N k25 25 w43 w.heap.size (fun k_ => some k_ ≠ (v123 : Value).ownBlock ∧ k_ ≠ gb110 ∧ k_ ≠ gb118) v120 t119) := ⟨h0_⟩
                            have n1_ : Aside0 (Kd.N k25 25 w43 w.heap.size (fun k_ => some k_ ≠ (v120 : Value).ownBlock ∧ k_ ≠ gb110 ∧ k_ ≠ gb118) v123 y122) := ⟨h1_⟩
                            have n2_ : Aside0 (Kd.V Kd.string 9 w43 w.heap.size (fun k_ => some k_ ≠ (v120 : Value).ownBlock ∧ some k_ ≠ (v123 : Value).ownBlock ∧ k_ ≠ gb110 ∧ k_ ≠ gb118) (.slice Ao18 t106.length co18) t106) := ⟨h2_⟩
                            have n3_ : Aside0 (Kd.V Kd.string 9 w43 w.heap.size (fun k_ => some k_ ≠ (v120 : Value).ownBlock ∧ some k_ ≠ (v123 : Value).ownBlock ∧ k_ ≠ gb110 ∧ k_ ≠ gb118) (.slice Ao23 t114.length co23) t114) := ⟨h3_⟩
                            have n4_ : Aside0 (w43.heap[gb110]? = some (.cells #[.string t103, .string t104, .string t105, .slice Ao18 t106.length co18] 25 (0, 0))) := ⟨h4_⟩
                            have n5_ : Aside0 (w43.heap[gb118]? = some (.cells #[.string t111, .string t112, .string t113, .slice Ao23 t114.length co23] 25 (0, 0))) := ⟨h5_⟩
                            have n6_ : Aside0 (Below w.heap.size w w43) := ⟨h6_⟩
                            clear HO_111003
                            clear HO_119003
                            clear BK110
                            clear BK118
                            clear HB
                            clear h0_ h1_ h2_ h3_ h4_ h5_ h6_
                            have HO121 := n0_
                            have HO124 := n1_
                            have HO_111003 := n2_
                            have HO_119003 := n3_
                            have BK110 := n4_
                            have BK118 := n5_
                            have HB := n6_
                            clear n0_ n1_ n2_ n3_ n4_ n5_ n6_
                            have hHeld : w43.cell? ⟨gb110, 0, none⟩ = some (.string t103) ∧ w43.cell? ⟨gb110, 1, none⟩ = some (.string t104) ∧ w43.cell? ⟨gb110, 2, none⟩ = some (.string t105) ∧ w43.cell? ⟨gb110, 3, none⟩ = some (.slice Ao18 t106.length co18) := hS_
                            obtain ⟨Ao45, co45, eo45⟩ := Kd.N_slice HO124.out
                            (first | subst eo45 | (injection eo45 with f1_ f2_ f3_; have f4_ := f1_.symm; have f5_ := f3_.symm; clear f1_ f2_ f3_; subst f4_; subst f5_))
                            refine norm_ (a' := ?_) ?_ ?_
                            rotate_left
                            · simp only [putAll, Act.put, List.setIfInBounds_toArray, List.set_cons_zero, List.set_cons_succ]
                              rfl
                            refine one_ (i := 4) (N := some 49) #[true, true, true, true, true, false] rfl rfl (by kernel_rfl) (by decide) (fun K hK => ?_)
                            refine Kd.N_append_rows_step k25 (w0 := w) w.heap.size (by rfl) (.tmp 46) (.tmp 48) 45 25 (.agg #[(.string ⟨#[]⟩), (.string ⟨#[]⟩), (.string ⟨#[]⟩), (.slice none 0 0)]) 72 rfl Tryd.underlying45 info25 rfl (by decide) (by omega) v120 t119 y122 _ _ _ (fun k_ => k_ ≠ gb110 ∧ k_ ≠ gb118) (fun k_ => ((fun k_ => k_ ≠ gb110 ∧ k_ ≠ gb118)) k_ ∧ some k_ ≠ (v120 : Value).ownBlock) rfl rfl ?aO ?aR (fun _ hk => hk) ?aF ?aB ?aS ?aL ?_
                            (case aR => exact (by skip; exact Kd.N_F (Kd.N_mono (ok' := (fun k_ => ((fun k_ => k_ ≠ gb110 ∧ k_ ≠ gb118)) k_ ∧ some k_ ≠ (v120 : Value).ownBlock)) (HO124.out) (fun k_ hk => ⟨⟨hk.2.1, hk.2.2⟩, hk.1⟩))))
                            (case aB => exact (by repeat (first | (with_reducible first | exact HB.out | apply below_alloc | apply pw_below_drewN | apply below_drew1 | refine below_set ?_ GE110.out | refine below_set ?_ GE118.out) | exact HB.out)))
                            (case aF => exact (fun k_ hk => ⟨Kd.freshB (g := gb110) (o := .cells #[.string t103, .string t104, .string t105, .slice Ao18 t106.length co18] 25 (0, 0)) (by (with_reducible repeat (first | refine blk_drewN ?_ _ | refine blk_drew ?_ | refine blk_alloc ?_ _)); exact BK110.out) k_ hk, Kd.freshB (g := gb118) (o := .cells #[.string t111, .string t112, .string t113, .slice Ao23 t114.length co23] 25 (0, 0)) (by (with_reducible repeat (first | refine blk_drewN ?_ _ | refine blk_drew ?_ | refine blk_alloc ?_ _)); exact BK118.out) k_ hk⟩))
                            (case aO => exact (by (with_reducible repeat (first | apply Kd.N_alloc | apply Kd.N_drewN | apply Kd.N_drew)); exact Kd.N_mono HO121.out (fun _ hk => ⟨hk.2.1, hk.2.2⟩)))
                            (case aS => exact (below_size (by repeat (first | (with_reducible first | exact HB.out | apply below_alloc | apply pw_below_drewN | apply below_drew1 | refine below_set ?_ GE110.out | refine below_set ?_ GE118.out) | exact HB.out))))
                            (case aL => have := LMc27.out; omega)
                            intro v126 w44 ho hb hg hat
                            rw [← Ny125.out] at ho
                            have n0_ := Aside0.mk (Kd.V_afterv (ok := (fun k_ => some k_ ≠ (.slice Ao45 y122.length co45 : Value).ownBlock ∧ k_ ≠ gb110 ∧ k_ ≠ gb118)) (by (with_reducible repeat (first | apply Kd.V_alloc | apply Kd.V_drewN | apply Kd.V_drew)); exact Kd.V_mono HO_111003.out (fun _ hk => ⟨⟨hk.2.1, ⟨hk.2.2.1, hk.2.2.2⟩⟩, hk.1⟩)) hg hat)
                            have n1_ := Aside0.mk (Kd.V_afterv (ok := (fun k_ => some k_ ≠ (.slice Ao45 y122.length co45 : Value).ownBlock ∧ k_ ≠ gb110 ∧ k_ ≠ gb118)) (by (with_reducible repeat (first | apply Kd.V_alloc | apply Kd.V_drewN | apply Kd.V_drew)); exact Kd.V_mono HO_119003.out (fun _ hk => ⟨⟨hk.2.1, ⟨hk.2.2.1, hk.2.2.2⟩⟩, hk.1⟩)) hg hat)
                            have n2_ := Aside0.mk (blk_grown (g := gb110) (o := .cells #[.string t103, .string t104, .string t105, .slice Ao18 t106.length co18] 25 (0, 0)) (by (with_reducible repeat (first | refine blk_drewN ?_ _ | refine blk_drew ?_ | refine blk_alloc ?_ _)); exact BK110.out) hg (Kd.N_away HO121.out (fun _ hk => hk.2.1)))
                            have n3_ := Aside0.mk (blk_grown (g := gb118) (o := .cells #[.string t111, .string t112, .string t113, .slice Ao23 t114.length co23] 25 (0, 0)) (by (with_reducible repeat (first | refine blk_drewN ?_ _ | refine blk_drew ?_ | refine blk_alloc ?_ _)); exact BK118.out) hg (Kd.N_away HO121.out (fun _ hk => hk.2.2)))
                            have n4_ := Aside0.mk (Kd.N_afterv (ok := (fun k_ => k_ ≠ gb110 ∧ k_ ≠ gb118)) (by (with_reducible repeat (first | apply Kd.N_alloc | apply Kd.N_drewN | apply Kd.N_drew)); exact Kd.N_mono HO124.out (fun _ hk => ⟨⟨hk.2.1, hk.2.2⟩, hk.1⟩)) hg hat)
                            have n5_ := Aside0.mk (hb)
                            have n6_ := Aside0.mk (ho)
                            clear HO_111003
                            clear HO_119003
                            clear BK110
                            clear BK118
                            clear HO124
                            clear HB
                            clear HO121
                            have HO_111003 := n0_
                            have HO_119003 := n1_
                            have BK110 := n2_
                            have BK118 := n3_
                            have HO124 := n4_
                            have HB := n5_
                            have HO127 := n6_
                            clear n0_ n1_ n2_ n3_ n4_ n5_ n6_
                            clear ho hb hg hat
                            refine hK.out _ _ ⟨(blk_cell BK110.out 0).trans rfl, (blk_cell BK110.out 1).trans rfl, (blk_cell BK110.out 2).trans rfl, (blk_cell BK110.out 3).trans rfl⟩ (fun hHeld => ?_)
                            clear hK K
                            refine norm_ (a' := ?_) ?_ ?_
                            rotate_left
                            · show Act.put _ (some 49) _ = _
                              simp only [Act.put, List.setIfInBounds_toArray, List.set_cons_zero, List.set_cons_succ, i64_w, i32_w]
                              rfl
                            refine pure_ (i := 5) (N := some 11) (v := ?_) (a' := ?_) #[true, true, true, true, true, true] rfl rfl (by kernel_rfl) (fun _ _ _ h => h) (Or.inl ⟨by rfl, ?_⟩) ?_ ?_
                            rotate_left
                            · intro w'
                              go_simp
                              with_reducible rfl
                            rotate_left
                            · simp only [Act.put, List.setIfInBounds_toArray, List.set_cons_zero, List.set_cons_succ, i64_w, i32_w]
                              rfl
                            refine done_ (by kernel_rfl) ?_
                            have hnb46 := NB110_118.out
                            have hnc46 := NB118_110.out
                            have hcz47_0 : w44.cell? ⟨gb110, 0, none⟩ = some (.string t103) := (blk_cell BK110.out 0).trans rfl
                            have hcz47_1 : w44.cell? ⟨gb110, 1, none⟩ = some (.string t104) := (blk_cell BK110.out 1).trans rfl
                            have hcz47_2 : w44.cell? ⟨gb110, 2, none⟩ = some (.string t105) := (blk_cell BK110.out 2).trans rfl
                            have hcz47_3 : w44.cell? ⟨gb110, 3, none⟩ = some (.slice Ao18 t106.length co18) := (blk_cell BK110.out 3).trans rfl
                            have hfz47_0 := blk_frozen BK110.out 0
                            have hfz47_1 := blk_frozen BK110.out 1
                            have hfz47_2 := blk_frozen BK110.out 2
                            have hfz47_3 := blk_frozen BK110.out 3
                            try go_wp2_with (first | ((with_reducible refine gate_dst (N := 51) rfl ?_); (try (refine gate_guard (by rfl) ?_; dsimp only)); refine Kd.N_lit k25 _ 25 ?hg (N' := 51) ?hd (xs := ([(⟨t103, t104, t105, t106⟩ : S25)] : List (S25))) (inner := [.string t103, .string t104, .string t105, .slice Ao18 t106.length co18]) (ok := (fun k_ => some k_ ≠ (.slice Ao45 y122.length co45 : Value).ownBlock ∧ some k_ ≠ (v126 : Value).ownBlock ∧ k_ ≠ gb110 ∧ k_ ≠ gb118)) (okp := (fun k_ => some k_ ≠ (.slice Ao45 y122.length co45 : Value).ownBlock ∧ some k_ ≠ (v126 : Value).ownBlock ∧ k_ ≠ gb110 ∧ k_ ≠ gb118)) ?hr ?hp (fun _ hk => hk) ((show ∀ k_, w44.heap.size ≤ k_ → (fun k_ => some k_ ≠ (.slice Ao45 y122.length co45 : Value).ownBlock ∧ some k_ ≠ (v126 : Value).ownBlock ∧ k_ ≠ gb110 ∧ k_ ≠ gb118) k_ from fun k_ hk => ⟨Kd.fresh' (Kd.N_lt (by (with_reducible repeat (first | apply Kd.N_alloc | apply Kd.N_drewN | apply Kd.N_drew)); exact HO124.out)) k_ hk, Kd.fresh' (Kd.N_lt (by (with_reducible repeat (first | apply Kd.N_alloc | apply Kd.N_drewN | apply Kd.N_drew)); exact HO127.out)) k_ hk, Kd.freshB (g := gb110) (o := .cells #[.string t103, .string t104, .string t105, .slice Ao18 t106.length co18] 25 (0, 0)) (by (with_reducible repeat (first | refine blk_drewN ?_ _ | refine blk_drew ?_ | refine blk_alloc ?_ _)); exact BK110.out) k_ hk, Kd.freshB (g := gb118) (o := .cells #[.string t111, .string t112, .string t113, .slice Ao23 t114.length co23] 25 (0, 0)) (by (with_reducible repeat (first | refine blk_drewN ?_ _ | refine blk_drew ?_ | refine blk_alloc ?_ _)); exact BK118.out) k_ hk⟩) _ (Nat.le_refl _)) (Below.refl _ _) (Nat.le_refl _) (by simp) ?_; (case hd => rfl); (case hg => rfl); (case hr => first | (go_simp; done) | (go_simp; rfl)); (case hp => exact (Reps.c4 (show Kd.FK k25 _ _ (⟨t103, t104, t105, t106⟩ : S25) [.string t103, .string t104, .string t105, .slice Ao18 t106.length co18] from (k25_mkF _ _ (⟨t103, t104, t105, t106⟩ : S25) (Kd.V_reads' (Kd.V_mono (ok' := (fun k_ => some k_ ≠ (.slice Ao45 y122.length co45 : Value).ownBlock ∧ some k_ ≠ (v126 : Value).ownBlock ∧ k_ ≠ gb110 ∧ k_ ≠ gb118)) (HO_111003.out) (fun k_ hk => ⟨hk.1.1, ⟨hk.2, ⟨hk.1.2.1, hk.1.2.2⟩⟩⟩))).2.1 (Kd.V_F (Kd.V_mono (ok' := (fun k_ => some k_ ≠ (.slice Ao45 y122.length co45 : Value).ownBlock ∧ some k_ ≠ (v126 : Value).ownBlock ∧ k_ ≠ gb110 ∧ k_ ≠ gb118)) (HO_111003.out) (fun k_ hk => ⟨hk.1.1, ⟨hk.2, ⟨hk.1.2.1, hk.1.2.2⟩⟩⟩))))) (Reps.none _ _))); intro v129 w48 ho49 hb hg_ hnew_; clear hg_ hnew_; (first | rw [← Ny128.out] at ho49 | (simp only [Int.reduceToNat] at ho49; rw [← Ny128.out] at ho49)); have n0_ := Aside0.mk (Kd.V_elder' (by (with_reducible repeat (first | apply Kd.V_alloc | apply Kd.V_drewN | apply Kd.V_drew)); exact HO_111003.out) (Kd.N_base ho49) hb); have n1_ := Aside0.mk (Kd.V_elder' (by (with_reducible repeat (first | apply Kd.V_alloc | apply Kd.V_drewN | apply Kd.V_drew)); exact HO_119003.out) (Kd.N_base ho49) hb); have n2_ := Aside0.mk (Kd.N_elder' (by (with_reducible repeat (first | apply Kd.N_alloc | apply Kd.N_drewN | apply Kd.N_drew)); exact HO124.out) (Kd.N_base ho49) hb); have n3_ := Aside0.mk (Kd.N_elder' (by (with_reducible repeat (first | apply Kd.N_alloc | apply Kd.N_drewN | apply Kd.N_drew)); exact HO127.out) (Kd.N_base ho49) hb); have n4_ := Aside0.mk (Kd.N_lower ho49 (below_size (by repeat (first | (with_reducible first | exact HB.out | apply below_alloc | apply pw_below_drewN | apply below_drew1 | refine below_set ?_ GE110.out | refine below_set ?_ GE118.out) | exact HB.out)))); have n5_ := Aside0.mk (blk_below (g := gb110) (o := .cells #[.string t103, .string t104, .string t105, .slice Ao18 t106.length co18] 25 (0, 0)) (by (with_reducible repeat (first | refine blk_drewN ?_ _ | refine blk_drew ?_ | refine blk_alloc ?_ _)); exact BK110.out) hb); have n6_ := Aside0.mk (blk_below (g := gb118) (o := .cells #[.string t111, .string t112, .string t113, .slice Ao23 t114.length co23] 25 (0, 0)) (by (with_reducible repeat (first | refine blk_drewN ?_ _ | refine blk_drew ?_ | refine blk_alloc ?_ _)); exact BK118.out) hb); have n7_ := Aside0.mk (below_step (by repeat (first | (with_reducible first | exact HB.out | apply below_alloc | apply pw_below_drewN | apply below_drew1 | refine below_set ?_ GE110.out | refine below_set ?_ GE118.out) | exact HB.out)) hb); clear HO_111003; clear HO_119003; clear HO124; clear HO127; clear BK110; clear BK118; clear HB; have HO_111003 := n0_; have HO_119003 := n1_; have HO124 := n2_; have HO127 := n3_; have HO130 := n4_; have BK110 := n5_; have BK118 := n6_; have HB := n7_; clear n0_ n1_ n2_ n3_ n4_ n5_ n6_ n7_; clear hb ho49; have hcz50_0 : w48.cell? ⟨gb118, 0, none⟩ = some (.string t111) := (blk_cell BK118.out 0).trans rfl; have hcz50_1 : w48.cell? ⟨gb118, 1, none⟩ = some (.string t112) := (blk_cell BK118.out 1).trans rfl; have hcz50_2 : w48.cell? ⟨gb118, 2, none⟩ = some (.string t113) := (blk_cell BK118.out 2).trans rfl; have hcz50_3 : w48.cell? ⟨gb118, 3, none⟩ = some (.slice Ao23 t114.length co23) := (blk_cell BK118.out 3).trans rfl; have hfz50_0 := blk_frozen BK118.out 0; have hfz50_1 := blk_frozen BK118.out 1; have hfz50_2 := blk_frozen BK118.out 2; have hfz50_3 := blk_frozen BK118.out 3; obtain ⟨Ao51, co51, eo51⟩ := Kd.N_slice HO130.out; subst eo51; obtain ⟨Ao52, co52, eo52⟩ := Kd.N_slice HO127.out; subst eo52) | ((with_reducible refine gate_callee (f := 33) rfl ?_); refine goesL_ (some 54) rfl rfl Tryd.func33 (by kernel_rfl) rfl #[.slice Ao51 y128.length co51, .slice Ao52 y125.length co52, .agg #[.string t111, .string t112, .string t113, .slice Ao23 t114.length co23]] rfl (by (try simp only [List.map_toArray, List.map_cons, List.map_nil]); first | done | rfl | (simp only [List.length_drop, List.length_take]; rfl)) ?_; (with_reducible refine (nego_Chain.calls (fun k_ => (some k_ ≠ (.slice Ao45 y122.length co45 : Value).ownBlock ∧ (some k_ ≠ (.slice Ao52 y125.length co52 : Value).ownBlock ∧ (k_ ≠ gb110 ∧ k_ ≠ gb118)))) _ _ y128 (fun k_ => ((k_ ≠ gb110 ∧ k_ ≠ gb118) ∧ some k_ ≠ (.slice Ao51 y128.length co51 : Value).ownBlock)) _ _ y125 t111 t112 t113 (fun k_ => (((some k_ ≠ (.slice Ao45 y122.length co45 : Value).ownBlock ∧ (k_ ≠ gb110 ∧ k_ ≠ gb118)) ∧ some k_ ≠ (.slice Ao52 y125.length co52 : Value).ownBlock) ∧ some k_ ≠ (.slice Ao51 y128.length co51 : Value).ownBlock)) _ _ t114 t131 _ ?side1 ?side2 ?side3 A28.out).mono ?_); (case side1 => exact Kd.N_V (HO130.out)); (case side2 => exact Kd.N_V (HO127.out)); (case side3 => exact HO_119003.out); rintro e w53 ⟨v132, rfl, ho0, hb⟩; refine ⟨_, rfl, ?_⟩; have n0_ := Aside0.mk (Kd.V_below (by (with_reducible repeat (first | apply Kd.V_alloc | apply Kd.V_drewN | apply Kd.V_drew)); exact HO_111003.out) hb); have n1_ := Aside0.mk (Kd.V_below (by (with_reducible repeat (first | apply Kd.V_alloc | apply Kd.V_drewN | apply Kd.V_drew)); exact HO_119003.out) hb); have n2_ := Aside0.mk (Kd.N_below (by (with_reducible repeat (first | apply Kd.N_alloc | apply Kd.N_drewN | apply Kd.N_drew)); exact HO124.out) hb); have n3_ := Aside0.mk (Kd.N_below (by (with_reducible repeat (first | apply Kd.N_alloc | apply Kd.N_drewN | apply Kd.N_drew)); exact HO127.out) hb); have n4_ := Aside0.mk (Kd.N_below (by (with_reducible repeat (first | apply Kd.N_alloc | apply Kd.N_drewN | apply Kd.N_drew)); exact HO130.out) hb); have n5_ := Aside0.mk (Kd.V_lower (Kd.V_mono (ok' := fun k_ => k_ ≠ gb110 ∧ k_ ≠ gb118) ho0 (fun k_ hk_ => ⟨Or.elim hk_ (fun hs_ => Or.elim hs_ (fun hs_ => hs_.2.2.1) (fun hs_ => Or.elim hs_ (fun hs_ => hs_.1.1) (fun hs_ => hs_.1.1.2.1))) (fun hn_ => (Kd.freshB (g := gb110) (o := .cells #[.string t103, .string t104, .string t105, .slice Ao18 t106.length co18] 25 (0, 0)) (by (with_reducible repeat (first | refine blk_drewN ?_ _ | refine blk_drew ?_ | refine blk_alloc ?_ _)); exact BK110.out) k_ hn_)), Or.elim hk_ (fun hs_ => Or.elim hs_ (fun hs_ => hs_.2.2.2) (fun hs_ => Or.elim hs_ (fun hs_ => hs_.1.2) (fun hs_ => hs_.1.1.2.2))) (fun hn_ => (Kd.freshB (g := gb118) (o := .cells #[.string t111, .string t112, .string t113, .slice Ao23 t114.length co23] 25 (0, 0)) (by (with_reducible repeat (first | refine blk_drewN ?_ _ | refine blk_drew ?_ | refine blk_alloc ?_ _)); exact BK118.out) k_ hn_))⟩)) (below_size (by repeat (first | (with_reducible first | exact HB.out | apply below_alloc | apply pw_below_drewN | apply below_drew1 | refine below_set ?_ GE110.out | refine below_set ?_ GE118.out) | exact HB.out)))); have n6_ := Aside0.mk (blk_below (g := gb110) (o := .cells #[.string t103, .string t104, .string t105, .slice Ao18 t106.length co18] 25 (0, 0)) (by (with_reducible repeat (first | refine blk_drewN ?_ _ | refine blk_drew ?_ | refine blk_alloc ?_ _)); exact BK110.out) hb); have n7_ := Aside0.mk (blk_below (g := gb118) (o := .cells #[.string t111, .string t112, .string t113, .slice Ao23 t114.length co23] 25 (0, 0)) (by (with_reducible repeat (first | refine blk_drewN ?_ _ | refine blk_drew ?_ | refine blk_alloc ?_ _)); exact BK118.out) hb); have n8_ := Aside0.mk (below_step (by repeat (first | (with_reducible first | exact HB.out | apply below_alloc | apply pw_below_drewN | apply below_drew1 | refine below_set ?_ GE110.out | refine below_set ?_ GE118.out) | exact HB.out)) hb); clear HO_111003; clear HO_119003; clear HO124; clear HO127; clear HO130; clear BK110; clear BK118; clear HB; have HO_111003 := n0_; have HO_119003 := n1_; have HO124 := n2_; have HO127 := n3_; have HO130 := n4_; have HO133 := n5_; have BK110 := n6_; have BK118 := n7_; have HB := n8_; clear n0_ n1_ n2_ n3_ n4_ n5_ n6_ n7_ n8_; (try clear hb); (try clear hb2); (try clear hk); (try clear hi); (try clear ho0); have hcz54_0 : w53.cell? ⟨gb118, 0, none⟩ = some (.string t111) := (blk_cell BK118.out 0).trans rfl; have hcz54_1 : w53.cell? ⟨gb118, 1, none⟩ = some (.string t112) := (blk_cell BK118.out 1).trans rfl; have hcz54_2 : w53.cell? ⟨gb118, 2, none⟩ = some (.string t113) := (blk_cell BK118.out 2).trans rfl; have hcz54_3 : w53.cell? ⟨gb118, 3, none⟩ = some (.slice Ao23 t114.length co23) := (blk_cell BK118.out 3).trans rfl; have hfz54_0 := blk_frozen BK118.out 0; have hfz54_1 := blk_frozen BK118.out 1; have hfz54_2 := blk_frozen BK118.out 2; have hfz54_3 := blk_frozen BK118.out 3) | ((with_reducible refine gate_callee (f := 33) rfl ?_); refine goesL_ (some 57) rfl rfl Tryd.func33 (by kernel_rfl) rfl #[.slice none 0 0, .slice Ao52 y125.length co52, .agg #[.string t111, .string t112, .string t113, .slice Ao23 t114.length co23]] rfl (by (try simp only [List.map_toArray, List.map_cons, List.map_nil]); first | done | rfl | (simp only [List.length_drop, List.length_take]; rfl)) ?_; (refine (nego_Chain.calls (fun k_ => False) _ _ ([] : List (S25)) (fun k_ => ((k_ ≠ gb110 ∧ k_ ≠ gb118) ∧ some k_ ≠ (.slice Ao51 y128.length co51 : Value).ownBlock)) _ _ y125 t111 t112 t113 (fun k_ => (((some k_ ≠ (.slice Ao45 y122.length co45 : Value).ownBlock ∧ (k_ ≠ gb110 ∧ k_ ≠ gb118)) ∧ some k_ ≠ (.slice Ao52 y125.length co52 : Value).ownBlock) ∧ some k_ ≠ (.slice Ao51 y128.length co51 : Value).ownBlock)) _ _ t114 t134 _ ?side1 ?side2 ?side3 A29.out).mono ?_); (case side1 => exact Kd.V_nil _ _ _ _ _); (case side2 => exact Kd.N_V (HO127.out)); (case side3 => exact HO_119003.out); rintro e w55 ⟨v135, rfl, ho0, hb⟩; refine ⟨_, rfl, ?_⟩; have n0_ := Aside0.mk (Kd.V_below (by (with_reducible repeat (first | apply Kd.V_alloc | apply Kd.V_drewN | apply Kd.V_drew)); exact HO_111003.out) hb); have n1_ := Aside0.mk (Kd.V_below (by (with_reducible repeat (first | apply Kd.V_alloc | apply Kd.V_drewN | apply Kd.V_drew)); exact HO_119003.out) hb); have n2_ := Aside0.mk (Kd.N_below (by (with_reducible repeat (first | apply Kd.N_alloc | apply Kd.N_drewN | apply Kd.N_drew)); exact HO124.out) hb); have n3_ := Aside0.mk (Kd.N_below (by (with_reducible repeat (first | apply Kd.N_alloc | apply Kd.N_drewN | apply Kd.N_drew)); exact HO127.out) hb); have n4_ := Aside0.mk (Kd.N_below (by (with_reducible repeat (first | apply Kd.N_alloc | apply Kd.N_drewN | apply Kd.N_drew)); exact HO130.out) hb); have n5_ := Aside0.mk (Kd.V_below (by (with_reducible repeat (first | apply Kd.V_alloc | apply Kd.V_drewN | apply Kd.V_drew)); exact HO133.out) hb); have n6_ := Aside0.mk (Kd.V_lower (Kd.V_mono (ok' := fun k_ => some k_ ≠ (.slice Ao51 y128.length co51 : Value).ownBlock ∧ k_ ≠ gb110 ∧ k_ ≠ gb118) ho0 (fun k_ hk_ => ⟨Or.elim hk_ (fun hs_ => Or.elim hs_ (fun hs_ => (hs_).elim) (fun hs_ => Or.elim hs_ (fun hs_ => hs_.2) (fun hs_ => hs_.2))) (fun hn_ => (Kd.fresh' (Kd.N_lt (by (with_reducible repeat (first | apply Kd.N_alloc | apply Kd.N_drewN | apply Kd.N_drew)); exact HO130.out)) k_ hn_)), Or.elim hk_ (fun hs_ => Or.elim hs_ (fun hs_ => (hs_).elim) (fun hs_ => Or.elim hs_ (fun hs_ => hs_.1.1) (fun hs_ => hs_.1.1.2.1))) (fun hn_ => (Kd.freshB (g := gb110) (o := .cells #[.string t103, .string t104, .string t105, .slice Ao18 t106.length co18] 25 (0, 0)) (by (with_reducible repeat (first | refine blk_drewN ?_ _ | refine blk_drew ?_ | refine blk_alloc ?_ _)); exact BK110.out) k_ hn_)), Or.elim hk_ (fun hs_ => Or.elim hs_ (fun hs_ => (hs_).elim) (fun hs_ => Or.elim hs_ (fun hs_ => hs_.1.2) (fun hs_ => hs_.1.1.2.2))) (fun hn_ => (Kd.freshB (g := gb118) (o := .cells #[.string t111, .string t112, .string t113, .slice Ao23 t114.length co23] 25 (0, 0)) (by (with_reducible repeat (first | refine blk_drewN ?_ _ | refine blk_drew ?_ | refine blk_alloc ?_ _)); exact BK118.out) k_ hn_))⟩)) (below_size (by repeat (first | (with_reducible first | exact HB.out | apply below_alloc | apply pw_below_drewN | apply below_drew1 | refine below_set ?_ GE110.out | refine below_set ?_ GE118.out) | exact HB.out)))); have n7_ := Aside0.mk (blk_below (g := gb110) (o := .cells #[.string t103, .string t104, .string t105, .slice Ao18 t106.length co18] 25 (0, 0)) (by (with_reducible repeat (first | refine blk_drewN ?_ _ | refine blk_drew ?_ | refine blk_alloc ?_ _)); exact BK110.out) hb); have n8_ := Aside0.mk (blk_below (g := gb118) (o := .cells #[.string t111, .string t112, .string t113, .slice Ao23 t114.length co23] 25 (0, 0)) (by (with_reducible repeat (first | refine blk_drewN ?_ _ | refine blk_drew ?_ | refine blk_alloc ?_ _)); exact BK118.out) hb); have n9_ := Aside0.mk (below_step (by repeat (first | (with_reducible first | exact HB.out | apply below_alloc | apply pw_below_drewN | apply below_drew1 | refine below_set ?_ GE110.out | refine below_set ?_ GE118.out) | exact HB.out)) hb); clear HO_111003; clear HO_119003; clear HO124; clear HO127; clear HO130; clear HO133; clear BK110; clear BK118; clear HB; have HO_111003 := n0_; have HO_119003 := n1_; have HO124 := n2_; have HO127 := n3_; have HO130 := n4_; have HO133 := n5_; have HO136 := n6_; have BK110 := n7_; have BK118 := n8_; have HB := n9_; clear n0_ n1_ n2_ n3_ n4_ n5_ n6_ n7_ n8_ n9_; (try clear hb); (try clear hb2); (try clear hk); (try clear hi); (try clear ho0)))
                            have n0_ := Aside0.mk (Kd.V_drew HO_111003.out)
                            have n1_ := Aside0.mk (Kd.V_drew HO_119003.out)
                            have n2_ := Aside0.mk (Kd.N_drew HO124.out)
                            have n3_ := Aside0.mk (Kd.N_drew HO127.out)
                            have n4_ := Aside0.mk (Kd.N_drew HO130.out)
                            have n5_ := Aside0.mk (Kd.V_drew HO133.out)
                            have n6_ := Aside0.mk (Kd.V_drew HO136.out)
                            have n7_ := Aside0.mk (blk_drew BK110.out)
                            have n8_ := Aside0.mk (blk_drew BK118.out)
                            have n9_ := Aside0.mk (below_drew1 HB.out)
                            clear HO_111003
                            clear HO_119003
                            clear HO124
                            clear HO127
                            clear HO130
                            clear HO133
                            clear HO136
                            clear BK110
                            clear BK118
                            clear HB
                            have HO_111003 := n0_
                            have HO_119003 := n1_
                            have HO124 := n2_
                            have HO127 := n3_
                            have HO130 := n4_
                            have HO133 := n5_
                            have HO136 := n6_
                            have BK110 := n7_
                            have BK118 := n8_
                            have HB := n9_
                            clear n0_ n1_ n2_ n3_ n4_ n5_ n6_ n7_ n8_ n9_
                            obtain ⟨Ao57, co57, eo57⟩ := Kd.V_slice HO133.out
                            (first | subst eo57 | (injection eo57 with f1_ f2_ f3_; have f4_ := f1_.symm; have f5_ := f3_.symm; clear f1_ f2_ f3_; subst f4_; subst f5_))
                            have p137 : 0 ≤ (0 : Int) := (by omega)
                            have q137 : 0 < (t131.length : Int) := of_decide_eq_true (by first | (with_reducible assumption) | assumption)
                            obtain ⟨ad137, A137_3, c137_3, e137, hx137_0, hx137_1, hx137_2, hx137_3, hl137_3, hi137_3⟩ := at_T25 (Kd.V_reads' HO133.out).2.2 0 p137 q137
                            cases e137
                            obtain ⟨ce137, hce137, hMe137, hcc137⟩ := Kd.V_get HO133.out z25 0 p137 (by first | exact q137 | exact of_decide_eq_true (by first | (with_reducible assumption) | assumption) | (have e_ := (Kd.V_reads' HO133.out).1; omega))
                            obtain ⟨ua137_3, uc137_3, rfl, ul137_3, ge137_3⟩ := k25_openF hMe137
                            have hv137_3 := hcc137 3 _ rfl
                            rw [add_field _ _ 3 (by omega)] at hv137_3
                            replace hv137_3 := Option.some.inj (hv137_3.symm.trans hx137_3)
                            injection hv137_3 with hva_ hvn_ hvc_
                            rw [hva_] at ge137_3
                            rw [hvc_] at ul137_3
                            have HL137_3 := Aside0.mk (show Kd.V Kd.string 9 _ w.heap.size _ _ ((rd_T25 t131 0).f3) from Kd.V_mk ul137_3 ge137_3)
                            clear hva_ hvn_ hvc_ ge137_3 ul137_3
                            clear hcc137 hce137
                            have qi137 : (0 < t131.length) = True := eq_true (by omega)
                            (try rw [show ((0 : Int)).toNat = 0 from rfl] at hx137_0)
                            (try rw [show 0 * 4 = 0 from rfl] at hx137_0)
                            (try rw [Addr.add_zero'] at hx137_0)
                            (try rw [show ((0 : Int)).toNat = 0 from rfl] at hx137_1)
                            (try rw [show 0 * 4 = 0 from rfl] at hx137_1)
                            (try rw [Addr.add_zero'] at hx137_1)
                            (try rw [show ((0 : Int)).toNat = 0 from rfl] at hx137_2)
                            (try rw [show 0 * 4 = 0 from rfl] at hx137_2)
                            (try rw [Addr.add_zero'] at hx137_2)
                            (try rw [show ((0 : Int)).toNat = 0 from rfl] at hx137_3)
                            (try rw [show 0 * 4 = 0 from rfl] at hx137_3)
                            (try rw [Addr.add_zero'] at hx137_3)
                            have HR137_3 := Aside0.mk hi137_3
                            have HC137_3 := Aside0.mk hl137_3
                            clear hi137_3 hl137_3
                            replace p137 := eq_true p137
                            replace q137 := eq_true q137
                            have p140 : 0 ≤ (0 : Int) := (by omega)
                            have q140 : 0 < (t134.length : Int) := of_decide_eq_true (by first | (with_reducible assumption) | assumption)
                            obtain ⟨Ao60, co60, eo60⟩ := Kd.V_slice HO136.out
                            (first | subst eo60 | (injection eo60 with f1_ f2_ f3_; have f4_ := f1_.symm; have f5_ := f3_.symm; clear f1_ f2_ f3_; subst f4_; subst f5_))
                            obtain ⟨ad140, A140_3, c140_3, e140, hx140_0, hx140_1, hx140_2, hx140_3, hl140_3, hi140_3⟩ := at_T25 (Kd.V_reads' HO136.out).2.2 0 p140 q140
                            cases e140
                            obtain ⟨ce140, hce140, hMe140, hcc140⟩ := Kd.V_get HO136.out z25 0 p140 (by first | exact q140 | exact of_decide_eq_true (by first | (with_reducible assumption) | assumption) | (have e_ := (Kd.V_reads' HO136.out).1; omega))
                            obtain ⟨ua140_3, uc140_3, rfl, ul140_3, ge140_3⟩ := k25_openF hMe140
                            have hv140_3 := hcc140 3 _ rfl
                            rw [add_field _ _ 3 (by omega)] at hv140_3
                            replace hv140_3 := Option.some.inj (hv140_3.symm.trans hx140_3)
                            injection hv140_3 with hva_ hvn_ hvc_
                            rw [hva_] at ge140_3
                            rw [hvc_] at ul140_3
                            have HL140_3 := Aside0.mk (show Kd.V Kd.string 9 _ w.heap.size _ _ ((rd_T25 t134 0).f3) from Kd.V_mk ul140_3 ge140_3)
                            clear hva_ hvn_ hvc_ ge140_3 ul140_3
                            clear hcc140 hce140
                            have qi140 : (0 < t134.length) = True := eq_true (by omega)
                            (try rw [show ((0 : Int)).toNat = 0 from rfl] at hx140_0)
                            (try rw [show 0 * 4 = 0 from rfl] at hx140_0)
                            (try rw [Addr.add_zero'] at hx140_0)
                            (try rw [show ((0 : Int)).toNat = 0 from rfl] at hx140_1)
                            (try rw [show 0 * 4 = 0 from rfl] at hx140_1)
                            (try rw [Addr.add_zero'] at hx140_1)
                            (try rw [show ((0 : Int)).toNat = 0 from rfl] at hx140_2)
                            (try rw [show 0 * 4 = 0 from rfl] at hx140_2)
                            (try rw [Addr.add_zero'] at hx140_2)
                            (try rw [show ((0 : Int)).toNat = 0 from rfl] at hx140_3)
                            (try rw [show 0 * 4 = 0 from rfl] at hx140_3)
                            (try rw [Addr.add_zero'] at hx140_3)
                            have HR140_3 := Aside0.mk hi140_3
                            have HC140_3 := Aside0.mk hl140_3
                            clear hi140_3 hl140_3
                            replace p140 := eq_true p140
                            replace q140 := eq_true q140
                            refine start_ (n := 27) (S := fun w' => w'.cell? ⟨gb110, 0, none⟩ = some (.string t103) ∧ w'.cell? ⟨gb110, 1, none⟩ = some (.string t104) ∧ w'.cell? ⟨gb110, 2, none⟩ = some (.string t105) ∧ w'.cell? ⟨gb110, 3, none⟩ = some (.slice Ao18 t106.length co18) ∧ w'.cell? ⟨gb118, 0, none⟩ = some (.string t111) ∧ w'.cell? ⟨gb118, 1, none⟩ = some (.string t112) ∧ w'.cell? ⟨gb118, 2, none⟩ = some (.string t113) ∧ w'.cell? ⟨gb118, 3, none⟩ = some (.slice Ao23 t114.length co23) ∧ w'.cell? ad137 = some (.string ((rd_T25 t131 0).f0)) ∧ w'.cell? ⟨ad137.block, ad137.off + 1, none⟩ = some (.string ((rd_T25 t131 0).f1)) ∧ w'.cell? ⟨ad137.block, ad137.off + 2, none⟩ = some (.string ((rd_T25 t131 0).f2)) ∧ w'.cell? ⟨ad137.block, ad137.off + 3, none⟩ = some (.slice A137_3 ((rd_T25 t131 0).f3).length c137_3) ∧ w'.cell? ad140 = some (.string ((rd_T25 t134 0).f0)) ∧ w'.cell? ⟨ad140.block, ad140.off + 1, none⟩ = some (.string ((rd_T25 t134 0).f1)) ∧ w'.cell? ⟨ad140.block, ad140.off + 2, none⟩ = some (.string ((rd_T25 t134 0).f2)) ∧ w'.cell? ⟨ad140.block, ad140.off + 3, none⟩ = some (.slice A140_3 ((rd_T25 t134 0).f3).length c140_3)) (ds := []) #[false, false, false, false, false, false, false, false, false, false, false, false, false, false, false, false, false, false, false, false, false, false, false, false, false, false, false] (by kernel_rfl) rfl rfl ⟨(blk_cell BK110.out 0).trans rfl, (blk_cell BK110.out 1).trans rfl, (blk_cell BK110.out 2).trans rfl, (blk_cell BK110.out 3).trans rfl, (blk_cell BK118.out 0).trans rfl, (blk_cell BK118.out 1).trans rfl, (blk_cell BK118.out 2).trans rfl, (blk_cell BK118.out 3).trans rfl, hx137_0, hx137_1, hx137_2, hx137_3, hx140_0, hx140_1, hx140_2, hx140_3⟩ (fun hHeld => ?_); refine with_tabW polyglotlaw11_NegoFirst.tab12 polyglotlaw11_NegoFirst.bits12 (fun HT_ HW_ => ?_)
                            generalize w55.drew = w56 at HO_111003 HO_119003 HO124 HO127 HO130 HO133 HO136 BK110 BK118 HB HL137_3 HL140_3 HR137_3 HR140_3 hx137_0 hx137_1 hx137_2 hx137_3 hx140_0 hx140_1 hx140_2 hx140_3 hHeld ⊢
                            refine pure_ (i := 0) (N := some 58) (v := ?_) (a' := ?_) #[true, false, false, false, false, false, false, false, false, false, false, false, false, false, false, false, false, false, false, false, false, false, false, false, false, false, false] rfl rfl (any_of HT_.out (by kernel_rfl)) (fun _ _ _ h => h) (Or.inl ⟨by rfl, ?_⟩) ?_ ?_
                            rotate_left
                            · intro w'
                              go_simp
                              with_reducible rfl
                            rotate_left
                            · simp only [Act.put, List.setIfInBounds_toArray, List.set_cons_zero, List.set_cons_succ, i64_w, i32_w]
                              rfl
                            refine pure_ (i := 1) (N := some 59) (v := ?_) (a' := ?_) #[true, true, false, false, false, false, false, false, false, false, false, false, false, false, false, false, false, false, false, false, false, false, false, false, false, false, false] rfl rfl (any_of HT_.out (by kernel_rfl)) (fun _ _ _ h => h) (Or.inl ⟨by rfl, ?_⟩) ?_ ?_
                            rotate_left
                            · intro w'
                              go_simp
                              with_reducible rfl
                            rotate_left
                            · simp only [Act.put, List.setIfInBounds_toArray, List.set_cons_zero, List.set_cons_succ, i64_w, i32_w]
                              rfl
                            refine pure_ (i := 2) (N := some 60) (v := ?_) (a' := ?_) #[true, true, true, false, false, false, false, false, false, false, false, false, false, false, false, false, false, false, false, false, false, false, false, false, false, false, false] rfl rfl (any_of HT_.out (by kernel_rfl)) (fun _ _ _ h => h) (Or.inl ⟨by rfl, ?_⟩) ?_ ?_
                            rotate_left
                            · intro w'
                              go_simp
                              with_reducible rfl
                            rotate_left
                            · simp only [Act.put, List.setIfInBounds_toArray, List.set_cons_zero, List.set_cons_succ, i64_w, i32_w]
                              rfl
                            refine pure_ (i := 3) (N := some 61) (v := ?_) (a' := ?_) #[true, true, true, true, false, false, false, false, false, false, false, false, false, false, false, false, false, false, false, false, false, false, false, false, false, false, false] rfl rfl (any_of HT_.out (by kernel_rfl)) (fun _ _ _ h => h) (Or.inl ⟨by rfl, ?_⟩) ?_ ?_
                            rotate_left
                            · intro w'
                              go_simp
                              with_reducible rfl
                            rotate_left
                            · simp only [Act.put, List.setIfInBounds_toArray, List.set_cons_zero, List.set_cons_succ, i64_w, i32_w]
                              rfl
                            refine pure_ (i := 4) (N := some 62) (v := ?_) (a' := ?_) #[true, true, true, true, true, false, false, false, false, false, false, false, false, false, false, false, false, false, false, false, false, false, false, false, false, false, false] rfl rfl (any_of HT_.out (by kernel_rfl)) (fun _ _ _ h => h) (Or.inl ⟨by rfl, ?_⟩) ?_ ?_
                            rotate_left
                            · intro w'
                              go_simp
                              with_reducible rfl
                            rotate_left
                            · simp only [Act.put, List.setIfInBounds_toArray, List.set_cons_zero, List.set_cons_succ, i64_w, i32_w]
                              rfl
                            refine pure_ (i := 5) (N := some 63) (v := ?_) (a' := ?_) #[true, true, true, true, true, true, false, false, false, false, false, false, false, false, false, false, false, false, false, false, false, false, false, false, false, false, false] rfl rfl (any_of HT_.out (by kernel_rfl)) (fun _ _ _ h => h) (Or.inl ⟨by rfl, ?_⟩) ?_ ?_
                            rotate_left
                            · intro w'
                              go_simp
                              with_reducible rfl
                            rotate_left
                            · simp only [Act.put, List.setIfInBounds_toArray, List.set_cons_zero, List.set_cons_succ, i64_w, i32_w]
                              rfl
                            refine take_ (i := 6) (N := some 64) (v := ?_) (a' := ?_) #[true, true, true, true, true, true, true, false, false, false, false, false, false, false, false, false, false, false, false, false, false, false, false, false, false, false, false] rfl rfl (take_ofW HT_.out HW_.out (by kernel_rfl)) (fun _ _ _ h => h) (Or.inl ⟨by rfl, ?_⟩) hHeld ?_ ?_
                            rotate_left
                            · rintro w' ⟨s0, s1, s2, s3, s4, s5, s6, s7, s8, s9, s10, s11, s12, s13, s14, s15⟩
                              go_simp
                              with_reducible rfl
                            rotate_left
                            · simp only [Act.put, List.setIfInBounds_toArray, List.set_cons_zero, List.set_cons_succ, i64_w, i32_w]
                              rfl
                            refine take_ (i := 8) (N := some 66) (v := ?_) (a' := ?_) #[true, true, true, true, true, true, true, false, true, false, false, false, false, false, false, false, false, false, false, false, false, false, false, false, false, false, false] rfl rfl (take_ofW HT_.out HW_.out (by kernel_rfl)) (fun _ _ _ h => h) (Or.inl ⟨by rfl, ?_⟩) hHeld ?_ ?_
                            rotate_left
                            · rintro w' ⟨s0, s1, s2, s3, s4, s5, s6, s7, s8, s9, s10, s11, s12, s13, s14, s15⟩
                              go_simp
                              with_reducible rfl
                            rotate_left
                            · simp only [Act.put, List.setIfInBounds_toArray, List.set_cons_zero, List.set_cons_succ, i64_w, i32_w]
                              rfl
                            refine one_ (i := 7) (N := some 65) #[true, true, true, true, true, true, true, true, true, false, false, false, false, false, false, false, false, false, false, false, false, false, false, false, false, false, false] rfl rfl (one_of HT_.out (by kernel_rfl)) (by decide) (fun K hK => ?_)
                            refine goes_ Tryd.func17 (by kernel_rfl) rfl #[.agg #[.string ((rd_T25 t131 0).f0), .string ((rd_T25 t131 0).f1), .string ((rd_T25 t131 0).f2), .slice A137_3 ((rd_T25 t131 0).f3).length c137_3]] (by rfl) rfl rfl (by (try simp only [List.map_toArray, List.map_cons, List.map_nil]); first | done | rfl | (simp only [List.length_drop, List.length_take]; rfl)) ?_
                            with_reducible refine (tag_Str.calls ((rd_T25 t131 0).f0) ((rd_T25 t131 0).f1) ((rd_T25 t131 0).f2) _ _ ((rd_T25 t131 0).f3) t138 _ ?side1 ?side2 A32.out).mono ?_
                            (case side1 => repeat (first | exact (by repeat (first | (with_reducible exact HR137_3.out) | (with_reducible refine Kd.C_alloc ?_ _) | (with_reducible refine Kd.C_drewN ?_ _) | (with_reducible refine Kd.C_drew ?_) | exact HR137_3.out)) | (with_reducible refine Kd.C_alloc ?_ _) | (with_reducible refine Kd.C_drewN ?_ _) | (with_reducible refine Kd.C_drew ?_)))
                            (case side2 => exact HC137_3.out)
                            rintro e w58 ⟨rfl, hb⟩
                            have HS8_ := (hb.cell (World.block_lt_of_cell? _ _ (hHeld.2.2.2.2.2.2.2.2.1))).trans (hHeld.2.2.2.2.2.2.2.2.1)
                            have HS9_ := (hb.cell (World.block_lt_of_cell? _ _ (hHeld.2.2.2.2.2.2.2.2.2.1))).trans (hHeld.2.2.2.2.2.2.2.2.2.1)
                            have HS10_ := (hb.cell (World.block_lt_of_cell? _ _ (hHeld.2.2.2.2.2.2.2.2.2.2.1))).trans (hHeld.2.2.2.2.2.2.2.2.2.2.1)
                            have HS11_ := (hb.cell (World.block_lt_of_cell? _ _ (hHeld.2.2.2.2.2.2.2.2.2.2.2.1))).trans (hHeld.2.2.2.2.2.2.2.2.2.2.2.1)
                            have HS12_ := (hb.cell (World.block_lt_of_cell? _ _ (hHeld.2.2.2.2.2.2.2.2.2.2.2.2.1))).trans (hHeld.2.2.2.2.2.2.2.2.2.2.2.2.1)
                            have HS13_ := (hb.cell (World.block_lt_of_cell? _ _ (hHeld.2.2.2.2.2.2.2.2.2.2.2.2.2.1))).trans (hHeld.2.2.2.2.2.2.2.2.2.2.2.2.2.1)
                            have HS14_ := (hb.cell (World.block_lt_of_cell? _ _ (hHeld.2.2.2.2.2.2.2.2.2.2.2.2.2.2.1))).trans (hHeld.2.2.2.2.2.2.2.2.2.2.2.2.2.2.1)
                            have HS15_ := (hb.cell (World.block_lt_of_cell? _ _ (hHeld.2.2.2.2.2.2.2.2.2.2.2.2.2.2.2))).trans (hHeld.2.2.2.2.2.2.2.2.2.2.2.2.2.2.2)
                            refine ⟨_, rfl, ?_⟩
                            have n0_ := Aside0.mk (Kd.V_below (by (with_reducible repeat (first | apply Kd.V_alloc | apply Kd.V_drewN | apply Kd.V_drew)); exact HO_111003.out) hb)
                            have n1_ := Aside0.mk (Kd.V_below (by (with_reducible repeat (first | apply Kd.V_alloc | apply Kd.V_drewN | apply Kd.V_drew)); exact HO_119003.out) hb)
                            have n2_ := Aside0.mk (Kd.N_below (by (with_reducible repeat (first | apply Kd.N_alloc | apply Kd.N_drewN | apply Kd.N_drew)); exact HO124.out) hb)
                            have n3_ := Aside0.mk (Kd.N_below (by (with_reducible repeat (first | apply Kd.N_alloc | apply Kd.N_drewN | apply Kd.N_drew)); exact HO127.out) hb)
                            have n4_ := Aside0.mk (Kd.N_below (by (with_reducible repeat (first | apply Kd.N_alloc | apply Kd.N_drewN | apply Kd.N_drew)); exact HO130.out) hb)
                            have n5_ := Aside0.mk (Kd.V_below (by (with_reducible repeat (first | apply Kd.V_alloc | apply Kd.V_drewN | apply Kd.V_drew)); exact HO133.out) hb)
                            have n6_ := Aside0.mk (Kd.V_below (by (with_reducible repeat (first | apply Kd.V_alloc | apply Kd.V_drewN | apply Kd.V_drew)); exact HO136.out) hb)
                            have n7_ := Aside0.mk (Kd.V_below (by (with_reducible repeat (first | apply Kd.V_alloc | apply Kd.V_drewN | apply Kd.V_drew)); exact HL137_3.out) hb)
                            have n7b_ := Aside0.mk (Kd.V_below (by (with_reducible repeat (first | apply Kd.V_alloc | apply Kd.V_drewN | apply Kd.V_drew)); exact HL140_3.out) hb)
                            have n8_ := Aside0.mk (blk_below (g := gb110) (o := .cells #[.string t103, .string t104, .string t105, .slice Ao18 t106.length co18] 25 (0, 0)) (by (with_reducible repeat (first | refine blk_drewN ?_ _ | refine blk_drew ?_ | refine blk_alloc ?_ _)); exact BK110.out) hb)
                            have n9_ := Aside0.mk (blk_below (g := gb118) (o := .cells #[.string t111, .string t112, .string t113, .slice Ao23 t114.length co23] 25 (0, 0)) (by (with_reducible repeat (first | refine blk_drewN ?_ _ | refine blk_drew ?_ | refine blk_alloc ?_ _)); exact BK118.out) hb)
                            have n10_ := Aside0.mk (Kd.C_below (by repeat (first | (with_reducible exact HR137_3.out) | (with_reducible refine Kd.C_alloc ?_ _) | (with_reducible refine Kd.C_drewN ?_ _) | (with_reducible refine Kd.C_drew ?_) | exact HR137_3.out)) hb)
                            have n11_ := Aside0.mk (below_step (by repeat (first | (with_reducible first | exact HB.out | apply below_alloc | apply pw_below_drewN | apply below_drew1 | refine below_set ?_ GE110.out | refine below_set ?_ GE118.out) | exact HB.out)) hb)
                            clear HO_111003
                            clear HO_119003
                            clear HO124
                            clear HO127
                            clear HO130
                            clear HO133
                            clear HO136
                            clear HL137_3
                            clear HL140_3
                            clear BK110
                            clear BK118
                            clear HR137_3
                            clear HB
                            have HO_111003 := n0_
                            have HO_119003 := n1_
                            have HO124 := n2_
                            have HO127 := n3_
                            have HO130 := n4_
                            have HO133 := n5_
                            have HO136 := n6_
                            have HL137_3 := n7_
                            have HL140_3 := n7b_
                            have HR140_z := Aside0.mk (Kd.V_reads' HL140_3.out).2.2
                            clear HR140_3
                            have HR140_3 := HR140_z
                            clear HR140_z
                            clear n7b_
                            have BK110 := n8_
                            have BK118 := n9_
                            have HR137_3 := n10_
                            have HB := n11_
                            clear n0_ n1_ n2_ n3_ n4_ n5_ n6_ n7_ n8_ n9_ n10_ n11_
                            (try clear hb)
                            (try clear hb2)
                            (try clear hk)
                            (try clear hi)
                            refine hK.out _ _ ⟨(blk_cell BK110.out 0).trans rfl, (blk_cell BK110.out 1).trans rfl, (blk_cell BK110.out 2).trans rfl, (blk_cell BK110.out 3).trans rfl, (blk_cell BK118.out 0).trans rfl, (blk_cell BK118.out 1).trans rfl, (blk_cell BK118.out 2).trans rfl, (blk_cell BK118.out 3).trans rfl, HS8_, HS9_, HS10_, HS11_, HS12_, HS13_, HS14_, HS15_⟩ (fun hHeld => ?_)
                            clear hK K
                            refine norm_ (a' := ?_) ?_ ?_
                            rotate_left
                            · show Act.put _ (some 65) _ = _
                              simp only [Act.put, List.setIfInBounds_toArray, List.set_cons_zero, List.set_cons_succ, i64_w, i32_w]
                              rfl
                            refine one_ (i := 9) (N := some 67) #[true, true, true, true, true, true, true, true, true, true, false, false, false, false, false, false, false, false, false, false, false, false, false, false, false, false, false] rfl rfl (one_of HT_.out (by kernel_rfl)) (by decide) (fun K hK => ?_)
                            refine goes_ Tryd.func17 (by kernel_rfl) rfl #[.agg #[.string t103, .string t104, .string t105, .slice Ao18 t106.length co18]] (by rfl) rfl rfl (by (try simp only [List.map_toArray, List.map_cons, List.map_nil]); first | done | rfl | (simp only [List.length_drop, List.length_take]; rfl)) ?_
                            with_reducible refine (tag_Str.calls t103 t104 t105 _ _ t106 t139 _ ?side1 ?side2 A33.out).mono ?_
                            (case side1 => repeat (first | exact (Kd.V_reads' HO_111003.out).2.2 | (with_reducible refine Kd.C_alloc ?_ _) | (with_reducible refine Kd.C_drewN ?_ _) | (with_reducible refine Kd.C_drew ?_)))
                            (case side2 => exact (Kd.V_reads' HO_111003.out).2.1)
                            rintro e w59 ⟨rfl, hb⟩
                            have HS8_ := (hb.cell (World.block_lt_of_cell? _ _ (hHeld.2.2.2.2.2.2.2.2.1))).trans (hHeld.2.2.2.2.2.2.2.2.1)
                            have HS9_ := (hb.cell (World.block_lt_of_cell? _ _ (hHeld.2.2.2.2.2.2.2.2.2.1))).trans (hHeld.2.2.2.2.2.2.2.2.2.1)
                            have HS10_ := (hb.cell (World.block_lt_of_cell? _ _ (hHeld.2.2.2.2.2.2.2.2.2.2.1))).trans (hHeld.2.2.2.2.2.2.2.2.2.2.1)
                            have HS11_ := (hb.cell (World.block_lt_of_cell? _ _ (hHeld.2.2.2.2.2.2.2.2.2.2.2.1))).trans (hHeld.2.2.2.2.2.2.2.2.2.2.2.1)
                            have HS12_ := (hb.cell (World.block_lt_of_cell? _ _ (hHeld.2.2.2.2.2.2.2.2.2.2.2.2.1))).trans (hHeld.2.2.2.2.2.2.2.2.2.2.2.2.1)
                            have HS13_ := (hb.cell (World.block_lt_of_cell? _ _ (hHeld.2.2.2.2.2.2.2.2.2.2.2.2.2.1))).trans (hHeld.2.2.2.2.2.2.2.2.2.2.2.2.2.1)
                            have HS14_ := (hb.cell (World.block_lt_of_cell? _ _ (hHeld.2.2.2.2.2.2.2.2.2.2.2.2.2.2.1))).trans (hHeld.2.2.2.2.2.2.2.2.2.2.2.2.2.2.1)
                            have HS15_ := (hb.cell (World.block_lt_of_cell? _ _ (hHeld.2.2.2.2.2.2.2.2.2.2.2.2.2.2.2))).trans (hHeld.2.2.2.2.2.2.2.2.2.2.2.2.2.2.2)
                            refine ⟨_, rfl, ?_⟩
                            have n0_ := Aside0.mk (Kd.V_below (by (with_reducible repeat (first | apply Kd.V_alloc | apply Kd.V_drewN | apply Kd.V_drew)); exact HO_111003.out) hb)
                            have n1_ := Aside0.mk (Kd.V_below (by (with_reducible repeat (first | apply Kd.V_alloc | apply Kd.V_drewN | apply Kd.V_drew)); exact HO_119003.out) hb)
                            have n2_ := Aside0.mk (Kd.N_below (by (with_reducible repeat (first | apply Kd.N_alloc | apply Kd.N_drewN | apply Kd.N_drew)); exact HO124.out) hb)
                            have n3_ := Aside0.mk (Kd.N_below (by (with_reducible repeat (first | apply Kd.N_alloc | apply Kd.N_drewN | apply Kd.N_drew)); exact HO127.out) hb)
                            have n4_ := Aside0.mk (Kd.N_below (by (with_reducible repeat (first | apply Kd.N_alloc | apply Kd.N_drewN | apply Kd.N_drew)); exact HO130.out) hb)
                            have n5_ := Aside0.mk (Kd.V_below (by (with_reducible repeat (first | apply Kd.V_alloc | apply Kd.V_drewN | apply Kd.V_drew)); exact HO133.out) hb)
                            have n6_ := Aside0.mk (Kd.V_below (by (with_reducible repeat (first | apply Kd.V_alloc | apply Kd.V_drewN | apply Kd.V_drew)); exact HO136.out) hb)
                            have n7_ := Aside0.mk (Kd.V_below (by (with_reducible repeat (first | apply Kd.V_alloc | apply Kd.V_drewN | apply Kd.V_drew)); exact HL137_3.out) hb)
                            have n7b_ := Aside0.mk (Kd.V_below (by (with_reducible repeat (first | apply Kd.V_alloc | apply Kd.V_drewN | apply Kd.V_drew)); exact HL140_3.out) hb)
                            have n8_ := Aside0.mk (blk_below (g := gb110) (o := .cells #[.string t103, .string t104, .string t105, .slice Ao18 t106.length co18] 25 (0, 0)) (by (with_reducible repeat (first | refine blk_drewN ?_ _ | refine blk_drew ?_ | refine blk_alloc ?_ _)); exact BK110.out) hb)
                            have n9_ := Aside0.mk (blk_below (g := gb118) (o := .cells #[.string t111, .string t112, .string t113, .slice Ao23 t114.length co23] 25 (0, 0)) (by (with_reducible repeat (first | refine blk_drewN ?_ _ | refine blk_drew ?_ | refine blk_alloc ?_ _)); exact BK118.out) hb)
                            have n10_ := Aside0.mk (Kd.C_below (by repeat (first | (with_reducible exact HR137_3.out) | (with_reducible refine Kd.C_alloc ?_ _) | (with_reducible refine Kd.C_drewN ?_ _) | (with_reducible refine Kd.C_drew ?_) | exact HR137_3.out)) hb)
                            have n11_ := Aside0.mk (below_step (by repeat (first | (with_reducible first | exact HB.out | apply below_alloc | apply pw_below_drewN | apply below_drew1 | refine below_set ?_ GE110.out | refine below_set ?_ GE118.out) | exact HB.out)) hb)
                            clear HO_111003
                            clear HO_119003
                            clear HO124
                            clear HO127
                            clear HO130
                            clear HO133
                            clear HO136
                            clear HL137_3
                            clear HL140_3
                            clear BK110
                            clear BK118
                            clear HR137_3
                            clear HB
                            have HO_111003 := n0_
                            have HO_119003 := n1_
                            have HO124 := n2_
                            have HO127 := n3_
                            have HO130 := n4_
                            have HO133 := n5_
                            have HO136 := n6_
                            have HL137_3 := n7_
                            have HL140_3 := n7b_
                            have HR140_z := Aside0.mk (Kd.V_reads' HL140_3.out).2.2
                            clear HR140_3
                            have HR140_3 := HR140_z
                            clear HR140_z
                            clear n7b_
                            have BK110 := n8_
                            have BK118 := n9_
                            have HR137_3 := n10_
                            have HB := n11_
                            clear n0_ n1_ n2_ n3_ n4_ n5_ n6_ n7_ n8_ n9_ n10_ n11_
                            (try clear hb)
                            (try clear hb2)
                            (try clear hk)
                            (try clear hi)
                            refine hK.out _ _ ⟨(blk_cell BK110.out 0).trans rfl, (blk_cell BK110.out 1).trans rfl, (blk_cell BK110.out 2).trans rfl, (blk_cell BK110.out 3).trans rfl, (blk_cell BK118.out 0).trans rfl, (blk_cell BK118.out 1).trans rfl, (blk_cell BK118.out 2).trans rfl, (blk_cell BK118.out 3).trans rfl, HS8_, HS9_, HS10_, HS11_, HS12_, HS13_, HS14_, HS15_⟩ (fun hHeld => ?_)
                            clear hK K
                            refine norm_ (a' := ?_) ?_ ?_
                            rotate_left
                            · show Act.put _ (some 67) _ = _
                              simp only [Act.put, List.setIfInBounds_toArray, List.set_cons_zero, List.set_cons_succ, i64_w, i32_w]
                              rfl
                            refine pure_ (i := 10) (N := some 68) (v := ?_) (a' := ?_) #[true, true, true, true, true, true, true, true, true, true, true, false, false, false, false, false, false, false, false, false, false, false, false, false, false, false, false] rfl rfl (any_of HT_.out (by kernel_rfl)) (fun _ _ _ h => h) (Or.inl ⟨by rfl, ?_⟩) ?_ ?_
                            rotate_left
                            · intro w'
                              go_simp
                              with_reducible rfl
                            rotate_left
                            · simp only [Act.put, List.setIfInBounds_toArray, List.set_cons_zero, List.set_cons_succ, i64_w, i32_w]
                              rfl
                            refine pure_ (i := 11) (N := some 69) (v := ?_) (a' := ?_) #[true, true, true, true, true, true, true, true, true, true, true, true, false, false, false, false, false, false, false, false, false, false, false, false, false, false, false] rfl rfl (any_of HT_.out (by kernel_rfl)) (fun _ _ _ h => h) (Or.inl ⟨by rfl, ?_⟩) ?_ ?_
                            rotate_left
                            · intro w'
                              go_simp
                              with_reducible rfl
                            rotate_left
                            · simp only [Act.put, List.setIfInBounds_toArray, List.set_cons_zero, List.set_cons_succ, i64_w, i32_w]
                              rfl
                            refine pure_ (i := 12) (N := some 70) (v := ?_) (a' := ?_) #[true, true, true, true, true, true, true, true, true, true, true, true, true, false, false, false, false, false, false, false, false, false, false, false, false, false, false] rfl rfl (any_of HT_.out (by kernel_rfl)) (fun _ _ _ h => h) (Or.inl ⟨by rfl, ?_⟩) ?_ ?_
                            rotate_left
                            · intro w'
                              go_simp
                              with_reducible rfl
                            rotate_left
                            · simp only [Act.put, List.setIfInBounds_toArray, List.set_cons_zero, List.set_cons_succ, i64_w, i32_w]
                              rfl
                            refine pure_ (i := 13) (N := some 71) (v := ?_) (a' := ?_) #[true, true, true, true, true, true, true, true, true, true, true, true, true, true, false, false, false, false, false, false, false, false, false, false, false, false, false] rfl rfl (any_of HT_.out (by kernel_rfl)) (fun _ _ _ h => h) (Or.inl ⟨by rfl, ?_⟩) ?_ ?_
                            rotate_left
                            · intro w'
                              go_simp
                              with_reducible rfl
                            rotate_left
                            · simp only [Act.put, List.setIfInBounds_toArray, List.set_cons_zero, List.set_cons_succ, i64_w, i32_w]
                              rfl
                            refine pure_ (i := 14) (N := some 72) (v := ?_) (a' := ?_) #[true, true, true, true, true, true, true, true, true, true, true, true, true, true, true, false, false, false, false, false, false, false, false, false, false, false, false] rfl rfl (any_of HT_.out (by kernel_rfl)) (fun _ _ _ h => h) (Or.inl ⟨by rfl, ?_⟩) ?_ ?_
                            rotate_left
                            · intro w'
                              go_simp
                              with_reducible rfl
                            rotate_left
                            · simp only [Act.put, List.setIfInBounds_toArray, List.set_cons_zero, List.set_cons_succ, i64_w, i32_w]
                              rfl
                            refine pure_ (i := 15) (N := some 73) (v := ?_) (a' := ?_) #[true, true, true, true, true, true, true, true, true, true, true, true, true, true, true, true, false, false, false, false, false, false, false, false, false, false, false] rfl rfl (any_of HT_.out (by kernel_rfl)) (fun _ _ _ h => h) (Or.inl ⟨by rfl, ?_⟩) ?_ ?_
                            rotate_left
                            · intro w'
                              go_simp
                              with_reducible rfl
                            rotate_left
                            · simp only [Act.put, List.setIfInBounds_toArray, List.set_cons_zero, List.set_cons_succ, i64_w, i32_w]
                              rfl
                            refine pure_ (i := 16) (N := some 74) (v := ?_) (a' := ?_) #[true, true, true, true, true, true, true, true, true, true, true, true, true, true, true, true, true, false, false, false, false, false, false, false, false, false, false] rfl rfl (any_of HT_.out (by kernel_rfl)) (fun _ _ _ h => h) (Or.inl ⟨by rfl, ?_⟩) ?_ ?_
                            rotate_left
                            · intro w'
                              go_simp
                              with_reducible rfl
                            rotate_left
                            · simp only [Act.put, List.setIfInBounds_toArray, List.set_cons_zero, List.set_cons_succ, i64_w, i32_w]
                              rfl
                            refine pure_ (i := 17) (N := some 75) (v := ?_) (a' := ?_) #[true, true, true, true, true, true, true, true, true, true, true, true, true, true, true, true, true, true, false, false, false, false, false, false, false, false, false] rfl rfl (any_of HT_.out (by kernel_rfl)) (fun _ _ _ h => h) (Or.inl ⟨by rfl, ?_⟩) ?_ ?_
                            rotate_left
                            · intro w'
                              go_simp
                              with_reducible rfl
                            rotate_left
                            · simp only [Act.put, List.setIfInBounds_toArray, List.set_cons_zero, List.set_cons_succ, i64_w, i32_w]
                              rfl
                            refine pure_ (i := 18) (N := some 76) (v := ?_) (a' := ?_) #[true, true, true, true, true, true, true, true, true, true, true, true, true, true, true, true, true, true, true, false, false, false, false, false, false, false, false] rfl rfl (any_of HT_.out (by kernel_rfl)) (fun _ _ _ h => h) (Or.inl ⟨by rfl, ?_⟩) ?_ ?_
                            rotate_left
                            · intro w'
                              go_simp
                              with_reducible rfl
                            rotate_left
                            · simp only [Act.put, List.setIfInBounds_toArray, List.set_cons_zero, List.set_cons_succ, i64_w, i32_w]
                              rfl
                            refine pure_ (i := 19) (N := some 77) (v := ?_) (a' := ?_) #[true, true, true, true, true, true, true, true, true, true, true, true, true, true, true, true, true, true, true, true, false, false, false, false, false, false, false] rfl rfl (any_of HT_.out (by kernel_rfl)) (fun _ _ _ h => h) (Or.inl ⟨by rfl, ?_⟩) ?_ ?_
                            rotate_left
                            · intro w'
                              go_simp
                              with_reducible rfl
                            rotate_left
                            · simp only [Act.put, List.setIfInBounds_toArray, List.set_cons_zero, List.set_cons_succ, i64_w, i32_w]
                              rfl
                            refine take_ (i := 20) (N := some 78) (v := ?_) (a' := ?_) #[true, true, true, true, true, true, true, true, true, true, true, true, true, true, true, true, true, true, true, true, true, false, false, false, false, false, false] rfl rfl (take_ofW HT_.out HW_.out (by kernel_rfl)) (fun _ _ _ h => h) (Or.inl ⟨by rfl, ?_⟩) hHeld ?_ ?_
                            rotate_left
                            · rintro w' ⟨s0, s1, s2, s3, s4, s5, s6, s7, s8, s9, s10, s11, s12, s13, s14, s15⟩
                              go_simp
                              with_reducible rfl
                            rotate_left
                            · simp only [Act.put, List.setIfInBounds_toArray, List.set_cons_zero, List.set_cons_succ, i64_w, i32_w]
                              rfl
                            refine take_ (i := 22) (N := some 80) (v := ?_) (a' := ?_) #[true, true, true, true, true, true, true, true, true, true, true, true, true, true, true, true, true, true, true, true, true, false, true, false, false, false, false] rfl rfl (take_ofW HT_.out HW_.out (by kernel_rfl)) (fun _ _ _ h => h) (Or.inl ⟨by rfl, ?_⟩) hHeld ?_ ?_
                            rotate_left
                            · rintro w' ⟨s0, s1, s2, s3, s4, s5, s6, s7, s8, s9, s10, s11, s12, s13, s14, s15⟩
                              go_simp
                              with_reducible rfl
                            rotate_left
                            · simp only [Act.put, List.setIfInBounds_toArray, List.set_cons_zero, List.set_cons_succ, i64_w, i32_w]
                              rfl
                            refine one_ (i := 21) (N := some 79) #[true, true, true, true, true, true, true, true, true, true, true, true, true, true, true, true, true, true, true, true, true, true, true, false, false, false, false] rfl rfl (one_of HT_.out (by kernel_rfl)) (by decide) (fun K hK => ?_)
                            refine goes_ Tryd.func17 (by kernel_rfl) rfl #[.agg #[.string ((rd_T25 t134 0).f0), .string ((rd_T25 t134 0).f1), .string ((rd_T25 t134 0).f2), .slice A140_3 ((rd_T25 t134 0).f3).length c140_3]] (by rfl) rfl rfl (by (try simp only [List.map_toArray, List.map_cons, List.map_nil]); first | done | rfl | (simp only [List.length_drop, List.length_take]; rfl)) ?_
                            with_reducible refine (tag_Str.calls ((rd_T25 t134 0).f0) ((rd_T25 t134 0).f1) ((rd_T25 t134 0).f2) _ _ ((rd_T25 t134 0).f3) t141 _ ?side1 ?side2 A37.out).mono ?_
                            (case side1 => repeat (first | exact (by repeat (first | (with_reducible exact (Kd.V_reads' HL140_3.out).2.2) | (with_reducible refine Kd.C_alloc ?_ _) | (with_reducible refine Kd.C_drewN ?_ _) | (with_reducible refine Kd.C_drew ?_) | exact (Kd.V_reads' HL140_3.out).2.2)) | (with_reducible refine Kd.C_alloc ?_ _) | (with_reducible refine Kd.C_drewN ?_ _) | (with_reducible refine Kd.C_drew ?_)))
                            (case side2 => exact HC140_3.out)
                            rintro e w61 ⟨rfl, hb⟩
                            have HS8_ := (hb.cell (World.block_lt_of_cell? _ _ (hHeld.2.2.2.2.2.2.2.2.1))).trans (hHeld.2.2.2.2.2.2.2.2.1)
                            have HS9_ := (hb.cell (World.block_lt_of_cell? _ _ (hHeld.2.2.2.2.2.2.2.2.2.1))).trans (hHeld.2.2.2.2.2.2.2.2.2.1)
                            have HS10_ := (hb.cell (World.block_lt_of_cell? _ _ (hHeld.2.2.2.2.2.2.2.2.2.2.1))).trans (hHeld.2.2.2.2.2.2.2.2.2.2.1)
                            have HS11_ := (hb.cell (World.block_lt_of_cell? _ _ (hHeld.2.2.2.2.2.2.2.2.2.2.2.1))).trans (hHeld.2.2.2.2.2.2.2.2.2.2.2.1)
                            have HS12_ := (hb.cell (World.block_lt_of_cell? _ _ (hHeld.2.2.2.2.2.2.2.2.2.2.2.2.1))).trans (hHeld.2.2.2.2.2.2.2.2.2.2.2.2.1)
                            have HS13_ := (hb.cell (World.block_lt_of_cell? _ _ (hHeld.2.2.2.2.2.2.2.2.2.2.2.2.2.1))).trans (hHeld.2.2.2.2.2.2.2.2.2.2.2.2.2.1)
                            have HS14_ := (hb.cell (World.block_lt_of_cell? _ _ (hHeld.2.2.2.2.2.2.2.2.2.2.2.2.2.2.1))).trans (hHeld.2.2.2.2.2.2.2.2.2.2.2.2.2.2.1)
                            have HS15_ := (hb.cell (World.block_lt_of_cell? _ _ (hHeld.2.2.2.2.2.2.2.2.2.2.2.2.2.2.2))).trans (hHeld.2.2.2.2.2.2.2.2.2.2.2.2.2.2.2)
                            refine ⟨_, rfl, ?_⟩
                            have n0_ := Aside0.mk (Kd.V_below (by (with_reducible repeat (first | apply Kd.V_alloc | apply Kd.V_drewN | apply Kd.V_drew)); exact HO_111003.out) hb)
                            have n1_ := Aside0.mk (Kd.V_below (by (with_reducible repeat (first | apply Kd.V_alloc | apply Kd.V_drewN | apply Kd.V_drew)); exact HO_119003.out) hb)
                            have n2_ := Aside0.mk (Kd.N_below (by (with_reducible repeat (first | apply Kd.N_alloc | apply Kd.N_drewN | apply Kd.N_drew)); exact HO124.out) hb)
                            have n3_ := Aside0.mk (Kd.N_below (by (with_reducible repeat (first | apply Kd.N_alloc | apply Kd.N_drewN | apply Kd.N_drew)); exact HO127.out) hb)
                            have n4_ := Aside0.mk (Kd.N_below (by (with_reducible repeat (first | apply Kd.N_alloc | apply Kd.N_drewN | apply Kd.N_drew)); exact HO130.out) hb)
                            have n5_ := Aside0.mk (Kd.V_below (by (with_reducible repeat (first | apply Kd.V_alloc | apply Kd.V_drewN | apply Kd.V_drew)); exact HO133.out) hb)
                            have n6_ := Aside0.mk (Kd.V_below (by (with_reducible repeat (first | apply Kd.V_alloc | apply Kd.V_drewN | apply Kd.V_drew)); exact HO136.out) hb)
                            have n7_ := Aside0.mk (Kd.V_below (by (with_reducible repeat (first | apply Kd.V_alloc | apply Kd.V_drewN | apply Kd.V_drew)); exact HL137_3.out) hb)
                            have n8_ := Aside0.mk (Kd.V_below (by (with_reducible repeat (first | apply Kd.V_alloc | apply Kd.V_drewN | apply Kd.V_drew)); exact HL140_3.out) hb)
                            have n9_ := Aside0.mk (blk_below (g := gb110) (o := .cells #[.string t103, .string t104, .string t105, .slice Ao18 t106.length co18] 25 (0, 0)) (by (with_reducible repeat (first | refine blk_drewN ?_ _ | refine blk_drew ?_ | refine blk_alloc ?_ _)); exact BK110.out) hb)
                            have n10_ := Aside0.mk (blk_below (g := gb118) (o := .cells #[.string t111, .string t112, .string t113, .slice Ao23 t114.length co23] 25 (0, 0)) (by (with_reducible repeat (first | refine blk_drewN ?_ _ | refine blk_drew ?_ | refine blk_alloc ?_ _)); exact BK118.out) hb)
                            have n11_ := Aside0.mk (Kd.C_below (by repeat (first | (with_reducible exact HR137_3.out) | (with_reducible refine Kd.C_alloc ?_ _) | (with_reducible refine Kd.C_drewN ?_ _) | (with_reducible refine Kd.C_drew ?_) | exact HR137_3.out)) hb)
                            have n12_ := Aside0.mk (Kd.C_below (by repeat (first | (with_reducible exact HR140_3.out) | (with_reducible refine Kd.C_alloc ?_ _) | (with_reducible refine Kd.C_drewN ?_ _) | (with_reducible refine Kd.C_drew ?_) | exact HR140_3.out)) hb)
                            have n13_ := Aside0.mk (below_step (by repeat (first | (with_reducible first | exact HB.out | apply below_alloc | apply pw_below_drewN | apply below_drew1 | refine below_set ?_ GE110.out | refine below_set ?_ GE118.out) | exact HB.out)) hb)
                            clear HO_111003
                            clear HO_119003
                            clear HO124
                            clear HO127
                            clear HO130
                            clear HO133
                            clear HO136
                            clear HL137_3
                            clear HL140_3
                            clear BK110
                            clear BK118
                            clear HR137_3
                            clear HR140_3
                            clear HB
                            have HO_111003 := n0_
                            have HO_119003 := n1_
                            have HO124 := n2_
                            have HO127 := n3_
                            have HO130 := n4_
                            have HO133 := n5_
                            have HO136 := n6_
                            have HL137_3 := n7_
                            have HL140_3 := n8_
                            have BK110 := n9_
                            have BK118 := n10_
                            have HR137_3 := n11_
                            have HR140_3 := n12_
                            have HB := n13_
                            clear n0_ n1_ n2_ n3_ n4_ n5_ n6_ n7_ n8_ n9_ n10_ n11_ n12_ n13_
                            (try clear hb)
                            (try clear hb2)
                            (try clear hk)
                            (try clear hi)
                            refine hK.out _ _ ⟨(blk_cell BK110.out 0).trans rfl, (blk_cell BK110.out 1).trans rfl, (blk_cell BK110.out 2).trans rfl, (blk_cell BK110.out 3).trans rfl, (blk_cell BK118.out 0).trans rfl, (blk_cell BK118.out 1).trans rfl, (blk_cell BK118.out 2).trans rfl, (blk_cell BK118.out 3).trans rfl, HS8_, HS9_, HS10_, HS11_, HS12_, HS13_, HS14_, HS15_⟩ (fun hHeld => ?_)
                            clear hK K
                            refine norm_ (a' := ?_) ?_ ?_
                            rotate_left
                            · show Act.put _ (some 79) _ = _
                              simp only [Act.put, List.setIfInBounds_toArray, List.set_cons_zero, List.set_cons_succ, i64_w, i32_w]
                              rfl
                            refine one_ (i := 23) (N := some 81) #[true, true, true, true, true, true, true, true, true, true, true, true, true, true, true, true, true, true, true, true, true, true, true, true, false, false, false] rfl rfl (one_of HT_.out (by kernel_rfl)) (by decide) (fun K hK => ?_)
                            refine goes_ Tryd.func17 (by kernel_rfl) rfl #[.agg #[.string t111, .string t112, .string t113, .slice Ao23 t114.length co23]] (by rfl) rfl rfl (by (try simp only [List.map_toArray, List.map_cons, List.map_nil]); first | done | rfl | (simp only [List.length_drop, List.length_take]; rfl)) ?_
                            with_reducible refine (tag_Str.calls t111 t112 t113 _ _ t114 t142 _ ?side1 ?side2 A38.out).mono ?_
                            (case side1 => repeat (first | exact (Kd.V_reads' HO_119003.out).2.2 | (with_reducible refine Kd.C_alloc ?_ _) | (with_reducible refine Kd.C_drewN ?_ _) | (with_reducible refine Kd.C_drew ?_)))
                            (case side2 => exact (Kd.V_reads' HO_119003.out).2.1)
                            rintro e w62 ⟨rfl, hb⟩
                            have HS8_ := (hb.cell (World.block_lt_of_cell? _ _ (hHeld.2.2.2.2.2.2.2.2.1))).trans (hHeld.2.2.2.2.2.2.2.2.1)
                            have HS9_ := (hb.cell (World.block_lt_of_cell? _ _ (hHeld.2.2.2.2.2.2.2.2.2.1))).trans (hHeld.2.2.2.2.2.2.2.2.2.1)
                            have HS10_ := (hb.cell (World.block_lt_of_cell? _ _ (hHeld.2.2.2.2.2.2.2.2.2.2.1))).trans (hHeld.2.2.2.2.2.2.2.2.2.2.1)
                            have HS11_ := (hb.cell (World.block_lt_of_cell? _ _ (hHeld.2.2.2.2.2.2.2.2.2.2.2.1))).trans (hHeld.2.2.2.2.2.2.2.2.2.2.2.1)
                            have HS12_ := (hb.cell (World.block_lt_of_cell? _ _ (hHeld.2.2.2.2.2.2.2.2.2.2.2.2.1))).trans (hHeld.2.2.2.2.2.2.2.2.2.2.2.2.1)
                            have HS13_ := (hb.cell (World.block_lt_of_cell? _ _ (hHeld.2.2.2.2.2.2.2.2.2.2.2.2.2.1))).trans (hHeld.2.2.2.2.2.2.2.2.2.2.2.2.2.1)
                            have HS14_ := (hb.cell (World.block_lt_of_cell? _ _ (hHeld.2.2.2.2.2.2.2.2.2.2.2.2.2.2.1))).trans (hHeld.2.2.2.2.2.2.2.2.2.2.2.2.2.2.1)
                            have HS15_ := (hb.cell (World.block_lt_of_cell? _ _ (hHeld.2.2.2.2.2.2.2.2.2.2.2.2.2.2.2))).trans (hHeld.2.2.2.2.2.2.2.2.2.2.2.2.2.2.2)
                            refine ⟨_, rfl, ?_⟩
                            have n0_ := Aside0.mk (Kd.V_below (by (with_reducible repeat (first | apply Kd.V_alloc | apply Kd.V_drewN | apply Kd.V_drew)); exact HO_111003.out) hb)
                            have n1_ := Aside0.mk (Kd.V_below (by (with_reducible repeat (first | apply Kd.V_alloc | apply Kd.V_drewN | apply Kd.V_drew)); exact HO_119003.out) hb)
                            have n2_ := Aside0.mk (Kd.N_below (by (with_reducible repeat (first | apply Kd.N_alloc | apply Kd.N_drewN | apply Kd.N_drew)); exact HO124.out) hb)
                            have n3_ := Aside0.mk (Kd.N_below (by (with_reducible repeat (first | apply Kd.N_alloc | apply Kd.N_drewN | apply Kd.N_drew)); exact HO127.out) hb)
                            have n4_ := Aside0.mk (Kd.N_below (by (with_reducible repeat (first | apply Kd.N_alloc | apply Kd.N_drewN | apply Kd.N_drew)); exact HO130.out) hb)
                            have n5_ := Aside0.mk (Kd.V_below (by (with_reducible repeat (first | apply Kd.V_alloc | apply Kd.V_drewN | apply Kd.V_drew)); exact HO133.out) hb)
                            have n6_ := Aside0.mk (Kd.V_below (by (with_reducible repeat (first | apply Kd.V_alloc | apply Kd.V_drewN | apply Kd.V_drew)); exact HO136.out) hb)
                            have n7_ := Aside0.mk (Kd.V_below (by (with_reducible repeat (first | apply Kd.V_alloc | apply Kd.V_drewN | apply Kd.V_drew)); exact HL137_3.out) hb)
                            have n8_ := Aside0.mk (Kd.V_below (by (with_reducible repeat (first | apply Kd.V_alloc | apply Kd.V_drewN | apply Kd.V_drew)); exact HL140_3.out) hb)
                            have n9_ := Aside0.mk (blk_below (g := gb110) (o := .cells #[.string t103, .string t104, .string t105, .slice Ao18 t106.length co18] 25 (0, 0)) (by (with_reducible repeat (first | refine blk_drewN ?_ _ | refine blk_drew ?_ | refine blk_alloc ?_ _)); exact BK110.out) hb)
                            have n10_ := Aside0.mk (blk_below (g := gb118) (o := .cells #[.string t111, .string t112, .string t113, .slice Ao23 t114.length co23] 25 (0, 0)) (by (with_reducible repeat (first | refine blk_drewN ?_ _ | refine blk_drew ?_ | refine blk_alloc ?_ _)); exact BK118.out) hb)
                            have n11_ := Aside0.mk (Kd.C_below (by repeat (first | (with_reducible exact HR137_3.out) | (with_reducible refine Kd.C_alloc ?_ _) | (with_reducible refine Kd.C_drewN ?_ _) | (with_reducible refine Kd.C_drew ?_) | exact HR137_3.out)) hb)
                            have n12_ := Aside0.mk (Kd.C_below (by repeat (first | (with_reducible exact HR140_3.out) | (with_reducible refine Kd.C_alloc ?_ _) | (with_reducible refine Kd.C_drewN ?_ _) | (with_reducible refine Kd.C_drew ?_) | exact HR140_3.out)) hb)
                            have n13_ := Aside0.mk (below_step (by repeat (first | (with_reducible first | exact HB.out | apply below_alloc | apply pw_below_drewN | apply below_drew1 | refine below_set ?_ GE110.out | refine below_set ?_ GE118.out) | exact HB.out)) hb)
                            clear HO_111003
                            clear HO_119003
                            clear HO124
                            clear HO127
                            clear HO130
                            clear HO133
                            clear HO136
                            clear HL137_3
                            clear HL140_3
                            clear BK110
                            clear BK118
                            clear HR137_3
                            clear HR140_3
                            clear HB
                            have HO_111003 := n0_
                            have HO_119003 := n1_
                            have HO124 := n2_
                            have HO127 := n3_
                            have HO130 := n4_
                            have HO133 := n5_
                            have HO136 := n6_
                            have HL137_3 := n7_
                            have HL140_3 := n8_
                            have BK110 := n9_
                            have BK118 := n10_
                            have HR137_3 := n11_
                            have HR140_3 := n12_
                            have HB := n13_
                            clear n0_ n1_ n2_ n3_ n4_ n5_ n6_ n7_ n8_ n9_ n10_ n11_ n12_ n13_
                            (try clear hb)
                            (try clear hb2)
                            (try clear hk)
                            (try clear hi)
                            refine hK.out _ _ ⟨(blk_cell BK110.out 0).trans rfl, (blk_cell BK110.out 1).trans rfl, (blk_cell BK110.out 2).trans rfl, (blk_cell BK110.out 3).trans rfl, (blk_cell BK118.out 0).trans rfl, (blk_cell BK118.out 1).trans rfl, (blk_cell BK118.out 2).trans rfl, (blk_cell BK118.out 3).trans rfl, HS8_, HS9_, HS10_, HS11_, HS12_, HS13_, HS14_, HS15_⟩ (fun hHeld => ?_)
                            clear hK K
                            refine norm_ (a' := ?_) ?_ ?_
                            rotate_left
                            · show Act.put _ (some 81) _ = _
                              simp only [Act.put, List.setIfInBounds_toArray, List.set_cons_zero, List.set_cons_succ, i64_w, i32_w]
                              rfl
                            refine pure_ (i := 24) (N := some 82) (v := ?_) (a' := ?_) #[true, true, true, true, true, true, true, true, true, true, true, true, true, true, true, true, true, true, true, true, true, true, true, true, true, false, false] rfl rfl (any_of HT_.out (by kernel_rfl)) (fun _ _ _ h => h) (Or.inl ⟨by rfl, ?_⟩) ?_ ?_
                            rotate_left
                            · intro w'
                              go_simp
                              with_reducible rfl
                            rotate_left
                            · simp only [Act.put, List.setIfInBounds_toArray, List.set_cons_zero, List.set_cons_succ, i64_w, i32_w]
                              rfl
                            refine pure_ (i := 25) (N := some 83) (v := ?_) (a' := ?_) #[true, true, true, true, true, true, true, true, true, true, true, true, true, true, true, true, true, true, true, true, true, true, true, true, true, true, false] rfl rfl (any_of HT_.out (by kernel_rfl)) (fun _ _ _ h => h) (Or.inl ⟨by rfl, ?_⟩) ?_ ?_
                            rotate_left
                            · intro w'
                              go_simp
                              with_reducible rfl
                            rotate_left
                            · simp only [Act.put, List.setIfInBounds_toArray, List.set_cons_zero, List.set_cons_succ, i64_w, i32_w]
                              rfl
                            refine pure_ (i := 26) (N := some 6) (v := ?_) (a' := ?_) #[true, true, true, true, true, true, true, true, true, true, true, true, true, true, true, true, true, true, true, true, true, true, true, true, true, true, true] rfl rfl (any_of HT_.out (by kernel_rfl)) (fun _ _ _ h => h) (Or.inl ⟨by rfl, ?_⟩) ?_ ?_
                            rotate_left
                            · intro w'
                              go_simp
                              with_reducible rfl
                            rotate_left
                            · simp only [Act.put, List.setIfInBounds_toArray, List.set_cons_zero, List.set_cons_succ, i64_w, i32_w]
                              rfl
                            refine done_ (done_of HT_.out (by kernel_rfl)) ?_
                            try go_wp2
                            go_ret
                            exact ⟨by first | rfl | (simp [errW_none, errW_some] <;> rfl) | (simp [*, errW_none, errW_some] <;> rfl), by repeat (first | (with_reducible first | exact HB.out | apply below_alloc | apply pw_below_drewN | apply below_drew1 | refine below_set ?_ GE110.out | refine below_set ?_ GE118.out) | exact HB.out)⟩
                          · rw [if_neg c36] at H
                            exact absurd H (by simp)
                        · rw [if_neg c35] at H
                          have c35b0 : ((t134.length : Int) == 1) = false := beq_eq_false_iff_ne.mpr c35
                          have c35b1 : ((t134.length : Int) != 1) = true := bne_iff_ne.mpr c35
                          exact absurd ((Option.some.inj H).trans hr_.out) (by decide)
                      · rw [if_neg c34] at H
                        have c34b0 : (t138.toList == t139.toList) = false := beq_eq_false_iff_ne.mpr c34
                        have c34b1 : (t138.toList != t139.toList) = true := bne_iff_ne.mpr c34
                        exact absurd ((Option.some.inj H).trans hr_.out) (by decide)
                    · rw [if_neg c31] at H
                      exact absurd H (by simp)
                  · rw [if_neg c30] at H
                    have c30b0 : decide (0 < (t131.length : Int)) = false := decide_eq_false c30
                    have c30b1 : decide (0 < t131.length) = false := decide_eq_false (by omega)
                    clear c30
                    exact absurd ((Option.some.inj H).trans hr_.out) (by decide)
                · rw [if_neg c27] at H
                  exact absurd H (by simp)
  · replace c5 := Bool.eq_false_iff.mpr c5
    subst c5
    have H1 : (some false) = some r := by rw [if_neg (show ¬ (false = true) by decide)] at H; exact H
    clear H
    have H := H1
    clear H1
    exact absurd ((Option.some.inj H).trans hr_.out) (by decide)

end Go.Proofs.YtpedajhcfkohlaaDoor.PNFirst
