-- Written by this session's own program (wip/drive.py) over the kit's printer: not the printer's own text.
import Derived.Test.YtpedajhcfkohlaaDoorPTMorex0
import Derived.Test.YtpedajhcfkohlaaDoorPTMorex1
namespace Go.Proofs.YtpedajhcfkohlaaDoor.PTMore
open Go.RowKit Go.Proofs.YtpedajhcfkohlaaDoorHand Go.Proofs.YtpedajhcfkohlaaDoorW.PrintWords Go.Proofs.YtpedajhcfkohlaaDoorW.PrintLast Go.Proofs.YtpedajhcfkohlaaDoorW.PrintMore
attribute [local go_sem] max2_int min2_int max_two min_two max_three min_three max_four min_four   -- for this text's walks alone
set_option linter.unusedVariables false
set_option linter.unusedSimpArgs false

/-! ### polyglotlaw03_TagMore: function 6 -/
mutual
def polyglotlaw03_TagMore.j0 : Nat → ByteArray → Bool → Bool → ByteArray → ByteArray → ByteArray → List ByteArray → ByteArray → ByteArray → ByteArray → List ByteArray → ByteArray → ByteArray → ByteArray → List ByteArray → Option (Bool)
  | 0, _, _, _, _, _, _, _, _, _, _, _, _, _, _, _ => none
  | k + 1, x0, x4, x44, x120000, x120001, x120002, x120003, x129000, x129001, x129002, x129003, x138000, x138001, x138002, x138003 => if x44 = true then (some false) else (if x4 = true then (polyglotlaw03_TagMore.l0 k x0 x120003 (x120003.length : Int) 0 x120000 x120001 x120002 x120003 x129000 x129001 x129002 x129003 x138000 x138001 x138002 x138003) else (some true))
def polyglotlaw03_TagMore.l0 : Nat → ByteArray → List ByteArray → Int → Int → ByteArray → ByteArray → ByteArray → List ByteArray → ByteArray → ByteArray → ByteArray → List ByteArray → ByteArray → ByteArray → ByteArray → List ByteArray → Option (Bool)
  | 0, _, _, _, _, _, _, _, _, _, _, _, _, _, _, _, _ => none
  | k + 1, x0, x48, x49, x50, x120000, x120001, x120002, x120003, x129000, x129001, x129002, x129003, x138000, x138001, x138002, x138003 => if x50 < x49 then (if 0 ≤ x50 then (if x50 < (x48.length : Int) then (if (rdOf ByteArray.empty x48 x50).toList = ([122, 122, 122, 122, 122, 122, 122, 57] : List UInt8) then (some true) else (polyglotlaw03_TagMore.l0 k x0 x48 x49 (wrap64 (x50 + 1)) x120000 x120001 x120002 x120003 x129000 x129001 x129002 x129003 x138000 x138001 x138002 x138003)) else (none)) else (none)) else (if x0.size + 9 ≤ 9223372036854775807 then ((some (x0 ++ (⟨#[45, 122, 122, 122, 122, 122, 122, 122, 57]⟩ : ByteArray) : ByteArray)).bind fun y139 => ((tag_Parse.f y139).bind fun bt140 => ((tag_Tag_Less.f bt140.1 bt140.2.1 bt140.2.2.1 bt140.2.2.2.1).bind fun bt148 => ((tag_Str.f x129000 x129001 x129002 x129003).bind fun t156 => ((tag_Str.f x120000 x120001 x120002 x120003).bind fun t157 => (if t156.toList = t157.toList then ((tag_Str.f x138000 x138001 x138002 x138003).bind fun t158 => ((tag_Str.f x120000 x120001 x120002 x120003).bind fun t159 => (if t158.toList = t159.toList then (if bt140.2.2.2.2 = true then (if bt148.2.2.2.2 = true then ((tag_Fit.f bt140.1 bt140.2.1 bt140.2.2.1 bt140.2.2.2.1 x120000 x120001 x120002 x120003).bind fun t160 => (if t160 = true then ((tag_Fit.f x120000 x120001 x120002 x120003 bt140.1 bt140.2.1 bt140.2.2.1 bt140.2.2.2.1).bind fun t161 => (if t161 = true then (some false) else ((tag_Str.f bt148.1 bt148.2.1 bt148.2.2.1 bt148.2.2.2.1).bind fun t162 => ((tag_Str.f x120000 x120001 x120002 x120003).bind fun t163 => (some (t162.toList == t163.toList)))))) else (some false))) else (some false)) else (some false)) else (some false)))) else (some false))))))) else (none))
end
def polyglotlaw03_TagMore.f (k : Nat) (a0 : ByteArray) : Option (Bool) := (law03_head.f).bind fun t111 => (if t111 = true then (if (a0.size : Int) > 80 then (some true) else ((tag_Parse.f a0).bind fun bt112 => ((law03_big.f a0).bind fun t120 => ((tag_Parse.f t120).bind fun bt121 => ((law03_small.f a0).bind fun t129 => ((tag_Parse.f t129).bind fun bt130 => (if (bt112.2.2.2.2 != bt121.2.2.2.2) = true then (polyglotlaw03_TagMore.j0 k a0 bt112.2.2.2.2 true bt112.1 bt112.2.1 bt112.2.2.1 bt112.2.2.2.1 bt121.1 bt121.2.1 bt121.2.2.1 bt121.2.2.2.1 bt130.1 bt130.2.1 bt130.2.2.1 bt130.2.2.2.1) else (polyglotlaw03_TagMore.j0 k a0 bt112.2.2.2.2 (bt112.2.2.2.2 != bt130.2.2.2.2) bt112.1 bt112.2.1 bt112.2.2.1 bt112.2.2.2.1 bt121.1 bt121.2.1 bt121.2.2.1 bt121.2.2.2.1 bt130.1 bt130.2.1 bt130.2.2.1 bt130.2.2.2.1)))))))) else (some false))
theorem polyglotlaw03_TagMore.mono_l : ∀ k, (∀ y0 y1 y2 y3 y4 y5 y6 y7 y8 y9 y10 y11 y12 y13 y14, LeO (polyglotlaw03_TagMore.j0 k y0 y1 y2 y3 y4 y5 y6 y7 y8 y9 y10 y11 y12 y13 y14) (polyglotlaw03_TagMore.j0 (k + 1) y0 y1 y2 y3 y4 y5 y6 y7 y8 y9 y10 y11 y12 y13 y14)) ∧ (∀ y0 y1 y2 y3 y4 y5 y6 y7 y8 y9 y10 y11 y12 y13 y14 y15, LeO (polyglotlaw03_TagMore.l0 k y0 y1 y2 y3 y4 y5 y6 y7 y8 y9 y10 y11 y12 y13 y14 y15) (polyglotlaw03_TagMore.l0 (k + 1) y0 y1 y2 y3 y4 y5 y6 y7 y8 y9 y10 y11 y12 y13 y14 y15))
  | 0 => ⟨fun _ _ _ _ _ _ _ _ _ _ _ _ _ _ _ r h => by simp [polyglotlaw03_TagMore.j0] at h, fun _ _ _ _ _ _ _ _ _ _ _ _ _ _ _ _ r h => by simp [polyglotlaw03_TagMore.l0] at h⟩
  | k + 1 => by
    obtain ⟨ih0, ih1⟩ := polyglotlaw03_TagMore.mono_l k
    refine ⟨?_, ?_⟩
    · intro y0 y1 y2 y3 y4 y5 y6 y7 y8 y9 y10 y11 y12 y13 y14
      unfold polyglotlaw03_TagMore.j0
      repeat' first
      | (with_reducible exact ih0 _ _ _ _ _ _ _ _ _ _ _ _ _ _ _)
      | (with_reducible exact ih1 _ _ _ _ _ _ _ _ _ _ _ _ _ _ _ _)
      | (with_reducible exact LeO.refl _)
      | (with_reducible exact LeO.none _)
      | (with_reducible refine LeO.ite ?_ ?_)
      | (with_reducible refine LeO.bind ?_ (fun _ => ?_))
      | exact ih0 _ _ _ _ _ _ _ _ _ _ _ _ _ _ _
      | exact ih1 _ _ _ _ _ _ _ _ _ _ _ _ _ _ _ _
      | exact LeO.none _
      | refine LeO.ite ?_ ?_
      | refine LeO.bind ?_ (fun _ => ?_)
    · intro y0 y1 y2 y3 y4 y5 y6 y7 y8 y9 y10 y11 y12 y13 y14 y15
      unfold polyglotlaw03_TagMore.l0
      repeat' first
      | (with_reducible exact ih0 _ _ _ _ _ _ _ _ _ _ _ _ _ _ _)
      | (with_reducible exact ih1 _ _ _ _ _ _ _ _ _ _ _ _ _ _ _ _)
      | (with_reducible exact LeO.refl _)
      | (with_reducible exact LeO.none _)
      | (with_reducible refine LeO.ite ?_ ?_)
      | (with_reducible refine LeO.bind ?_ (fun _ => ?_))
      | exact ih0 _ _ _ _ _ _ _ _ _ _ _ _ _ _ _
      | exact ih1 _ _ _ _ _ _ _ _ _ _ _ _ _ _ _ _
      | exact LeO.none _
      | refine LeO.ite ?_ ?_
      | refine LeO.bind ?_ (fun _ => ?_)
theorem polyglotlaw03_TagMore.mono : ∀ a0 k, LeO (polyglotlaw03_TagMore.f k a0) (polyglotlaw03_TagMore.f (k + 1) a0) := by
  intro a0 k
  obtain ⟨ih0, ih1⟩ := polyglotlaw03_TagMore.mono_l k
  unfold polyglotlaw03_TagMore.f
  repeat' first
      | (with_reducible exact ih0 _ _ _ _ _ _ _ _ _ _ _ _ _ _ _)
      | (with_reducible exact ih1 _ _ _ _ _ _ _ _ _ _ _ _ _ _ _ _)
      | (with_reducible exact LeO.refl _)
      | (with_reducible exact LeO.none _)
      | (with_reducible refine LeO.ite ?_ ?_)
      | (with_reducible refine LeO.bind ?_ (fun _ => ?_))
      | exact ih0 _ _ _ _ _ _ _ _ _ _ _ _ _ _ _
      | exact ih1 _ _ _ _ _ _ _ _ _ _ _ _ _ _ _ _
      | exact LeO.none _
      | refine LeO.ite ?_ ?_
      | refine LeO.bind ?_ (fun _ => ?_)
def polyglotlaw03_TagMore.T20 : Bool × List (List Nat × List Nat) := (true, [([], []), ([0], [0]), ([], []), ([2, 1], [2]), ([1, 3], [1, 3]), ([4, 3], [4]), ([5], [5]), ([6, 5, 5], [5, 6]), ([5], [5]), ([8, 7, 5], [5, 8]), ([7, 9, 5], [5, 7, 9]), ([5, 10], [5, 10]), ([11, 9], [11]), ([12], [12]), ([12, 13], [12, 13]), ([14, 12], [14]), ([15], [15]), ([15, 16], [15, 16]), ([17, 15], [17]), ([18], [18]), ([18], [18]), ([19, 20, 18, 18], [18, 19, 20]), ([18, 21], [18, 21]), ([22, 21], [22]), ([23], [23]), ([23], [23]), ([24, 25, 23, 23], [23, 24, 25]), ([26, 23], [23, 26]), ([23, 27], [23, 27]), ([28, 26], [28]), ([29], [29]), ([30, 29, 29], [29, 30]), ([29], [29]), ([32, 31, 29], [29, 32]), ([31, 33, 29], [29, 31, 33]), ([29, 34], [29, 34]), ([35, 33, 0, 1, 2, 3, 4, 5, 6, 7, 8, 9, 10, 11, 12, 13, 14, 15, 16, 17, 18, 19, 20, 21, 22, 23, 24, 25, 26, 27, 28, 29, 30, 31, 32, 33, 34, 35], [35])])
def polyglotlaw03_TagMore.B20 : List Nat := [0, 1, 0, 7, 15, 31, 63, 127, 63, 511, 1023, 2047, 4095, 8191, 16383, 32767, 65535, 131071, 262143, 524287, 524287, 2097151, 4194303, 8388607, 16777215, 16777215, 67108863, 134217727, 268435455, 536870911, 1073741823, 2147483647, 1073741823, 8589934591, 17179869183, 34359738367, 68719476735]
theorem polyglotlaw03_TagMore.tab20 : rtab .any (opsOf Tryd.f6 20) = polyglotlaw03_TagMore.T20 := by kernel_rfl
theorem polyglotlaw03_TagMore.bits20 : waitsOk polyglotlaw03_TagMore.T20.2 polyglotlaw03_TagMore.B20 = true := by kernel_rfl
set_option maxHeartbeats 8000000 in
set_option maxRecDepth 100000 in
theorem polyglotlaw03_TagMore.calls (k : Nat) (a0 : ByteArray) (r : Bool) (w : World) (h : polyglotlaw03_TagMore.f k a0 = some r) (hG : GW w := by first | exact hG | exact GW.drewN hG _ | exact GW.below hG (by first | exact HB.out | (with_reducible exact HB.out) | (repeat (first | (with_reducible first | exact HB.out | apply below_alloc | apply pw_below_drewN | apply below_drew1) | (refine below_setA ?_ (by assumption)) | exact HB.out)))) (hr_ : Aside0 (r = true) := by exact ⟨rfl⟩) :
    Calls Tryd.prog 6 #[.string a0] w fun e w' => e = .returned (.bool r) ∧ Below w.heap.size w w' := by
  have hu25 := Tryd.underlying25
  have HB := Aside0.mk (Below.refl w.heap.size w)
  have H : ((law03_head.f).bind fun t111 => (if t111 = true then (if (a0.size : Int) > 80 then (some true) else ((tag_Parse.f a0).bind fun bt112 => ((law03_big.f a0).bind fun t120 => ((tag_Parse.f t120).bind fun bt121 => ((law03_small.f a0).bind fun t129 => ((tag_Parse.f t129).bind fun bt130 => (if (bt112.2.2.2.2 != bt121.2.2.2.2) = true then (polyglotlaw03_TagMore.j0 k a0 bt112.2.2.2.2 true bt112.1 bt112.2.1 bt112.2.2.1 bt112.2.2.2.1 bt121.1 bt121.2.1 bt121.2.2.1 bt121.2.2.2.1 bt130.1 bt130.2.1 bt130.2.2.1 bt130.2.2.2.1) else (polyglotlaw03_TagMore.j0 k a0 bt112.2.2.2.2 (bt112.2.2.2.2 != bt130.2.2.2.2) bt112.1 bt112.2.1 bt112.2.2.1 bt112.2.2.2.1 bt121.1 bt121.2.1 bt121.2.2.1 bt121.2.2.2.1 bt130.1 bt130.2.1 bt130.2.2.1 bt130.2.2.2.1)))))))) else (some false))) = some r := h
  clear h
  replace H := Option.bind_eq_some_iff.mp H
  obtain ⟨t111, A20, H⟩ := H
  replace H : (if t111 = true then (if (a0.size : Int) > 80 then (some true) else ((tag_Parse.f a0).bind fun bt112 => ((law03_big.f a0).bind fun t120 => ((tag_Parse.f t120).bind fun bt121 => ((law03_small.f a0).bind fun t129 => ((tag_Parse.f t129).bind fun bt130 => (if (bt112.2.2.2.2 != bt121.2.2.2.2) = true then (polyglotlaw03_TagMore.j0 k a0 bt112.2.2.2.2 true bt112.1 bt112.2.1 bt112.2.2.1 bt112.2.2.2.1 bt121.1 bt121.2.1 bt121.2.2.1 bt121.2.2.2.1 bt130.1 bt130.2.1 bt130.2.2.1 bt130.2.2.2.1) else (polyglotlaw03_TagMore.j0 k a0 bt112.2.2.2.2 (bt112.2.2.2.2 != bt130.2.2.2.2) bt112.1 bt112.2.1 bt112.2.2.1 bt112.2.2.2.1 bt121.1 bt121.2.1 bt121.2.2.1 bt121.2.2.2.1 bt130.1 bt130.2.1 bt130.2.2.1 bt130.2.2.2.1)))))))) else (some false)) = some r := H
  have A2 := Aside0.mk A20
  clear A20
  by_cases c3 : t111 = true
  · subst c3
    have H1 : (if (a0.size : Int) > 80 then (some true) else ((tag_Parse.f a0).bind fun bt112 => ((law03_big.f a0).bind fun t120 => ((tag_Parse.f t120).bind fun bt121 => ((law03_small.f a0).bind fun t129 => ((tag_Parse.f t129).bind fun bt130 => (if (bt112.2.2.2.2 != bt121.2.2.2.2) = true then (polyglotlaw03_TagMore.j0 k a0 bt112.2.2.2.2 true bt112.1 bt112.2.1 bt112.2.2.1 bt112.2.2.2.1 bt121.1 bt121.2.1 bt121.2.2.1 bt121.2.2.2.1 bt130.1 bt130.2.1 bt130.2.2.1 bt130.2.2.2.1) else (polyglotlaw03_TagMore.j0 k a0 bt112.2.2.2.2 (bt112.2.2.2.2 != bt130.2.2.2.2) bt112.1 bt112.2.1 bt112.2.2.1 bt112.2.2.2.1 bt121.1 bt121.2.1 bt121.2.2.1 bt121.2.2.2.1 bt130.1 bt130.2.1 bt130.2.2.1 bt130.2.2.2.1)))))))) = some r := by rw [if_pos rfl] at H; exact H
    clear H
    have H := H1
    clear H1
    by_cases c4 : (a0.size : Int) > 80
    · rw [if_pos c4] at H
      have c4b0 : decide (80 < (a0.size : Int)) = true := decide_eq_true c4
      have c4b1 : decide (80 < a0.size) = true := decide_eq_true (by omega)
      clear c4
      obtain rfl := Option.some.inj H
      go_enter Tryd.func6, Tryd.ntmps6
      go_wp2_with (first | ((with_reducible refine gate_callee (f := 14) rfl ?_); refine goesL_ (some 15) rfl rfl Tryd.func14 (by kernel_rfl) rfl #[] rfl (by (try simp only [List.map_toArray, List.map_cons, List.map_nil]); first | done | rfl | (simp only [List.length_drop, List.length_take]; rfl)) ?_; (with_reducible refine (law03_head.calls  true _ A2.out).mono ?_); rintro e w5 ⟨rfl, hb⟩; refine ⟨_, rfl, ?_⟩; have n0_ := Aside0.mk (below_step (by repeat (first | (with_reducible first | exact HB.out | apply below_alloc | apply pw_below_drewN | apply below_drew1) | exact HB.out)) hb); clear HB; have HB := n0_; clear n0_; (try clear hb); (try clear hb2); (try clear hk); (try clear hi)))
      go_ret
      exact ⟨by first | rfl | (simp [errW_none, errW_some] <;> rfl) | (simp [*, errW_none, errW_some] <;> rfl), by repeat (first | (with_reducible first | exact HB.out | apply below_alloc | apply pw_below_drewN | apply below_drew1) | exact HB.out)⟩
    · rw [if_neg c4] at H
      have c4b0 : decide (80 < (a0.size : Int)) = false := decide_eq_false c4
      have c4b1 : decide (80 < a0.size) = false := decide_eq_false (by omega)
      clear c4
      replace H := Option.bind_eq_some_iff.mp H
      obtain ⟨⟨t112, t113, t114, t115, t118⟩, A60, H⟩ := H
      replace H : ((law03_big.f a0).bind fun t120 => ((tag_Parse.f t120).bind fun bt121 => ((law03_small.f a0).bind fun t129 => ((tag_Parse.f t129).bind fun bt130 => (if (t118 != bt121.2.2.2.2) = true then (polyglotlaw03_TagMore.j0 k a0 t118 true t112 t113 t114 t115 bt121.1 bt121.2.1 bt121.2.2.1 bt121.2.2.2.1 bt130.1 bt130.2.1 bt130.2.2.1 bt130.2.2.2.1) else (polyglotlaw03_TagMore.j0 k a0 t118 (t118 != bt130.2.2.2.2) t112 t113 t114 t115 bt121.1 bt121.2.1 bt121.2.2.1 bt121.2.2.2.1 bt130.1 bt130.2.1 bt130.2.2.1 bt130.2.2.2.1)))))) = some r := H
      have A6 := Aside0.mk A60
      clear A60
      replace H := Option.bind_eq_some_iff.mp H
      obtain ⟨t120, A70, H⟩ := H
      replace H : ((tag_Parse.f t120).bind fun bt121 => ((law03_small.f a0).bind fun t129 => ((tag_Parse.f t129).bind fun bt130 => (if (t118 != bt121.2.2.2.2) = true then (polyglotlaw03_TagMore.j0 k a0 t118 true t112 t113 t114 t115 bt121.1 bt121.2.1 bt121.2.2.1 bt121.2.2.2.1 bt130.1 bt130.2.1 bt130.2.2.1 bt130.2.2.2.1) else (polyglotlaw03_TagMore.j0 k a0 t118 (t118 != bt130.2.2.2.2) t112 t113 t114 t115 bt121.1 bt121.2.1 bt121.2.2.1 bt121.2.2.2.1 bt130.1 bt130.2.1 bt130.2.2.1 bt130.2.2.2.1))))) = some r := H
      have A7 := Aside0.mk A70
      clear A70
      replace H := Option.bind_eq_some_iff.mp H
      obtain ⟨⟨t121, t122, t123, t124, t127⟩, A80, H⟩ := H
      replace H : ((law03_small.f a0).bind fun t129 => ((tag_Parse.f t129).bind fun bt130 => (if (t118 != t127) = true then (polyglotlaw03_TagMore.j0 k a0 t118 true t112 t113 t114 t115 t121 t122 t123 t124 bt130.1 bt130.2.1 bt130.2.2.1 bt130.2.2.2.1) else (polyglotlaw03_TagMore.j0 k a0 t118 (t118 != bt130.2.2.2.2) t112 t113 t114 t115 t121 t122 t123 t124 bt130.1 bt130.2.1 bt130.2.2.1 bt130.2.2.2.1)))) = some r := H
      have A8 := Aside0.mk A80
      clear A80
      replace H := Option.bind_eq_some_iff.mp H
      obtain ⟨t129, A90, H⟩ := H
      replace H : ((tag_Parse.f t129).bind fun bt130 => (if (t118 != t127) = true then (polyglotlaw03_TagMore.j0 k a0 t118 true t112 t113 t114 t115 t121 t122 t123 t124 bt130.1 bt130.2.1 bt130.2.2.1 bt130.2.2.2.1) else (polyglotlaw03_TagMore.j0 k a0 t118 (t118 != bt130.2.2.2.2) t112 t113 t114 t115 t121 t122 t123 t124 bt130.1 bt130.2.1 bt130.2.2.1 bt130.2.2.2.1))) = some r := H
      have A9 := Aside0.mk A90
      clear A90
      replace H := Option.bind_eq_some_iff.mp H
      obtain ⟨⟨t130, t131, t132, t133, t136⟩, A100, H⟩ := H
      replace H : (if (t118 != t127) = true then (polyglotlaw03_TagMore.j0 k a0 t118 true t112 t113 t114 t115 t121 t122 t123 t124 t130 t131 t132 t133) else (polyglotlaw03_TagMore.j0 k a0 t118 (t118 != t136) t112 t113 t114 t115 t121 t122 t123 t124 t130 t131 t132 t133)) = some r := H
      have A10 := Aside0.mk A100
      clear A100
      have HC11 := Aside0.mk H
      clear H
      go_enter Tryd.func6, Tryd.ntmps6
      go_upto_region 8 with (first | ((with_reducible refine gate_callee (f := 14) rfl ?_); refine goesL_ (some 15) rfl rfl Tryd.func14 (by kernel_rfl) rfl #[] rfl (by (try simp only [List.map_toArray, List.map_cons, List.map_nil]); first | done | rfl | (simp only [List.length_drop, List.length_take]; rfl)) ?_; (with_reducible refine (law03_head.calls  true _ A2.out).mono ?_); rintro e w12 ⟨rfl, hb⟩; refine ⟨_, rfl, ?_⟩; have n0_ := Aside0.mk (below_step (by repeat (first | (with_reducible first | exact HB.out | apply below_alloc | apply pw_below_drewN | apply below_drew1) | exact HB.out)) hb); clear HB; have HB := n0_; clear n0_; (try clear hb); (try clear hb2); (try clear hk); (try clear hi)) | ((with_reducible refine gate_callee (f := 15) rfl ?_); refine goesL_ (some 22) rfl rfl Tryd.func15 (by kernel_rfl) rfl #[.string a0] rfl (by (try simp only [List.map_toArray, List.map_cons, List.map_nil]); first | done | rfl | (simp only [List.length_drop, List.length_take]; rfl)) ?_; (with_reducible refine (tag_Parse.calls a0 t112 t113 t114 t115 t118 _ A6.out).mono ?_); rintro e w13 ⟨v116, rfl, ho0, hb⟩; refine ⟨_, rfl, ?_⟩; have n0_ := Aside0.mk (Kd.R_lower ho0 (below_size (by repeat (first | (with_reducible first | exact HB.out | apply below_alloc | apply pw_below_drewN | apply below_drew1) | exact HB.out)))); have n1_ := Aside0.mk (below_step (by repeat (first | (with_reducible first | exact HB.out | apply below_alloc | apply pw_below_drewN | apply below_drew1) | exact HB.out)) hb); clear HB; have HO117 := n0_; have HB := n1_; clear n0_ n1_; (try clear hb); (try clear hb2); (try clear hk); (try clear hi); (try clear ho0)) | ((with_reducible refine gate_dst (N := 3) rfl ?_); refine box_event ?hg (N := 3) ?hd (cs := #[.string (⟨#[]⟩ : ByteArray), .string (⟨#[]⟩ : ByteArray), .string (⟨#[]⟩ : ByteArray), .slice none 0 0]) (t := 25) ?hr ?_; (case hd => rfl); (case hg => rfl); (case hr => first | (go_simp; done) | (go_simp; rfl)); intro gb119 hg w14 hbox hb; have n0_ := Aside0.mk (Kd.R_below (by (with_reducible repeat (first | apply Kd.R_alloc | apply Kd.R_drewN | apply Kd.R_drew)); exact HO117.out) hb); have n1_ := Aside0.mk (below_step (by repeat (first | (with_reducible first | exact HB.out | apply below_alloc | apply pw_below_drewN | apply below_drew1) | exact HB.out)) hb); have n2_ := Aside0.mk (hbox); have n3_ := Aside0.mk ((by rw [hg]; exact (below_size (by repeat (first | (with_reducible first | exact HB.out | apply below_alloc | apply pw_below_drewN | apply below_drew1) | exact HB.out))) : w.heap.size ≤ gb119)); have n4_ := Aside0.mk ((by rw [hg]; exact (below_size (by repeat (first | (with_reducible first | exact HB.out | apply below_alloc | apply pw_below_drewN | apply below_drew1) | exact HB.out))) : w.heap.size ≤ gb119)); clear HO117; clear HB; have HO117 := n0_; have HB := n1_; have BK119 := n2_; have GW119 := n3_; have GE119 := n4_; clear n0_ n1_ n2_ n3_ n4_; clear hb hbox hg; have hcz15_0 : w14.cell? ⟨gb119, 0, none⟩ = some (.string (⟨#[]⟩ : ByteArray)) := (blk_cell BK119.out 0).trans rfl; have hcz15_1 : w14.cell? ⟨gb119, 1, none⟩ = some (.string (⟨#[]⟩ : ByteArray)) := (blk_cell BK119.out 1).trans rfl; have hcz15_2 : w14.cell? ⟨gb119, 2, none⟩ = some (.string (⟨#[]⟩ : ByteArray)) := (blk_cell BK119.out 2).trans rfl; have hcz15_3 : w14.cell? ⟨gb119, 3, none⟩ = some (.slice none 0 0) := (blk_cell BK119.out 3).trans rfl; have hfz15_0 := blk_frozen BK119.out 0; have hfz15_1 := blk_frozen BK119.out 1; have hfz15_2 := blk_frozen BK119.out 2; have hfz15_3 := blk_frozen BK119.out 3; obtain ⟨Ao16, co16, eo16⟩ := Kd.R_slice HO117.out; subst eo16) | ((with_reducible refine gate_callee (f := 21) rfl ?_); refine goesL_ (some 27) rfl rfl Tryd.func21 (by kernel_rfl) rfl #[.string a0] rfl (by (try simp only [List.map_toArray, List.map_cons, List.map_nil]); first | done | rfl | (simp only [List.length_drop, List.length_take]; rfl)) ?_; (with_reducible refine (law03_big.calls a0 t120 _ A7.out).mono ?_); rintro e w17 ⟨rfl, hb⟩; refine ⟨_, rfl, ?_⟩; have n0_ := Aside0.mk (Kd.R_below (by (with_reducible repeat (first | apply Kd.R_alloc | apply Kd.R_drewN | apply Kd.R_drew)); exact (Kd.R_mono (Kd.R_far (p := ⟨gb119, 3, none⟩) (Kd.R_far (p := ⟨gb119, 2, none⟩) (Kd.R_far (p := ⟨gb119, 1, none⟩) (Kd.R_far (p := ⟨gb119, 0, none⟩) (Kd.R_types HO117.out BK119.out (by decide)) (fun _ hk => hk.2) (.string t112)) (fun _ hk => hk.2) (.string t113)) (fun _ hk => hk.2) (.string t114)) (fun _ hk => hk.2) (.slice Ao16 t115.length co16)) (fun _ h_ => h_.1))) hb); have n1_ := Aside0.mk (blk_below (g := gb119) (o := .cells #[.string t112, .string t113, .string t114, .slice Ao16 t115.length co16] 25 (0, 0)) (by (with_reducible repeat (first | refine blk_drewN ?_ _ | refine blk_drew ?_ | refine blk_alloc ?_ _)); refine blk_put (cs := #[.string t112, .string t113, .string t114, .slice none 0 0]) ?_ 3 _ rfl; (with_reducible repeat (first | refine blk_drewN ?_ _ | refine blk_drew ?_ | refine blk_alloc ?_ _)); refine blk_put (cs := #[.string t112, .string t113, .string (⟨#[]⟩ : ByteArray), .slice none 0 0]) ?_ 2 _ rfl; (with_reducible repeat (first | refine blk_drewN ?_ _ | refine blk_drew ?_ | refine blk_alloc ?_ _)); refine blk_put (cs := #[.string t112, .string (⟨#[]⟩ : ByteArray), .string (⟨#[]⟩ : ByteArray), .slice none 0 0]) ?_ 1 _ rfl; (with_reducible repeat (first | refine blk_drewN ?_ _ | refine blk_drew ?_ | refine blk_alloc ?_ _)); refine blk_put (cs := #[.string (⟨#[]⟩ : ByteArray), .string (⟨#[]⟩ : ByteArray), .string (⟨#[]⟩ : ByteArray), .slice none 0 0]) ?_ 0 _ rfl; (with_reducible repeat (first | refine blk_drewN ?_ _ | refine blk_drew ?_ | refine blk_alloc ?_ _)); exact BK119.out) hb); have n2_ := Aside0.mk (below_step (by repeat (first | (with_reducible first | exact HB.out | apply below_alloc | apply pw_below_drewN | apply below_drew1 | refine below_set ?_ GE119.out) | exact HB.out)) hb); clear HO117; clear BK119; clear HB; have HO117 := n0_; have BK119 := n1_; have HB := n2_; clear n0_ n1_ n2_; (try clear hb); (try clear hb2); (try clear hk); (try clear hi)) | ((with_reducible refine gate_callee (f := 15) rfl ?_); refine goesL_ (some 28) rfl rfl Tryd.func15 (by kernel_rfl) rfl #[.string t120] rfl (by (try simp only [List.map_toArray, List.map_cons, List.map_nil]); first | done | rfl | (simp only [List.length_drop, List.length_take]; rfl)) ?_; (with_reducible refine (tag_Parse.calls t120 t121 t122 t123 t124 t127 _ A8.out).mono ?_); rintro e w18 ⟨v125, rfl, ho0, hb⟩; refine ⟨_, rfl, ?_⟩; have n0_ := Aside0.mk (Kd.R_elder' (by (with_reducible repeat (first | apply Kd.R_alloc | apply Kd.R_drewN | apply Kd.R_drew)); exact HO117.out) (Kd.R_base ho0) hb); have n1_ := Aside0.mk (Kd.R_lower (Kd.R_new' ho0 (Kd.R_lt (by (with_reducible repeat (first | apply Kd.R_alloc | apply Kd.R_drewN | apply Kd.R_drew)); exact HO117.out))) (below_size (by repeat (first | (with_reducible first | exact HB.out | apply below_alloc | apply pw_below_drewN | apply below_drew1 | refine below_set ?_ GE119.out) | exact HB.out)))); have n2_ := Aside0.mk (blk_below (g := gb119) (o := .cells #[.string t112, .string t113, .string t114, .slice Ao16 t115.length co16] 25 (0, 0)) (by (with_reducible repeat (first | refine blk_drewN ?_ _ | refine blk_drew ?_ | refine blk_alloc ?_ _)); exact BK119.out) hb); have n3_ := Aside0.mk (below_step (by repeat (first | (with_reducible first | exact HB.out | apply below_alloc | apply pw_below_drewN | apply below_drew1 | refine below_set ?_ GE119.out) | exact HB.out)) hb); clear HO117; clear BK119; clear HB; have HO117 := n0_; have HO126 := n1_; have BK119 := n2_; have HB := n3_; clear n0_ n1_ n2_ n3_; (try clear hb); (try clear hb2); (try clear hk); (try clear hi); (try clear ho0)) | ((with_reducible refine gate_dst (N := 5) rfl ?_); refine box_event ?hg (N := 5) ?hd (cs := #[.string (⟨#[]⟩ : ByteArray), .string (⟨#[]⟩ : ByteArray), .string (⟨#[]⟩ : ByteArray), .slice none 0 0]) (t := 25) ?hr ?_; (case hd => rfl); (case hg => rfl); (case hr => first | (go_simp; done) | (go_simp; rfl)); intro gb128 hg w19 hbox hb; have n0_ := Aside0.mk (Kd.R_below (by (with_reducible repeat (first | apply Kd.R_alloc | apply Kd.R_drewN | apply Kd.R_drew)); exact HO117.out) hb); have n1_ := Aside0.mk (Kd.R_below (by (with_reducible repeat (first | apply Kd.R_alloc | apply Kd.R_drewN | apply Kd.R_drew)); exact HO126.out) hb); have n2_ := Aside0.mk (blk_below (g := gb119) (o := .cells #[.string t112, .string t113, .string t114, .slice Ao16 t115.length co16] 25 (0, 0)) (by (with_reducible repeat (first | refine blk_drewN ?_ _ | refine blk_drew ?_ | refine blk_alloc ?_ _)); exact BK119.out) hb); have n3_ := Aside0.mk (below_step (by repeat (first | (with_reducible first | exact HB.out | apply below_alloc | apply pw_below_drewN | apply below_drew1 | refine below_set ?_ GE119.out) | exact HB.out)) hb); have n4_ := Aside0.mk (hbox); have n5_ := Aside0.mk ((by rw [hg]; exact (below_size (by repeat (first | (with_reducible first | exact HB.out | apply below_alloc | apply pw_below_drewN | apply below_drew1 | refine below_set ?_ GE119.out) | exact HB.out))) : w.heap.size ≤ gb128)); have n6_ := Aside0.mk ((by rw [hg]; exact (below_size (by repeat (first | (with_reducible first | exact HB.out | apply below_alloc | apply pw_below_drewN | apply below_drew1 | refine below_set ?_ GE119.out) | exact HB.out))) : w.heap.size ≤ gb128)); have n7_ := Aside0.mk ((by rw [hg]; exact Nat.ne_of_lt (blk_lt (g := gb119) (o := .cells #[.string t112, .string t113, .string t114, .slice Ao16 t115.length co16] 25 (0, 0)) (by (with_reducible repeat (first | refine blk_drewN ?_ _ | refine blk_drew ?_ | refine blk_alloc ?_ _)); exact BK119.out)) : gb119 ≠ gb128)); have n8_ := Aside0.mk ((by rw [hg]; exact Nat.ne_of_gt (blk_lt (g := gb119) (o := .cells #[.string t112, .string t113, .string t114, .slice Ao16 t115.length co16] 25 (0, 0)) (by (with_reducible repeat (first | refine blk_drewN ?_ _ | refine blk_drew ?_ | refine blk_alloc ?_ _)); exact BK119.out)) : gb128 ≠ gb119)); clear HO117; clear HO126; clear BK119; clear HB; have HO117 := n0_; have HO126 := n1_; have BK119 := n2_; have HB := n3_; have BK128 := n4_; have GW128 := n5_; have GE128 := n6_; have NB119_128 := n7_; have NB128_119 := n8_; clear n0_ n1_ n2_ n3_ n4_ n5_ n6_ n7_ n8_; clear hb hbox hg; have hnb20 := NB128_119.out; have hnc20 := NB119_128.out; have hcz21_0 : w19.cell? ⟨gb128, 0, none⟩ = some (.string (⟨#[]⟩ : ByteArray)) := (blk_cell BK128.out 0).trans rfl; have hcz21_1 : w19.cell? ⟨gb128, 1, none⟩ = some (.string (⟨#[]⟩ : ByteArray)) := (blk_cell BK128.out 1).trans rfl; have hcz21_2 : w19.cell? ⟨gb128, 2, none⟩ = some (.string (⟨#[]⟩ : ByteArray)) := (blk_cell BK128.out 2).trans rfl; have hcz21_3 : w19.cell? ⟨gb128, 3, none⟩ = some (.slice none 0 0) := (blk_cell BK128.out 3).trans rfl; have hfz21_0 := blk_frozen BK128.out 0; have hfz21_1 := blk_frozen BK128.out 1; have hfz21_2 := blk_frozen BK128.out 2; have hfz21_3 := blk_frozen BK128.out 3; obtain ⟨Ao22, co22, eo22⟩ := Kd.R_slice HO126.out; subst eo22) | ((with_reducible refine gate_callee (f := 22) rfl ?_); refine goesL_ (some 33) rfl rfl Tryd.func22 (by kernel_rfl) rfl #[.string a0] rfl (by (try simp only [List.map_toArray, List.map_cons, List.map_nil]); first | done | rfl | (simp only [List.length_drop, List.length_take]; rfl)) ?_; (with_reducible refine (law03_small.calls a0 t129 _ A9.out).mono ?_); rintro e w23 ⟨rfl, hb⟩; refine ⟨_, rfl, ?_⟩; have n0_ := Aside0.mk (Kd.R_below (by (with_reducible repeat (first | apply Kd.R_alloc | apply Kd.R_drewN | apply Kd.R_drew)); exact (Kd.R_mono (Kd.R_far (p := ⟨gb128, 3, none⟩) (Kd.R_far (p := ⟨gb128, 2, none⟩) (Kd.R_far (p := ⟨gb128, 1, none⟩) (Kd.R_far (p := ⟨gb128, 0, none⟩) (Kd.R_types HO117.out BK128.out (by decide)) (fun _ hk => hk.2) (.string t121)) (fun _ hk => hk.2) (.string t122)) (fun _ hk => hk.2) (.string t123)) (fun _ hk => hk.2) (.slice Ao22 t124.length co22)) (fun _ h_ => h_.1))) hb); have n1_ := Aside0.mk (Kd.R_below (by (with_reducible repeat (first | apply Kd.R_alloc | apply Kd.R_drewN | apply Kd.R_drew)); exact (Kd.R_mono (Kd.R_far (p := ⟨gb128, 3, none⟩) (Kd.R_far (p := ⟨gb128, 2, none⟩) (Kd.R_far (p := ⟨gb128, 1, none⟩) (Kd.R_far (p := ⟨gb128, 0, none⟩) (Kd.R_types HO126.out BK128.out (by decide)) (fun _ hk => hk.2) (.string t121)) (fun _ hk => hk.2) (.string t122)) (fun _ hk => hk.2) (.string t123)) (fun _ hk => hk.2) (.slice Ao22 t124.length co22)) (fun _ h_ => h_.1))) hb); have n2_ := Aside0.mk (blk_below (g := gb119) (o := .cells #[.string t112, .string t113, .string t114, .slice Ao16 t115.length co16] 25 (0, 0)) (by (with_reducible repeat (first | refine blk_drewN ?_ _ | refine blk_drew ?_ | refine blk_alloc ?_ _)); refine blk_far ?_ NB119_128.out _; (with_reducible repeat (first | refine blk_drewN ?_ _ | refine blk_drew ?_ | refine blk_alloc ?_ _)); refine blk_far ?_ NB119_128.out _; (with_reducible repeat (first | refine blk_drewN ?_ _ | refine blk_drew ?_ | refine blk_alloc ?_ _)); refine blk_far ?_ NB119_128.out _; (with_reducible repeat (first | refine blk_drewN ?_ _ | refine blk_drew ?_ | refine blk_alloc ?_ _)); refine blk_far ?_ NB119_128.out _; (with_reducible repeat (first | refine blk_drewN ?_ _ | refine blk_drew ?_ | refine blk_alloc ?_ _)); exact BK119.out) hb); have n3_ := Aside0.mk (blk_below (g := gb128) (o := .cells #[.string t121, .string t122, .string t123, .slice Ao22 t124.length co22] 25 (0, 0)) (by (with_reducible repeat (first | refine blk_drewN ?_ _ | refine blk_drew ?_ | refine blk_alloc ?_ _)); refine blk_put (cs := #[.string t121, .string t122, .string t123, .slice none 0 0]) ?_ 3 _ rfl; (with_reducible repeat (first | refine blk_drewN ?_ _ | refine blk_drew ?_ | refine blk_alloc ?_ _)); refine blk_put (cs := #[.string t121, .string t122, .string (⟨#[]⟩ : ByteArray), .slice none 0 0]) ?_ 2 _ rfl; (with_reducible repeat (first | refine blk_drewN ?_ _ | refine blk_drew ?_ | refine blk_alloc ?_ _)); refine blk_put (cs := #[.string t121, .string (⟨#[]⟩ : ByteArray), .string (⟨#[]⟩ : ByteArray), .slice none 0 0]) ?_ 1 _ rfl; (with_reducible repeat (first | refine blk_drewN ?_ _ | refine blk_drew ?_ | refine blk_alloc ?_ _)); refine blk_put (cs := #[.string (⟨#[]⟩ : ByteArray), .string (⟨#[]⟩ : ByteArray), .string (⟨#[]⟩ : ByteArray), .slice none 0 0]) ?_ 0 _ rfl; (with_reducible repeat (first | refine blk_drewN ?_ _ | refine blk_drew ?_ | refine blk_alloc ?_ _)); exact BK128.out) hb); have n4_ := Aside0.mk (below_step (by repeat (first | (with_reducible first | exact HB.out | apply below_alloc | apply pw_below_drewN | apply below_drew1 | refine below_set ?_ GE119.out | refine below_set ?_ GE128.out) | exact HB.out)) hb); clear HO117; clear HO126; clear BK119; clear BK128; clear HB; have HO117 := n0_; have HO126 := n1_; have BK119 := n2_; have BK128 := n3_; have HB := n4_; clear n0_ n1_ n2_ n3_ n4_; (try clear hb); (try clear hb2); (try clear hk); (try clear hi)) | ((with_reducible refine gate_callee (f := 15) rfl ?_); refine goesL_ (some 34) rfl rfl Tryd.func15 (by kernel_rfl) rfl #[.string t129] rfl (by (try simp only [List.map_toArray, List.map_cons, List.map_nil]); first | done | rfl | (simp only [List.length_drop, List.length_take]; rfl)) ?_; (with_reducible refine (tag_Parse.calls t129 t130 t131 t132 t133 t136 _ A10.out).mono ?_); rintro e w24 ⟨v134, rfl, ho0, hb⟩; refine ⟨_, rfl, ?_⟩; have n0_ := Aside0.mk (Kd.R_elder' (by (with_reducible repeat (first | apply Kd.R_alloc | apply Kd.R_drewN | apply Kd.R_drew)); exact HO117.out) (Kd.R_base ho0) hb); have n1_ := Aside0.mk (Kd.R_elder' (by (with_reducible repeat (first | apply Kd.R_alloc | apply Kd.R_drewN | apply Kd.R_drew)); exact HO126.out) (Kd.R_base ho0) hb); have n2_ := Aside0.mk (Kd.R_lower (Kd.R_new' (Kd.R_new' ho0 (Kd.R_lt (by (with_reducible repeat (first | apply Kd.R_alloc | apply Kd.R_drewN | apply Kd.R_drew)); exact HO117.out))) (Kd.R_lt (by (with_reducible repeat (first | apply Kd.R_alloc | apply Kd.R_drewN | apply Kd.R_drew)); exact HO126.out))) (below_size (by repeat (first | (with_reducible first | exact HB.out | apply below_alloc | apply pw_below_drewN | apply below_drew1 | refine below_set ?_ GE119.out | refine below_set ?_ GE128.out) | exact HB.out)))); have n3_ := Aside0.mk (blk_below (g := gb119) (o := .cells #[.string t112, .string t113, .string t114, .slice Ao16 t115.length co16] 25 (0, 0)) (by (with_reducible repeat (first | refine blk_drewN ?_ _ | refine blk_drew ?_ | refine blk_alloc ?_ _)); exact BK119.out) hb); have n4_ := Aside0.mk (blk_below (g := gb128) (o := .cells #[.string t121, .string t122, .string t123, .slice Ao22 t124.length co22] 25 (0, 0)) (by (with_reducible repeat (first | refine blk_drewN ?_ _ | refine blk_drew ?_ | refine blk_alloc ?_ _)); exact BK128.out) hb); have n5_ := Aside0.mk (below_step (by repeat (first | (with_reducible first | exact HB.out | apply below_alloc | apply pw_below_drewN | apply below_drew1 | refine below_set ?_ GE119.out | refine below_set ?_ GE128.out) | exact HB.out)) hb); clear HO117; clear HO126; clear BK119; clear BK128; clear HB; have HO117 := n0_; have HO126 := n1_; have HO135 := n2_; have BK119 := n3_; have BK128 := n4_; have HB := n5_; clear n0_ n1_ n2_ n3_ n4_ n5_; (try clear hb); (try clear hb2); (try clear hk); (try clear hi); (try clear ho0)) | ((with_reducible refine gate_dst (N := 7) rfl ?_); refine box_event ?hg (N := 7) ?hd (cs := #[.string (⟨#[]⟩ : ByteArray), .string (⟨#[]⟩ : ByteArray), .string (⟨#[]⟩ : ByteArray), .slice none 0 0]) (t := 25) ?hr ?_; (case hd => rfl); (case hg => rfl); (case hr => first | (go_simp; done) | (go_simp; rfl)); intro gb137 hg w25 hbox hb; have n0_ := Aside0.mk (Kd.R_below (by (with_reducible repeat (first | apply Kd.R_alloc | apply Kd.R_drewN | apply Kd.R_drew)); exact HO117.out) hb); have n1_ := Aside0.mk (Kd.R_below (by (with_reducible repeat (first | apply Kd.R_alloc | apply Kd.R_drewN | apply Kd.R_drew)); exact HO126.out) hb); have n2_ := Aside0.mk (Kd.R_below (by (with_reducible repeat (first | apply Kd.R_alloc | apply Kd.R_drewN | apply Kd.R_drew)); exact HO135.out) hb); have n3_ := Aside0.mk (blk_below (g := gb119) (o := .cells #[.string t112, .string t113, .string t114, .slice Ao16 t115.length co16] 25 (0, 0)) (by (with_reducible repeat (first | refine blk_drewN ?_ _ | refine blk_drew ?_ | refine blk_alloc ?_ _)); exact BK119.out) hb); have n4_ := Aside0.mk (blk_below (g := gb128) (o := .cells #[.string t121, .string t122, .string t123, .slice Ao22 t124.length co22] 25 (0, 0)) (by (with_reducible repeat (first | refine blk_drewN ?_ _ | refine blk_drew ?_ | refine blk_alloc ?_ _)); exact BK128.out) hb); have n5_ := Aside0.mk (below_step (by repeat (first | (with_reducible first | exact HB.out | apply below_alloc | apply pw_below_drewN | apply below_drew1 | refine below_set ?_ GE119.out | refine below_set ?_ GE128.out) | exact HB.out)) hb); have n6_ := Aside0.mk (hbox); have n7_ := Aside0.mk ((by rw [hg]; exact (below_size (by repeat (first | (with_reducible first | exact HB.out | apply below_alloc | apply pw_below_drewN | apply below_drew1 | refine below_set ?_ GE119.out | refine below_set ?_ GE128.out) | exact HB.out))) : w.heap.size ≤ gb137)); have n8_ := Aside0.mk ((by rw [hg]; exact (below_size (by repeat (first | (with_reducible first | exact HB.out | apply below_alloc | apply pw_below_drewN | apply below_drew1 | refine below_set ?_ GE119.out | refine below_set ?_ GE128.out) | exact HB.out))) : w.heap.size ≤ gb137)); have n9_ := Aside0.mk ((by rw [hg]; exact Nat.ne_of_lt (blk_lt (g := gb119) (o := .cells #[.string t112, .string t113, .string t114, .slice Ao16 t115.length co16] 25 (0, 0)) (by (with_reducible repeat (first | refine blk_drewN ?_ _ | refine blk_drew ?_ | refine blk_alloc ?_ _)); exact BK119.out)) : gb119 ≠ gb137)); have n10_ := Aside0.mk ((by rw [hg]; exact Nat.ne_of_gt (blk_lt (g := gb119) (o := .cells #[.string t112, .string t113, .string t114, .slice Ao16 t115.length co16] 25 (0, 0)) (by (with_reducible repeat (first | refine blk_drewN ?_ _ | refine blk_drew ?_ | refine blk_alloc ?_ _)); exact BK119.out)) : gb137 ≠ gb119)); have n11_ := Aside0.mk ((by rw [hg]; exact Nat.ne_of_lt (blk_lt (g := gb128) (o := .cells #[.string t121, .string t122, .string t123, .slice Ao22 t124.length co22] 25 (0, 0)) (by (with_reducible repeat (first | refine blk_drewN ?_ _ | refine blk_drew ?_ | refine blk_alloc ?_ _)); exact BK128.out)) : gb128 ≠ gb137)); have n12_ := Aside0.mk ((by rw [hg]; exact Nat.ne_of_gt (blk_lt (g := gb128) (o := .cells #[.string t121, .string t122, .string t123, .slice Ao22 t124.length co22] 25 (0, 0)) (by (with_reducible repeat (first | refine blk_drewN ?_ _ | refine blk_drew ?_ | refine blk_alloc ?_ _)); exact BK128.out)) : gb137 ≠ gb128)); clear HO117; clear HO126; clear HO135; clear BK119; clear BK128; clear HB; have HO117 := n0_; have HO126 := n1_; have HO135 := n2_; have BK119 := n3_; have BK128 := n4_; have HB := n5_; have BK137 := n6_; have GW137 := n7_; have GE137 := n8_; have NB119_137 := n9_; have NB137_119 := n10_; have NB128_137 := n11_; have NB137_128 := n12_; clear n0_ n1_ n2_ n3_ n4_ n5_ n6_ n7_ n8_ n9_ n10_ n11_ n12_; clear hb hbox hg; have hnb26 := NB137_119.out; have hnc26 := NB119_137.out; have hnb27 := NB137_128.out; have hnc27 := NB128_137.out; have hcz28_0 : w25.cell? ⟨gb137, 0, none⟩ = some (.string (⟨#[]⟩ : ByteArray)) := (blk_cell BK137.out 0).trans rfl; have hcz28_1 : w25.cell? ⟨gb137, 1, none⟩ = some (.string (⟨#[]⟩ : ByteArray)) := (blk_cell BK137.out 1).trans rfl; have hcz28_2 : w25.cell? ⟨gb137, 2, none⟩ = some (.string (⟨#[]⟩ : ByteArray)) := (blk_cell BK137.out 2).trans rfl; have hcz28_3 : w25.cell? ⟨gb137, 3, none⟩ = some (.slice none 0 0) := (blk_cell BK137.out 3).trans rfl; have hfz28_0 := blk_frozen BK137.out 0; have hfz28_1 := blk_frozen BK137.out 1; have hfz28_2 := blk_frozen BK137.out 2; have hfz28_3 := blk_frozen BK137.out 3; obtain ⟨Ao29, co29, eo29⟩ := Kd.R_slice HO135.out; subst eo29))
      (try simp only [Act.put, List.setIfInBounds_toArray, List.set_cons_zero, List.set_cons_succ])
      go_cut [44] (fun v44 wc => ∃ (kq : Nat) (x44_10 : Bool), v44 = .bool x44_10 ∧ Aside0 (polyglotlaw03_TagMore.j0 kq a0 t118 x44_10 t112 t113 t114 t115 t121 t122 t123 t124 t130 t131 t132 t133 = some r) ∧ Aside0 (kq ≤ k) ∧ Aside0 (Kd.R Kd.string 9 wc w.heap.size (fun k_ => some k_ ≠ ((.slice Ao22 t124.length co22) : Value).ownBlock ∧ some k_ ≠ ((.slice Ao29 t133.length co29) : Value).ownBlock) (.slice Ao16 t115.length co16) t115) ∧ Aside0 (Kd.R Kd.string 9 wc w.heap.size (fun k_ => some k_ ≠ ((.slice Ao16 t115.length co16) : Value).ownBlock ∧ some k_ ≠ ((.slice Ao29 t133.length co29) : Value).ownBlock) (.slice Ao22 t124.length co22) t124) ∧ Aside0 (Kd.R Kd.string 9 wc w.heap.size (fun k_ => some k_ ≠ ((.slice Ao16 t115.length co16) : Value).ownBlock ∧ some k_ ≠ ((.slice Ao22 t124.length co22) : Value).ownBlock) (.slice Ao29 t133.length co29) t133) ∧ Aside0 (wc.heap[gb119]? = some (.cells #[.string t112, .string t113, .string t114, (.slice Ao16 t115.length co16)] 25 (0, 0))) ∧ Aside0 (wc.heap[gb128]? = some (.cells #[.string t121, .string t122, .string t123, (.slice Ao22 t124.length co22)] 25 (0, 0))) ∧ Aside0 (wc.heap[gb137]? = some (.cells #[.string t130, .string t131, .string t132, (.slice Ao29 t133.length co29)] 25 (0, 0))) ∧ Aside0 (Below w.heap.size w wc))
      case first =>
        have H := HC11.out
        clear HC11
        by_cases c30 : (t118 != t127) = true
        · rw [if_pos c30] at H
          have c30b0 : (t118 != t127) = true := c30
          (try (have c30b1 : decide (t118 = t127) = false := by simpa using c30))
          (try (have c30b2 : (t118 == t127) = false := by simpa using c30))
          (try (have c30b3 : ¬ (t118 = t127) := by simpa using c30))
          clear c30
          (first | rw [c30b0] | (simp only [i64_w, i32_w]; rw [c30b0]) | skip)
          exact absurd H (by rw [hr_.out]; cases k <;> simp [polyglotlaw03_TagMore.j0])
        · rw [if_neg c30] at H
          have c30b0 : (t118 != t127) = false := by simpa using c30
          (try (have c30b1 : decide (t118 = t127) = true := by simpa using c30))
          (try (have c30b2 : (t118 == t127) = true := by simpa using c30))
          clear c30
          (first | rw [c30b0] | (simp only [i64_w, i32_w]; rw [c30b0]) | skip)
          have H' := Aside0.mk H
          clear H
          go_wp2
          go_meet
          case rel => exact ⟨_, ((t118 != t136)), (by first | rfl | (simp; done) | (simp [*]; done)), H', ⟨by first | omega | exact Nat.le_refl _⟩, ⟨by (with_reducible repeat (first | apply Kd.R_alloc | apply Kd.R_drewN | apply Kd.R_drew)); exact Kd.R_mono (Kd.R_far (p := ⟨gb137, 3, none⟩) (Kd.R_far (p := ⟨gb137, 2, none⟩) (Kd.R_far (p := ⟨gb137, 1, none⟩) (Kd.R_far (p := ⟨gb137, 0, none⟩) (Kd.R_types HO117.out BK137.out (by decide)) (fun _ hk => hk.2) (.string t130)) (fun _ hk => hk.2) (.string t131)) (fun _ hk => hk.2) (.string t132)) (fun _ hk => hk.2) (.slice Ao29 t133.length co29)) (fun _ hk => ⟨hk.1.1.2, hk.1.2⟩)⟩, ⟨by (with_reducible repeat (first | apply Kd.R_alloc | apply Kd.R_drewN | apply Kd.R_drew)); exact Kd.R_mono (Kd.R_far (p := ⟨gb137, 3, none⟩) (Kd.R_far (p := ⟨gb137, 2, none⟩) (Kd.R_far (p := ⟨gb137, 1, none⟩) (Kd.R_far (p := ⟨gb137, 0, none⟩) (Kd.R_types HO126.out BK137.out (by decide)) (fun _ hk => hk.2) (.string t130)) (fun _ hk => hk.2) (.string t131)) (fun _ hk => hk.2) (.string t132)) (fun _ hk => hk.2) (.slice Ao29 t133.length co29)) (fun _ hk => ⟨hk.1.1.2, hk.1.2⟩)⟩, ⟨by (with_reducible repeat (first | apply Kd.R_alloc | apply Kd.R_drewN | apply Kd.R_drew)); exact Kd.R_mono (Kd.R_far (p := ⟨gb137, 3, none⟩) (Kd.R_far (p := ⟨gb137, 2, none⟩) (Kd.R_far (p := ⟨gb137, 1, none⟩) (Kd.R_far (p := ⟨gb137, 0, none⟩) (Kd.R_types HO135.out BK137.out (by decide)) (fun _ hk => hk.2) (.string t130)) (fun _ hk => hk.2) (.string t131)) (fun _ hk => hk.2) (.string t132)) (fun _ hk => hk.2) (.slice Ao29 t133.length co29)) (fun _ hk => ⟨hk.1.1.2, hk.1.2⟩)⟩, ⟨by (with_reducible repeat (first | refine blk_drewN ?_ _ | refine blk_drew ?_ | refine blk_alloc ?_ _)); refine blk_far ?_ NB119_137.out _; (with_reducible repeat (first | refine blk_drewN ?_ _ | refine blk_drew ?_ | refine blk_alloc ?_ _)); refine blk_far ?_ NB119_137.out _; (with_reducible repeat (first | refine blk_drewN ?_ _ | refine blk_drew ?_ | refine blk_alloc ?_ _)); refine blk_far ?_ NB119_137.out _; (with_reducible repeat (first | refine blk_drewN ?_ _ | refine blk_drew ?_ | refine blk_alloc ?_ _)); refine blk_far ?_ NB119_137.out _; (with_reducible repeat (first | refine blk_drewN ?_ _ | refine blk_drew ?_ | refine blk_alloc ?_ _)); exact BK119.out⟩, ⟨by (with_reducible repeat (first | refine blk_drewN ?_ _ | refine blk_drew ?_ | refine blk_alloc ?_ _)); refine blk_far ?_ NB128_137.out _; (with_reducible repeat (first | refine blk_drewN ?_ _ | refine blk_drew ?_ | refine blk_alloc ?_ _)); refine blk_far ?_ NB128_137.out _; (with_reducible repeat (first | refine blk_drewN ?_ _ | refine blk_drew ?_ | refine blk_alloc ?_ _)); refine blk_far ?_ NB128_137.out _; (with_reducible repeat (first | refine blk_drewN ?_ _ | refine blk_drew ?_ | refine blk_alloc ?_ _)); refine blk_far ?_ NB128_137.out _; (with_reducible repeat (first | refine blk_drewN ?_ _ | refine blk_drew ?_ | refine blk_alloc ?_ _)); exact BK128.out⟩, ⟨by (with_reducible repeat (first | refine blk_drewN ?_ _ | refine blk_drew ?_ | refine blk_alloc ?_ _)); refine blk_put (cs := #[.string t130, .string t131, .string t132, .slice none 0 0]) ?_ 3 _ rfl; (with_reducible repeat (first | refine blk_drewN ?_ _ | refine blk_drew ?_ | refine blk_alloc ?_ _)); refine blk_put (cs := #[.string t130, .string t131, .string (⟨#[]⟩ : ByteArray), .slice none 0 0]) ?_ 2 _ rfl; (with_reducible repeat (first | refine blk_drewN ?_ _ | refine blk_drew ?_ | refine blk_alloc ?_ _)); refine blk_put (cs := #[.string t130, .string (⟨#[]⟩ : ByteArray), .string (⟨#[]⟩ : ByteArray), .slice none 0 0]) ?_ 1 _ rfl; (with_reducible repeat (first | refine blk_drewN ?_ _ | refine blk_drew ?_ | refine blk_alloc ?_ _)); refine blk_put (cs := #[.string (⟨#[]⟩ : ByteArray), .string (⟨#[]⟩ : ByteArray), .string (⟨#[]⟩ : ByteArray), .slice none 0 0]) ?_ 0 _ rfl; (with_reducible repeat (first | refine blk_drewN ?_ _ | refine blk_drew ?_ | refine blk_alloc ?_ _)); exact BK137.out⟩, ⟨by repeat (first | (with_reducible first | exact HB.out | apply below_alloc | apply pw_below_drewN | apply below_drew1 | refine below_set ?_ GE119.out | refine below_set ?_ GE128.out | refine below_set ?_ GE137.out) | exact HB.out)⟩⟩
      case rest =>
        clear HC11
        try clear c1
        try clear c2
        try clear p2
        try clear c3
        try clear c4
        try clear c4b0
        try clear c4b1
        try clear c6
        try clear c14
        try clear c15
        try clear c20
        try clear c21
        try clear c22
        try clear c26
        try clear c27
        try clear c30
        try clear c30b0
        try clear c30b1
        try clear c30b2
        try clear hcz15_0
        try clear hcz15_1
        try clear hcz15_2
        try clear hcz15_3
        try clear hcz21_0
        try clear hcz21_1
        try clear hcz21_2
        try clear hcz21_3
        try clear hcz28_0
        try clear hcz28_1
        try clear hcz28_2
        try clear hcz28_3
        try clear hfz15_0
        try clear hfz15_1
        try clear hfz15_2
        try clear hfz15_3
        try clear hfz21_0
        try clear hfz21_1
        try clear hfz21_2
        try clear hfz21_3
        try clear hfz28_0
        try clear hfz28_1
        try clear hfz28_2
        try clear hfz28_3
        obtain ⟨kq, x44_10, rfl, HA, HJ10, HO_120003, HO_129003, HO_138003, BK119, BK128, BK137, HB⟩ := hcut
        cases kq with
        | zero => exact absurd HA.out (by simp [polyglotlaw03_TagMore.j0])
        | succ kj10 =>
          have H := HA.out
          clear HA
          simp only [polyglotlaw03_TagMore.j0] at H
          by_cases c31 : x44_10 = true
          · subst c31
            have H1 : (some false) = some r := by rw [if_pos rfl] at H; exact H
            clear H
            have H := H1
            clear H1
            exact absurd ((Option.some.inj H).trans hr_.out) (by decide)
          · replace c31 := Bool.eq_false_iff.mpr c31
            subst c31
            have H1 : (if t118 = true then (polyglotlaw03_TagMore.l0 kj10 a0 t115 (t115.length : Int) 0 t112 t113 t114 t115 t121 t122 t123 t124 t130 t131 t132 t133) else (some true)) = some r := by rw [if_neg (show ¬ (false = true) by decide)] at H; exact H
            clear H
            have H := H1
            clear H1
            by_cases c32 : t118 = true
            · subst c32
              have H1 : (polyglotlaw03_TagMore.l0 kj10 a0 t115 (t115.length : Int) 0 t112 t113 t114 t115 t121 t122 t123 t124 t130 t131 t132 t133) = some r := by rw [if_pos rfl] at H; exact H
              clear H
              have H := H1
              clear H1
              have H' := Aside0.mk H
              clear H
              have hnb33 := NB119_128.out
              have hnc33 := NB128_119.out
              have hnb34 := NB119_137.out
              have hnc34 := NB137_119.out
              have hcz35_0 : wc.cell? ⟨gb119, 0, none⟩ = some (.string t112) := (blk_cell BK119.out 0).trans rfl
              have hcz35_1 : wc.cell? ⟨gb119, 1, none⟩ = some (.string t113) := (blk_cell BK119.out 1).trans rfl
              have hcz35_2 : wc.cell? ⟨gb119, 2, none⟩ = some (.string t114) := (blk_cell BK119.out 2).trans rfl
              have hcz35_3 : wc.cell? ⟨gb119, 3, none⟩ = some (.slice Ao16 t115.length co16) := (blk_cell BK119.out 3).trans rfl
              have hfz35_0 := blk_frozen BK119.out 0
              have hfz35_1 := blk_frozen BK119.out 1
              have hfz35_2 := blk_frozen BK119.out 2
              have hfz35_3 := blk_frozen BK119.out 3
              go_wp2
              go_loopg [50] kj10 (fun kq v50 w' => ∃ (x50_l2 : Int), v50 = .int .i64 x50_l2 ∧ Aside0 (polyglotlaw03_TagMore.l0 kq a0 t115 (t115.length : Int) x50_l2 t112 t113 t114 t115 t121 t122 t123 t124 t130 t131 t132 t133 = some r) ∧ Aside0 (kq ≤ kj10) ∧ Aside0 (Kd.R Kd.string 9 w' w.heap.size (fun k_ => some k_ ≠ ((.slice Ao22 t124.length co22) : Value).ownBlock ∧ some k_ ≠ ((.slice Ao29 t133.length co29) : Value).ownBlock) (.slice Ao16 t115.length co16) t115) ∧ Aside0 (Kd.R Kd.string 9 w' w.heap.size (fun k_ => some k_ ≠ ((.slice Ao22 t124.length co22) : Value).ownBlock ∧ some k_ ≠ ((.slice Ao29 t133.length co29) : Value).ownBlock) (.slice Ao16 t115.length co16) t115) ∧ Aside0 (Kd.R Kd.string 9 w' w.heap.size (fun k_ => some k_ ≠ ((.slice Ao16 t115.length co16) : Value).ownBlock ∧ some k_ ≠ ((.slice Ao16 t115.length co16) : Value).ownBlock ∧ some k_ ≠ ((.slice Ao29 t133.length co29) : Value).ownBlock) (.slice Ao22 t124.length co22) t124) ∧ Aside0 (Kd.R Kd.string 9 w' w.heap.size (fun k_ => some k_ ≠ ((.slice Ao16 t115.length co16) : Value).ownBlock ∧ some k_ ≠ ((.slice Ao16 t115.length co16) : Value).ownBlock ∧ some k_ ≠ ((.slice Ao22 t124.length co22) : Value).ownBlock) (.slice Ao29 t133.length co29) t133) ∧ Aside0 (w'.heap[gb119]? = some (.cells #[.string t112, .string t113, .string t114, (.slice Ao16 t115.length co16)] 25 (0, 0))) ∧ Aside0 (w'.heap[gb128]? = some (.cells #[.string t121, .string t122, .string t123, (.slice Ao22 t124.length co22)] 25 (0, 0))) ∧ Aside0 (w'.heap[gb137]? = some (.cells #[.string t130, .string t131, .string t132, (.slice Ao29 t133.length co29)] 25 (0, 0))) ∧ Aside0 (Below w.heap.size w w'))
              case atStart => exact ⟨(0), (by first | rfl | (simp; done) | (simp [*]; done)), H', ⟨Nat.le_refl _⟩, ⟨by (with_reducible repeat (first | apply Kd.R_alloc | apply Kd.R_drewN | apply Kd.R_drew)); exact HO_120003.out⟩, ⟨by (with_reducible repeat (first | apply Kd.R_alloc | apply Kd.R_drewN | apply Kd.R_drew)); exact HO_120003.out⟩, ⟨by (with_reducible repeat (first | apply Kd.R_alloc | apply Kd.R_drewN | apply Kd.R_drew)); exact Kd.R_mono HO_129003.out (fun _ hk => ⟨hk.1, ⟨hk.1, hk.2⟩⟩)⟩, ⟨by (with_reducible repeat (first | apply Kd.R_alloc | apply Kd.R_drewN | apply Kd.R_drew)); exact Kd.R_mono HO_138003.out (fun _ hk => ⟨hk.1, ⟨hk.1, hk.2⟩⟩)⟩, ⟨by (with_reducible repeat (first | refine blk_drewN ?_ _ | refine blk_drew ?_ | refine blk_alloc ?_ _)); exact BK119.out⟩, ⟨by (with_reducible repeat (first | refine blk_drewN ?_ _ | refine blk_drew ?_ | refine blk_alloc ?_ _)); exact BK128.out⟩, ⟨by (with_reducible repeat (first | refine blk_drewN ?_ _ | refine blk_drew ?_ | refine blk_alloc ?_ _)); exact BK137.out⟩, ⟨by repeat (first | (with_reducible first | exact HB.out | apply below_alloc | apply pw_below_drewN | apply below_drew1 | refine below_set ?_ GE119.out | refine below_set ?_ GE128.out | refine below_set ?_ GE137.out) | exact HB.out)⟩⟩
              case round =>
                clear H'
                try clear c1
                try clear c2
                try clear p2
                try clear c3
                try clear c4
                try clear c4b0
                try clear c4b1
                try clear c6
                try clear c14
                try clear c15
                try clear c20
                try clear c21
                try clear c22
                try clear c26
                try clear c27
                try clear c30
                try clear c30b0
                try clear c30b1
                try clear c30b2
                try clear c31
                try clear c32
                try clear c33
                try clear c34
                try clear hcz15_0
                try clear hcz15_1
                try clear hcz15_2
                try clear hcz15_3
                try clear hcz21_0
                try clear hcz21_1
                try clear hcz21_2
                try clear hcz21_3
                try clear hcz28_0
                try clear hcz28_1
                try clear hcz28_2
                try clear hcz28_3
                try clear hcz35_0
                try clear hcz35_1
                try clear hcz35_2
                try clear hcz35_3
                try clear hfz15_0
                try clear hfz15_1
                try clear hfz15_2
                try clear hfz15_3
                try clear hfz21_0
                try clear hfz21_1
                try clear hfz21_2
                try clear hfz21_3
                try clear hfz28_0
                try clear hfz28_1
                try clear hfz28_2
                try clear hfz28_3
                try clear hfz35_0
                try clear hfz35_1
                try clear hfz35_2
                try clear hfz35_3
                try clear p2
                obtain ⟨x50_l2, rfl, HA, HK2, HO_48, HO_120003, HO_129003, HO_138003, BK119, BK128, BK137, HB⟩ := hrel
                cases gk with
                | zero => exact absurd HA.out (by simp [polyglotlaw03_TagMore.l0])
                | succ k2 =>
                  have H := HA.out
                  clear HA
                  simp only [polyglotlaw03_TagMore.l0] at H
                  by_cases c36 : x50_l2 < (t115.length : Int)
                  · rw [if_pos c36] at H
                    have c36b0 : decide (x50_l2 < (t115.length : Int)) = true := decide_eq_true c36
                    clear c36
                    by_cases c37 : 0 ≤ x50_l2
                    · rw [if_pos c37] at H
                      have c37b0 : decide (0 ≤ x50_l2) = true := decide_eq_true c37
                      clear c37
                      by_cases c38 : x50_l2 < (t115.length : Int)
                      · rw [if_pos c38] at H
                        have c38b0 : decide (x50_l2 < (t115.length : Int)) = true := decide_eq_true c38
                        clear c38
                        by_cases c39 : (rdOf ByteArray.empty t115 x50_l2).toList = ([122, 122, 122, 122, 122, 122, 122, 57] : List UInt8)
                        · rw [if_pos c39] at H
                          have c39b0 : ((rdOf ByteArray.empty t115 x50_l2).toList == ([122, 122, 122, 122, 122, 122, 122, 57] : List UInt8)) = true := beq_iff_eq.mpr c39
                          have c39b1 : ((rdOf ByteArray.empty t115 x50_l2).toList != ([122, 122, 122, 122, 122, 122, 122, 57] : List UInt8)) = false := bne_eq_false_iff_eq.mpr c39
                          clear c39
                          obtain rfl := Option.some.inj H
                          have p138 : 0 ≤ (x50_l2 : Int) := of_decide_eq_true (by first | (with_reducible assumption) | assumption)
                          have q138 : x50_l2 < (t115.length : Int) := of_decide_eq_true (by first | (with_reducible assumption) | assumption)
                          obtain ⟨ad138, e138, hx138_0⟩ := Kd.at_string (Kd.R_reads' HO_48.out).2.2 x50_l2 p138 q138
                          cases e138
                          replace p138 := eq_true p138
                          replace q138 := eq_true q138
                          go_wp2
                          go_ret
                          exact ⟨by first | rfl | (simp [errW_none, errW_some] <;> rfl) | (simp [*, errW_none, errW_some] <;> rfl), by repeat (first | (with_reducible first | exact HB.out | apply below_alloc | apply pw_below_drewN | apply below_drew1 | refine below_set ?_ GE119.out | refine below_set ?_ GE128.out | refine below_set ?_ GE137.out) | exact HB.out)⟩
                        · rw [if_neg c39] at H
                          have c39b0 : ((rdOf ByteArray.empty t115 x50_l2).toList == ([122, 122, 122, 122, 122, 122, 122, 57] : List UInt8)) = false := beq_eq_false_iff_ne.mpr c39
                          have c39b1 : ((rdOf ByteArray.empty t115 x50_l2).toList != ([122, 122, 122, 122, 122, 122, 122, 57] : List UInt8)) = true := bne_iff_ne.mpr c39
                          have H' := Aside0.mk H
                          clear H
                          have p138 : 0 ≤ (x50_l2 : Int) := of_decide_eq_true (by first | (with_reducible assumption) | assumption)
                          have q138 : x50_l2 < (t115.length : Int) := of_decide_eq_true (by first | (with_reducible assumption) | assumption)
                          obtain ⟨ad138, e138, hx138_0⟩ := Kd.at_string (Kd.R_reads' HO_48.out).2.2 x50_l2 p138 q138
                          cases e138
                          replace p138 := eq_true p138
                          replace q138 := eq_true q138
                          go_wp2
                          go_roundg k2
                          case measure => have := HJ10.out; have := HK2.out; omega
                          case rel => exact ⟨(wrap64 (x50_l2 + 1)), (by first | rfl | (simp; done) | (simp [*]; done)), H', ⟨by have := HJ10.out; have := HK2.out; omega⟩, ⟨by (with_reducible repeat (first | apply Kd.R_alloc | apply Kd.R_drewN | apply Kd.R_drew)); exact HO_48.out⟩, ⟨by (with_reducible repeat (first | apply Kd.R_alloc | apply Kd.R_drewN | apply Kd.R_drew)); exact HO_120003.out⟩, ⟨by (with_reducible repeat (first | apply Kd.R_alloc | apply Kd.R_drewN | apply Kd.R_drew)); exact HO_129003.out⟩, ⟨by (with_reducible repeat (first | apply Kd.R_alloc | apply Kd.R_drewN | apply Kd.R_drew)); exact HO_138003.out⟩, ⟨by (with_reducible repeat (first | refine blk_drewN ?_ _ | refine blk_drew ?_ | refine blk_alloc ?_ _)); exact BK119.out⟩, ⟨by (with_reducible repeat (first | refine blk_drewN ?_ _ | refine blk_drew ?_ | refine blk_alloc ?_ _)); exact BK128.out⟩, ⟨by (with_reducible repeat (first | refine blk_drewN ?_ _ | refine blk_drew ?_ | refine blk_alloc ?_ _)); exact BK137.out⟩, ⟨by repeat (first | (with_reducible first | exact HB.out | apply below_alloc | apply pw_below_drewN | apply below_drew1 | refine below_set ?_ GE119.out | refine below_set ?_ GE128.out | refine below_set ?_ GE137.out) | exact HB.out)⟩⟩
                      · rw [if_neg c38] at H
                        exact absurd H (by simp)
                    · rw [if_neg c37] at H
                      exact absurd H (by simp)
                  · rw [if_neg c36] at H
                    have c36b0 : decide (x50_l2 < (t115.length : Int)) = false := decide_eq_false c36
                    clear c36
                    by_cases c40 : a0.size + 9 ≤ 9223372036854775807
                    · rw [if_pos c40] at H
                      have c40b0 := eq_true c40
                      have c40b1 : decide (a0.size + 9 ≤ 9223372036854775807) = true := decide_eq_true c40
                      try have c40b2 : (9223372036854775807 < a0.size + 9) = False := eq_false (Nat.not_lt.2 c40)
                      replace H := Option.bind_eq_some_iff.mp H
                      obtain ⟨y139, hy1390, H⟩ := H
                      replace H : ((tag_Parse.f y139).bind fun bt140 => ((tag_Tag_Less.f bt140.1 bt140.2.1 bt140.2.2.1 bt140.2.2.2.1).bind fun bt148 => ((tag_Str.f t121 t122 t123 t124).bind fun t156 => ((tag_Str.f t112 t113 t114 t115).bind fun t157 => (if t156.toList = t157.toList then ((tag_Str.f t130 t131 t132 t133).bind fun t158 => ((tag_Str.f t112 t113 t114 t115).bind fun t159 => (if t158.toList = t159.toList then (if bt140.2.2.2.2 = true then (if bt148.2.2.2.2 = true then ((tag_Fit.f bt140.1 bt140.2.1 bt140.2.2.1 bt140.2.2.2.1 t112 t113 t114 t115).bind fun t160 => (if t160 = true then ((tag_Fit.f t112 t113 t114 t115 bt140.1 bt140.2.1 bt140.2.2.1 bt140.2.2.2.1).bind fun t161 => (if t161 = true then (some false) else ((tag_Str.f bt148.1 bt148.2.1 bt148.2.2.1 bt148.2.2.2.1).bind fun t162 => ((tag_Str.f t112 t113 t114 t115).bind fun t163 => (some (t162.toList == t163.toList)))))) else (some false))) else (some false)) else (some false)) else (some false)))) else (some false)))))) = some r := H
                      have hy139 : a0 ++ (⟨#[45, 122, 122, 122, 122, 122, 122, 122, 57]⟩ : ByteArray) = y139 := Option.some.inj hy1390
                      clear hy1390
                      replace H := Option.bind_eq_some_iff.mp H
                      obtain ⟨⟨t140, t141, t142, t143, t146⟩, A410, H⟩ := H
                      replace H : ((tag_Tag_Less.f t140 t141 t142 t143).bind fun bt148 => ((tag_Str.f t121 t122 t123 t124).bind fun t156 => ((tag_Str.f t112 t113 t114 t115).bind fun t157 => (if t156.toList = t157.toList then ((tag_Str.f t130 t131 t132 t133).bind fun t158 => ((tag_Str.f t112 t113 t114 t115).bind fun t159 => (if t158.toList = t159.toList then (if t146 = true then (if bt148.2.2.2.2 = true then ((tag_Fit.f t140 t141 t142 t143 t112 t113 t114 t115).bind fun t160 => (if t160 = true then ((tag_Fit.f t112 t113 t114 t115 t140 t141 t142 t143).bind fun t161 => (if t161 = true then (some false) else ((tag_Str.f bt148.1 bt148.2.1 bt148.2.2.1 bt148.2.2.2.1).bind fun t162 => ((tag_Str.f t112 t113 t114 t115).bind fun t163 => (some (t162.toList == t163.toList)))))) else (some false))) else (some false)) else (some false)) else (some false)))) else (some false))))) = some r := H
                      have A41 := Aside0.mk A410
                      clear A410
                      replace H := Option.bind_eq_some_iff.mp H
                      obtain ⟨⟨t148, t149, t150, t151, t154⟩, A420, H⟩ := H
                      replace H : ((tag_Str.f t121 t122 t123 t124).bind fun t156 => ((tag_Str.f t112 t113 t114 t115).bind fun t157 => (if t156.toList = t157.toList then ((tag_Str.f t130 t131 t132 t133).bind fun t158 => ((tag_Str.f t112 t113 t114 t115).bind fun t159 => (if t158.toList = t159.toList then (if t146 = true then (if t154 = true then ((tag_Fit.f t140 t141 t142 t143 t112 t113 t114 t115).bind fun t160 => (if t160 = true then ((tag_Fit.f t112 t113 t114 t115 t140 t141 t142 t143).bind fun t161 => (if t161 = true then (some false) else ((tag_Str.f t148 t149 t150 t151).bind fun t162 => ((tag_Str.f t112 t113 t114 t115).bind fun t163 => (some (t162.toList == t163.toList)))))) else (some false))) else (some false)) else (some false)) else (some false)))) else (some false)))) = some r := H
                      have A42 := Aside0.mk A420
                      clear A420
                      replace H := Option.bind_eq_some_iff.mp H
                      obtain ⟨t156, A430, H⟩ := H
                      replace H : ((tag_Str.f t112 t113 t114 t115).bind fun t157 => (if t156.toList = t157.toList then ((tag_Str.f t130 t131 t132 t133).bind fun t158 => ((tag_Str.f t112 t113 t114 t115).bind fun t159 => (if t158.toList = t159.toList then (if t146 = true then (if t154 = true then ((tag_Fit.f t140 t141 t142 t143 t112 t113 t114 t115).bind fun t160 => (if t160 = true then ((tag_Fit.f t112 t113 t114 t115 t140 t141 t142 t143).bind fun t161 => (if t161 = true then (some false) else ((tag_Str.f t148 t149 t150 t151).bind fun t162 => ((tag_Str.f t112 t113 t114 t115).bind fun t163 => (some (t162.toList == t163.toList)))))) else (some false))) else (some false)) else (some false)) else (some false)))) else (some false))) = some r := H
                      have A43 := Aside0.mk A430
                      clear A430
                      replace H := Option.bind_eq_some_iff.mp H
                      obtain ⟨t157, A440, H⟩ := H
                      replace H : (if t156.toList = t157.toList then ((tag_Str.f t130 t131 t132 t133).bind fun t158 => ((tag_Str.f t112 t113 t114 t115).bind fun t159 => (if t158.toList = t159.toList then (if t146 = true then (if t154 = true then ((tag_Fit.f t140 t141 t142 t143 t112 t113 t114 t115).bind fun t160 => (if t160 = true then ((tag_Fit.f t112 t113 t114 t115 t140 t141 t142 t143).bind fun t161 => (if t161 = true then (some false) else ((tag_Str.f t148 t149 t150 t151).bind fun t162 => ((tag_Str.f t112 t113 t114 t115).bind fun t163 => (some (t162.toList == t163.toList)))))) else (some false))) else (some false)) else (some false)) else (some false)))) else (some false)) = some r := H
                      have A44 := Aside0.mk A440
                      clear A440
                      by_cases c45 : t156.toList = t157.toList
                      · rw [if_pos c45] at H
                        have c45b0 : (t156.toList == t157.toList) = true := beq_iff_eq.mpr c45
                        have c45b1 : (t156.toList != t157.toList) = false := bne_eq_false_iff_eq.mpr c45
                        clear c45
                        replace H := Option.bind_eq_some_iff.mp H
                        obtain ⟨t158, A460, H⟩ := H
                        replace H : ((tag_Str.f t112 t113 t114 t115).bind fun t159 => (if t158.toList = t159.toList then (if t146 = true then (if t154 = true then ((tag_Fit.f t140 t141 t142 t143 t112 t113 t114 t115).bind fun t160 => (if t160 = true then ((tag_Fit.f t112 t113 t114 t115 t140 t141 t142 t143).bind fun t161 => (if t161 = true then (some false) else ((tag_Str.f t148 t149 t150 t151).bind fun t162 => ((tag_Str.f t112 t113 t114 t115).bind fun t163 => (some (t162.toList == t163.toList)))))) else (some false))) else (some false)) else (some false)) else (some false))) = some r := H
                        have A46 := Aside0.mk A460
                        clear A460
                        replace H := Option.bind_eq_some_iff.mp H
                        obtain ⟨t159, A470, H⟩ := H
                        replace H : (if t158.toList = t159.toList then (if t146 = true then (if t154 = true then ((tag_Fit.f t140 t141 t142 t143 t112 t113 t114 t115).bind fun t160 => (if t160 = true then ((tag_Fit.f t112 t113 t114 t115 t140 t141 t142 t143).bind fun t161 => (if t161 = true then (some false) else ((tag_Str.f t148 t149 t150 t151).bind fun t162 => ((tag_Str.f t112 t113 t114 t115).bind fun t163 => (some (t162.toList == t163.toList)))))) else (some false))) else (some false)) else (some false)) else (some false)) = some r := H
                        have A47 := Aside0.mk A470
                        clear A470
                        by_cases c48 : t158.toList = t159.toList
                        · rw [if_pos c48] at H
                          have c48b0 : (t158.toList == t159.toList) = true := beq_iff_eq.mpr c48
                          have c48b1 : (t158.toList != t159.toList) = false := bne_eq_false_iff_eq.mpr c48
                          clear c48
                          by_cases c49 : t146 = true
                          · subst c49
                            have H1 : (if t154 = true then ((tag_Fit.f t140 t141 t142 t143 t112 t113 t114 t115).bind fun t160 => (if t160 = true then ((tag_Fit.f t112 t113 t114 t115 t140 t141 t142 t143).bind fun t161 => (if t161 = true then (some false) else ((tag_Str.f t148 t149 t150 t151).bind fun t162 => ((tag_Str.f t112 t113 t114 t115).bind fun t163 => (some (t162.toList == t163.toList)))))) else (some false))) else (some false)) = some r := by rw [if_pos rfl] at H; exact H
                            clear H
                            have H := H1
                            clear H1
                            by_cases c50 : t154 = true
                            · subst c50
                              have H1 : ((tag_Fit.f t140 t141 t142 t143 t112 t113 t114 t115).bind fun t160 => (if t160 = true then ((tag_Fit.f t112 t113 t114 t115 t140 t141 t142 t143).bind fun t161 => (if t161 = true then (some false) else ((tag_Str.f t148 t149 t150 t151).bind fun t162 => ((tag_Str.f t112 t113 t114 t115).bind fun t163 => (some (t162.toList == t163.toList)))))) else (some false))) = some r := by rw [if_pos rfl] at H; exact H
                              clear H
                              have H := H1
                              clear H1
                              replace H := Option.bind_eq_some_iff.mp H
                              obtain ⟨t160, A510, H⟩ := H
                              replace H : (if t160 = true then ((tag_Fit.f t112 t113 t114 t115 t140 t141 t142 t143).bind fun t161 => (if t161 = true then (some false) else ((tag_Str.f t148 t149 t150 t151).bind fun t162 => ((tag_Str.f t112 t113 t114 t115).bind fun t163 => (some (t162.toList == t163.toList)))))) else (some false)) = some r := H
                              have A51 := Aside0.mk A510
                              clear A510
                              by_cases c52 : t160 = true
                              · subst c52
                                have H1 : ((tag_Fit.f t112 t113 t114 t115 t140 t141 t142 t143).bind fun t161 => (if t161 = true then (some false) else ((tag_Str.f t148 t149 t150 t151).bind fun t162 => ((tag_Str.f t112 t113 t114 t115).bind fun t163 => (some (t162.toList == t163.toList)))))) = some r := by rw [if_pos rfl] at H; exact H
                                clear H
                                have H := H1
                                clear H1
                                replace H := Option.bind_eq_some_iff.mp H
                                obtain ⟨t161, A530, H⟩ := H
                                replace H : (if t161 = true then (some false) else ((tag_Str.f t148 t149 t150 t151).bind fun t162 => ((tag_Str.f t112 t113 t114 t115).bind fun t163 => (some (t162.toList == t163.toList))))) = some r := H
                                have A53 := Aside0.mk A530
                                clear A530
                                by_cases c54 : t161 = true
                                · subst c54
                                  have H1 : (some false) = some r := by rw [if_pos rfl] at H; exact H
                                  clear H
                                  have H := H1
                                  clear H1
                                  exact absurd ((Option.some.inj H).trans hr_.out) (by decide)
                                · replace c54 := Bool.eq_false_iff.mpr c54
                                  subst c54
                                  have H1 : ((tag_Str.f t148 t149 t150 t151).bind fun t162 => ((tag_Str.f t112 t113 t114 t115).bind fun t163 => (some (t162.toList == t163.toList)))) = some r := by rw [if_neg (show ¬ (false = true) by decide)] at H; exact H
                                  clear H
                                  have H := H1
                                  clear H1
                                  replace H := Option.bind_eq_some_iff.mp H
                                  obtain ⟨t162, A550, H⟩ := H
                                  replace H : ((tag_Str.f t112 t113 t114 t115).bind fun t163 => (some (t162.toList == t163.toList))) = some r := H
                                  have A55 := Aside0.mk A550
                                  clear A550
                                  replace H := Option.bind_eq_some_iff.mp H
                                  obtain ⟨t163, A560, H⟩ := H
                                  replace H : (some (t162.toList == t163.toList)) = some r := H
                                  have A56 := Aside0.mk A560
                                  clear A560
                                  obtain rfl := Option.some.inj H
                                  try go_wp2_with (first | ((with_reducible refine gate_callee (f := 15) rfl ?_); refine goesL_ (some 60) rfl rfl Tryd.func15 (by kernel_rfl) rfl #[.string y139] rfl (by (try simp only [List.map_toArray, List.map_cons, List.map_nil]); first | done | rfl | (simp only [List.length_drop, List.length_take]; rfl)) ?_; (with_reducible refine (tag_Parse.calls y139 t140 t141 t142 t143 true _ A41.out).mono ?_); rintro e w57 ⟨v144, rfl, ho0, hb⟩; refine ⟨_, rfl, ?_⟩; have n0_ := Aside0.mk (Kd.R_elder' (by (with_reducible repeat (first | apply Kd.R_alloc | apply Kd.R_drewN | apply Kd.R_drew)); exact HO_48.out) (Kd.R_base ho0) hb); have n1_ := Aside0.mk (Kd.R_elder' (by (with_reducible repeat (first | apply Kd.R_alloc | apply Kd.R_drewN | apply Kd.R_drew)); exact HO_120003.out) (Kd.R_base ho0) hb); have n2_ := Aside0.mk (Kd.R_elder' (by (with_reducible repeat (first | apply Kd.R_alloc | apply Kd.R_drewN | apply Kd.R_drew)); exact HO_129003.out) (Kd.R_base ho0) hb); have n3_ := Aside0.mk (Kd.R_elder' (by (with_reducible repeat (first | apply Kd.R_alloc | apply Kd.R_drewN | apply Kd.R_drew)); exact HO_138003.out) (Kd.R_base ho0) hb); have n4_ := Aside0.mk (Kd.R_lower (Kd.R_new' (Kd.R_new' (Kd.R_new' (Kd.R_new' ho0 (Kd.R_lt (by (with_reducible repeat (first | apply Kd.R_alloc | apply Kd.R_drewN | apply Kd.R_drew)); exact HO_48.out))) (Kd.R_lt (by (with_reducible repeat (first | apply Kd.R_alloc | apply Kd.R_drewN | apply Kd.R_drew)); exact HO_120003.out))) (Kd.R_lt (by (with_reducible repeat (first | apply Kd.R_alloc | apply Kd.R_drewN | apply Kd.R_drew)); exact HO_129003.out))) (Kd.R_lt (by (with_reducible repeat (first | apply Kd.R_alloc | apply Kd.R_drewN | apply Kd.R_drew)); exact HO_138003.out))) (below_size (by repeat (first | (with_reducible first | exact HB.out | apply below_alloc | apply pw_below_drewN | apply below_drew1 | refine below_set ?_ GE119.out | refine below_set ?_ GE128.out | refine below_set ?_ GE137.out) | exact HB.out)))); have n5_ := Aside0.mk (blk_below (g := gb119) (o := .cells #[.string t112, .string t113, .string t114, .slice Ao16 t115.length co16] 25 (0, 0)) (by (with_reducible repeat (first | refine blk_drewN ?_ _ | refine blk_drew ?_ | refine blk_alloc ?_ _)); exact BK119.out) hb); have n6_ := Aside0.mk (blk_below (g := gb128) (o := .cells #[.string t121, .string t122, .string t123, .slice Ao22 t124.length co22] 25 (0, 0)) (by (with_reducible repeat (first | refine blk_drewN ?_ _ | refine blk_drew ?_ | refine blk_alloc ?_ _)); exact BK128.out) hb); have n7_ := Aside0.mk (blk_below (g := gb137) (o := .cells #[.string t130, .string t131, .string t132, .slice Ao29 t133.length co29] 25 (0, 0)) (by (with_reducible repeat (first | refine blk_drewN ?_ _ | refine blk_drew ?_ | refine blk_alloc ?_ _)); exact BK137.out) hb); have n8_ := Aside0.mk (below_step (by repeat (first | (with_reducible first | exact HB.out | apply below_alloc | apply pw_below_drewN | apply below_drew1 | refine below_set ?_ GE119.out | refine below_set ?_ GE128.out | refine below_set ?_ GE137.out) | exact HB.out)) hb); clear HO_48; clear HO_120003; clear HO_129003; clear HO_138003; clear BK119; clear BK128; clear BK137; clear HB; have HO_48 := n0_; have HO_120003 := n1_; have HO_129003 := n2_; have HO_138003 := n3_; have HO145 := n4_; have BK119 := n5_; have BK128 := n6_; have BK137 := n7_; have HB := n8_; clear n0_ n1_ n2_ n3_ n4_ n5_ n6_ n7_ n8_; (try clear hb); (try clear hb2); (try clear hk); (try clear hi); (try clear ho0)) | ((with_reducible refine gate_dst (N := 11) rfl ?_); refine box_event ?hg (N := 11) ?hd (cs := #[.string (⟨#[]⟩ : ByteArray), .string (⟨#[]⟩ : ByteArray), .string (⟨#[]⟩ : ByteArray), .slice none 0 0]) (t := 25) ?hr ?_; (case hd => rfl); (case hg => rfl); (case hr => first | (go_simp; done) | (go_simp; rfl)); intro gb147 hg w58 hbox hb; have n0_ := Aside0.mk (Kd.R_below (by (with_reducible repeat (first | apply Kd.R_alloc | apply Kd.R_drewN | apply Kd.R_drew)); exact HO_48.out) hb); have n1_ := Aside0.mk (Kd.R_below (by (with_reducible repeat (first | apply Kd.R_alloc | apply Kd.R_drewN | apply Kd.R_drew)); exact HO_120003.out) hb); have n2_ := Aside0.mk (Kd.R_below (by (with_reducible repeat (first | apply Kd.R_alloc | apply Kd.R_drewN | apply Kd.R_drew)); exact HO_129003.out) hb); have n3_ := Aside0.mk (Kd.R_below (by (with_reducible repeat (first | apply Kd.R_alloc | apply Kd.R_drewN | apply Kd.R_drew)); exact HO_138003.out) hb); have n4_ := Aside0.mk (Kd.R_below (by (with_reducible repeat (first | apply Kd.R_alloc | apply Kd.R_drewN | apply Kd.R_drew)); exact HO145.out) hb); have n5_ := Aside0.mk (blk_below (g := gb119) (o := .cells #[.string t112, .string t113, .string t114, .slice Ao16 t115.length co16] 25 (0, 0)) (by (with_reducible repeat (first | refine blk_drewN ?_ _ | refine blk_drew ?_ | refine blk_alloc ?_ _)); exact BK119.out) hb); have n6_ := Aside0.mk (blk_below (g := gb128) (o := .cells #[.string t121, .string t122, .string t123, .slice Ao22 t124.length co22] 25 (0, 0)) (by (with_reducible repeat (first | refine blk_drewN ?_ _ | refine blk_drew ?_ | refine blk_alloc ?_ _)); exact BK128.out) hb); have n7_ := Aside0.mk (blk_below (g := gb137) (o := .cells #[.string t130, .string t131, .string t132, .slice Ao29 t133.length co29] 25 (0, 0)) (by (with_reducible repeat (first | refine blk_drewN ?_ _ | refine blk_drew ?_ | refine blk_alloc ?_ _)); exact BK137.out) hb); have n8_ := Aside0.mk (below_step (by repeat (first | (with_reducible first | exact HB.out | apply below_alloc | apply pw_below_drewN | apply below_drew1 | refine below_set ?_ GE119.out | refine below_set ?_ GE128.out | refine below_set ?_ GE137.out) | exact HB.out)) hb); have n9_ := Aside0.mk (hbox); have n10_ := Aside0.mk ((by rw [hg]; exact (below_size (by repeat (first | (with_reducible first | exact HB.out | apply below_alloc | apply pw_below_drewN | apply below_drew1 | refine below_set ?_ GE119.out | refine below_set ?_ GE128.out | refine below_set ?_ GE137.out) | exact HB.out))) : w.heap.size ≤ gb147)); have n11_ := Aside0.mk ((by rw [hg]; exact (below_size (by repeat (first | (with_reducible first | exact HB.out | apply below_alloc | apply pw_below_drewN | apply below_drew1 | refine below_set ?_ GE119.out | refine below_set ?_ GE128.out | refine below_set ?_ GE137.out) | exact HB.out))) : w.heap.size ≤ gb147)); have n12_ := Aside0.mk ((by rw [hg]; exact Nat.ne_of_lt (blk_lt (g := gb119) (o := .cells #[.string t112, .string t113, .string t114, .slice Ao16 t115.length co16] 25 (0, 0)) (by (with_reducible repeat (first | refine blk_drewN ?_ _ | refine blk_drew ?_ | refine blk_alloc ?_ _)); exact BK119.out)) : gb119 ≠ gb147)); have n13_ := Aside0.mk ((by rw [hg]; exact Nat.ne_of_gt (blk_lt (g := gb119) (o := .cells #[.string t112, .string t113, .string t114, .slice Ao16 t115.length co16] 25 (0, 0)) (by (with_reducible repeat (first | refine blk_drewN ?_ _ | refine blk_drew ?_ | refine blk_alloc ?_ _)); exact BK119.out)) : gb147 ≠ gb119)); have n14_ := Aside0.mk ((by rw [hg]; exact Nat.ne_of_lt (blk_lt (g := gb128) (o := .cells #[.string t121, .string t122, .string t123, .slice Ao22 t124.length co22] 25 (0, 0)) (by (with_reducible repeat (first | refine blk_drewN ?_ _ | refine blk_drew ?_ | refine blk_alloc ?_ _)); exact BK128.out)) : gb128 ≠ gb147)); have n15_ := Aside0.mk ((by rw [hg]; exact Nat.ne_of_gt (blk_lt (g := gb128) (o := .cells #[.string t121, .string t122, .string t123, .slice Ao22 t124.length co22] 25 (0, 0)) (by (with_reducible repeat (first | refine blk_drewN ?_ _ | refine blk_drew ?_ | refine blk_alloc ?_ _)); exact BK128.out)) : gb147 ≠ gb128)); have n16_ := Aside0.mk ((by rw [hg]; exact Nat.ne_of_lt (blk_lt (g := gb137) (o := .cells #[.string t130, .string t131, .string t132, .slice Ao29 t133.length co29] 25 (0, 0)) (by (with_reducible repeat (first | refine blk_drewN ?_ _ | refine blk_drew ?_ | refine blk_alloc ?_ _)); exact BK137.out)) : gb137 ≠ gb147)); have n17_ := Aside0.mk ((by rw [hg]; exact Nat.ne_of_gt (blk_lt (g := gb137) (o := .cells #[.string t130, .string t131, .string t132, .slice Ao29 t133.length co29] 25 (0, 0)) (by (with_reducible repeat (first | refine blk_drewN ?_ _ | refine blk_drew ?_ | refine blk_alloc ?_ _)); exact BK137.out)) : gb147 ≠ gb137)); clear HO_48; clear HO_120003; clear HO_129003; clear HO_138003; clear HO145; clear BK119; clear BK128; clear BK137; clear HB; have HO_48 := n0_; have HO_120003 := n1_; have HO_129003 := n2_; have HO_138003 := n3_; have HO145 := n4_; have BK119 := n5_; have BK128 := n6_; have BK137 := n7_; have HB := n8_; have BK147 := n9_; have GW147 := n10_; have GE147 := n11_; have NB119_147 := n12_; have NB147_119 := n13_; have NB128_147 := n14_; have NB147_128 := n15_; have NB137_147 := n16_; have NB147_137 := n17_; clear n0_ n1_ n2_ n3_ n4_ n5_ n6_ n7_ n8_ n9_ n10_ n11_ n12_ n13_ n14_ n15_ n16_ n17_; clear hb hbox hg; have hnb59 := NB147_119.out; have hnc59 := NB119_147.out; have hnb60 := NB147_128.out; have hnc60 := NB128_147.out; have hnb61 := NB147_137.out; have hnc61 := NB137_147.out; have hcz62_0 : w58.cell? ⟨gb147, 0, none⟩ = some (.string (⟨#[]⟩ : ByteArray)) := (blk_cell BK147.out 0).trans rfl; have hcz62_1 : w58.cell? ⟨gb147, 1, none⟩ = some (.string (⟨#[]⟩ : ByteArray)) := (blk_cell BK147.out 1).trans rfl; have hcz62_2 : w58.cell? ⟨gb147, 2, none⟩ = some (.string (⟨#[]⟩ : ByteArray)) := (blk_cell BK147.out 2).trans rfl; have hcz62_3 : w58.cell? ⟨gb147, 3, none⟩ = some (.slice none 0 0) := (blk_cell BK147.out 3).trans rfl; have hfz62_0 := blk_frozen BK147.out 0; have hfz62_1 := blk_frozen BK147.out 1; have hfz62_2 := blk_frozen BK147.out 2; have hfz62_3 := blk_frozen BK147.out 3; obtain ⟨Ao63, co63, eo63⟩ := Kd.R_slice HO145.out; subst eo63) | ((with_reducible refine gate_store (t := 25) (p := 11) rfl ?_); refine store_event (t := 25) (p := 11) (v := ?vo_w64) (w1 := ((((w58.setCell ⟨gb147, 0, none⟩ (.string t140)).setCell ⟨gb147, 1, none⟩ (.string t141)).setCell ⟨gb147, 2, none⟩ (.string t142)).setCell ⟨gb147, 3, none⟩ (.slice Ao63 t143.length co63))) ?hg ?ho ?hn ?hr ?_; (case ho => rfl); (case hg => rfl); (case hn => rfl); (case hr => first | (go_simp; done) | (go_simp; rfl)); intro w64 hw; have n0_ : Aside0 (Kd.R Kd.string 9 w64 w.heap.size (fun k_ => some k_ ≠ (.slice Ao22 t124.length co22 : Value).ownBlock ∧ some k_ ≠ (.slice Ao29 t133.length co29 : Value).ownBlock ∧ some k_ ≠ (.slice Ao63 t143.length co63 : Value).ownBlock) (.slice Ao16 t115.length co16) t115) := ⟨(by rw [hw]; exact (by (with_reducible repeat (first | apply Kd.R_alloc | apply Kd.R_drewN | apply Kd.R_drew)); exact Kd.R_mono (Kd.R_far (p := ⟨gb147, 3, none⟩) (Kd.R_far (p := ⟨gb147, 2, none⟩) (Kd.R_far (p := ⟨gb147, 1, none⟩) (Kd.R_far (p := ⟨gb147, 0, none⟩) (Kd.R_types HO_48.out BK147.out (by decide)) (fun _ hk => hk.2) (.string t140)) (fun _ hk => hk.2) (.string t141)) (fun _ hk => hk.2) (.string t142)) (fun _ hk => hk.2) (.slice Ao63 t143.length co63)) (fun _ hk => ⟨hk.1.1.1, ⟨hk.1.1.2, hk.1.2⟩⟩)))⟩; have n1_ : Aside0 (Kd.R Kd.string 9 w64 w.heap.size (fun k_ => some k_ ≠ (.slice Ao22 t124.length co22 : Value).ownBlock ∧ some k_ ≠ (.slice Ao29 t133.length co29 : Value).ownBlock ∧ some k_ ≠ (.slice Ao63 t143.length co63 : Value).ownBlock) (.slice Ao16 t115.length co16) t115) := ⟨(by rw [hw]; exact (by (with_reducible repeat (first | apply Kd.R_alloc | apply Kd.R_drewN | apply Kd.R_drew)); exact Kd.R_mono (Kd.R_far (p := ⟨gb147, 3, none⟩) (Kd.R_far (p := ⟨gb147, 2, none⟩) (Kd.R_far (p := ⟨gb147, 1, none⟩) (Kd.R_far (p := ⟨gb147, 0, none⟩) (Kd.R_types HO_120003.out BK147.out (by decide)) (fun _ hk => hk.2) (.string t140)) (fun _ hk => hk.2) (.string t141)) (fun _ hk => hk.2) (.string t142)) (fun _ hk => hk.2) (.slice Ao63 t143.length co63)) (fun _ hk => ⟨hk.1.1.1, ⟨hk.1.1.2, hk.1.2⟩⟩)))⟩; have n2_ : Aside0 (Kd.R Kd.string 9 w64 w.heap.size (fun k_ => some k_ ≠ (.slice Ao16 t115.length co16 : Value).ownBlock ∧ some k_ ≠ (.slice Ao16 t115.length co16 : Value).ownBlock ∧ some k_ ≠ (.slice Ao29 t133.length co29 : Value).ownBlock ∧ some k_ ≠ (.slice Ao63 t143.length co63 : Value).ownBlock) (.slice Ao22 t124.length co22) t124) := ⟨(by rw [hw]; exact (by (with_reducible repeat (first | apply Kd.R_alloc | apply Kd.R_drewN | apply Kd.R_drew)); exact Kd.R_mono (Kd.R_far (p := ⟨gb147, 3, none⟩) (Kd.R_far (p := ⟨gb147, 2, none⟩) (Kd.R_far (p := ⟨gb147, 1, none⟩) (Kd.R_far (p := ⟨gb147, 0, none⟩) (Kd.R_types HO_129003.out BK147.out (by decide)) (fun _ hk => hk.2) (.string t140)) (fun _ hk => hk.2) (.string t141)) (fun _ hk => hk.2) (.string t142)) (fun _ hk => hk.2) (.slice Ao63 t143.length co63)) (fun _ hk => ⟨hk.1.1.1, ⟨hk.1.1.2.1, ⟨hk.1.1.2.2, hk.1.2⟩⟩⟩)))⟩; have n3_ : Aside0 (Kd.R Kd.string 9 w64 w.heap.size (fun k_ => some k_ ≠ (.slice Ao16 t115.length co16 : Value).ownBlock ∧ some k_ ≠ (.slice Ao16 t115.length co16 : Value).ownBlock ∧ some k_ ≠ (.slice Ao22 t124.length co22 : Value).ownBlock ∧ some k_ ≠ (.slice Ao63 t143.length co63 : Value).ownBlock) (.slice Ao29 t133.length co29) t133) := ⟨(by rw [hw]; exact (by (with_reducible repeat (first | apply Kd.R_alloc | apply Kd.R_drewN | apply Kd.R_drew)); exact Kd.R_mono (Kd.R_far (p := ⟨gb147, 3, none⟩) (Kd.R_far (p := ⟨gb147, 2, none⟩) (Kd.R_far (p := ⟨gb147, 1, none⟩) (Kd.R_far (p := ⟨gb147, 0, none⟩) (Kd.R_types HO_138003.out BK147.out (by decide)) (fun _ hk => hk.2) (.string t140)) (fun _ hk => hk.2) (.string t141)) (fun _ hk => hk.2) (.string t142)) (fun _ hk => hk.2) (.slice Ao63 t143.length co63)) (fun _ hk => ⟨hk.1.1.1, ⟨hk.1.1.2.1, ⟨hk.1.1.2.2, hk.1.2⟩⟩⟩)))⟩; have n4_ : Aside0 (Kd.R Kd.string 9 w64 w.heap.size (fun k_ => some k_ ≠ (.slice Ao16 t115.length co16 : Value).ownBlock ∧ some k_ ≠ (.slice Ao16 t115.length co16 : Value).ownBlock ∧ some k_ ≠ (.slice Ao22 t124.length co22 : Value).ownBlock ∧ some k_ ≠ (.slice Ao29 t133.length co29 : Value).ownBlock) (.slice Ao63 t143.length co63) t143) := ⟨(by rw [hw]; exact (by (with_reducible repeat (first | apply Kd.R_alloc | apply Kd.R_drewN | apply Kd.R_drew)); exact Kd.R_mono (Kd.R_far (p := ⟨gb147, 3, none⟩) (Kd.R_far (p := ⟨gb147, 2, none⟩) (Kd.R_far (p := ⟨gb147, 1, none⟩) (Kd.R_far (p := ⟨gb147, 0, none⟩) (Kd.R_types HO145.out BK147.out (by decide)) (fun _ hk => hk.2) (.string t140)) (fun _ hk => hk.2) (.string t141)) (fun _ hk => hk.2) (.string t142)) (fun _ hk => hk.2) (.slice Ao63 t143.length co63)) (fun _ hk => ⟨hk.1.1.1.1.2, ⟨hk.1.1.1.2, ⟨hk.1.1.2, hk.1.2⟩⟩⟩)))⟩; have n5_ : Aside0 (w64.heap[gb119]? = some (.cells #[.string t112, .string t113, .string t114, .slice Ao16 t115.length co16] 25 (0, 0))) := ⟨(by rw [hw]; exact (by (with_reducible repeat (first | refine blk_drewN ?_ _ | refine blk_drew ?_ | refine blk_alloc ?_ _)); refine blk_far ?_ NB119_147.out _; (with_reducible repeat (first | refine blk_drewN ?_ _ | refine blk_drew ?_ | refine blk_alloc ?_ _)); refine blk_far ?_ NB119_147.out _; (with_reducible repeat (first | refine blk_drewN ?_ _ | refine blk_drew ?_ | refine blk_alloc ?_ _)); refine blk_far ?_ NB119_147.out _; (with_reducible repeat (first | refine blk_drewN ?_ _ | refine blk_drew ?_ | refine blk_alloc ?_ _)); refine blk_far ?_ NB119_147.out _; (with_reducible repeat (first | refine blk_drewN ?_ _ | refine blk_drew ?_ | refine blk_alloc ?_ _)); exact BK119.out))⟩; have n6_ : Aside0 (w64.heap[gb128]? = some (.cells #[.string t121, .string t122, .string t123, .slice Ao22 t124.length co22] 25 (0, 0))) := ⟨(by rw [hw]; exact (by (with_reducible repeat (first | refine blk_drewN ?_ _ | refine blk_drew ?_ | refine blk_alloc ?_ _)); refine blk_far ?_ NB128_147.out _; (with_reducible repeat (first | refine blk_drewN ?_ _ | refine blk_drew ?_ | refine blk_alloc ?_ _)); refine blk_far ?_ NB128_147.out _; (with_reducible repeat (first | refine blk_drewN ?_ _ | refine blk_drew ?_ | refine blk_alloc ?_ _)); refine blk_far ?_ NB128_147.out _; (with_reducible repeat (first | refine blk_drewN ?_ _ | refine blk_drew ?_ | refine blk_alloc ?_ _)); refine blk_far ?_ NB128_147.out _; (with_reducible repeat (first | refine blk_drewN ?_ _ | refine blk_drew ?_ | refine blk_alloc ?_ _)); exact BK128.out))⟩; have n7_ : Aside0 (w64.heap[gb137]? = some (.cells #[.string t130, .string t131, .string t132, .slice Ao29 t133.length co29] 25 (0, 0))) := ⟨(by rw [hw]; exact (by (with_reducible repeat (first | refine blk_drewN ?_ _ | refine blk_drew ?_ | refine blk_alloc ?_ _)); refine blk_far ?_ NB137_147.out _; (with_reducible repeat (first | refine blk_drewN ?_ _ | refine blk_drew ?_ | refine blk_alloc ?_ _)); refine blk_far ?_ NB137_147.out _; (with_reducible repeat (first | refine blk_drewN ?_ _ | refine blk_drew ?_ | refine blk_alloc ?_ _)); refine blk_far ?_ NB137_147.out _; (with_reducible repeat (first | refine blk_drewN ?_ _ | refine blk_drew ?_ | refine blk_alloc ?_ _)); refine blk_far ?_ NB137_147.out _; (with_reducible repeat (first | refine blk_drewN ?_ _ | refine blk_drew ?_ | refine blk_alloc ?_ _)); exact BK137.out))⟩; have n8_ : Aside0 (w64.heap[gb147]? = some (.cells #[.string t140, .string t141, .string t142, .slice Ao63 t143.length co63] 25 (0, 0))) := ⟨(by rw [hw]; exact (by (with_reducible repeat (first | refine blk_drewN ?_ _ | refine blk_drew ?_ | refine blk_alloc ?_ _)); refine blk_put (cs := #[.string t140, .string t141, .string t142, .slice none 0 0]) ?_ 3 _ rfl; (with_reducible repeat (first | refine blk_drewN ?_ _ | refine blk_drew ?_ | refine blk_alloc ?_ _)); refine blk_put (cs := #[.string t140, .string t141, .string (⟨#[]⟩ : ByteArray), .slice none 0 0]) ?_ 2 _ rfl; (with_reducible repeat (first | refine blk_drewN ?_ _ | refine blk_drew ?_ | refine blk_alloc ?_ _)); refine blk_put (cs := #[.string t140, .string (⟨#[]⟩ : ByteArray), .string (⟨#[]⟩ : ByteArray), .slice none 0 0]) ?_ 1 _ rfl; (with_reducible repeat (first | refine blk_drewN ?_ _ | refine blk_drew ?_ | refine blk_alloc ?_ _)); refine blk_put (cs := #[.string (⟨#[]⟩ : ByteArray), .string (⟨#[]⟩ : ByteArray), .string (⟨#[]⟩ : ByteArray), .slice none 0 0]) ?_ 0 _ rfl; (with_reducible repeat (first | refine blk_drewN ?_ _ | refine blk_drew ?_ | refine blk_alloc ?_ _)); exact BK147.out))⟩; have n9_ : Aside0 (Below w.heap.size w w64) := ⟨(by rw [hw]; exact (by repeat (first | (with_reducible first | exact HB.out | apply below_alloc | apply pw_below_drewN | apply below_drew1 | refine below_set ?_ GE119.out | refine below_set ?_ GE128.out | refine below_set ?_ GE137.out | refine below_set ?_ GE147.out) | exact HB.out)))⟩; clear hw; clear HO_48; clear HO_120003; clear HO_129003; clear HO_138003; clear HO145; clear BK119; clear BK128; clear BK137; clear BK147; clear HB; have HO_48 := n0_; have HO_120003 := n1_; have HO_129003 := n2_; have HO_138003 := n3_; have HO145 := n4_; have BK119 := n5_; have BK128 := n6_; have BK137 := n7_; have BK147 := n8_; have HB := n9_; clear n0_ n1_ n2_ n3_ n4_ n5_ n6_ n7_ n8_ n9_; have hcz65_0 : w64.cell? ⟨gb147, 0, none⟩ = some (.string t140) := (blk_cell BK147.out 0).trans rfl; have hcz65_1 : w64.cell? ⟨gb147, 1, none⟩ = some (.string t141) := (blk_cell BK147.out 1).trans rfl; have hcz65_2 : w64.cell? ⟨gb147, 2, none⟩ = some (.string t142) := (blk_cell BK147.out 2).trans rfl; have hcz65_3 : w64.cell? ⟨gb147, 3, none⟩ = some (.slice Ao63 t143.length co63) := (blk_cell BK147.out 3).trans rfl; have hfz65_0 := blk_frozen BK147.out 0; have hfz65_1 := blk_frozen BK147.out 1; have hfz65_2 := blk_frozen BK147.out 2; have hfz65_3 := blk_frozen BK147.out 3) | ((with_reducible refine gate_callee (f := 20) rfl ?_); refine goesL_ (some 65) rfl rfl Tryd.func20 (by kernel_rfl) rfl #[.agg #[.string t140, .string t141, .string t142, .slice Ao63 t143.length co63]] rfl (by (try simp only [List.map_toArray, List.map_cons, List.map_nil]); first | done | rfl | (simp only [List.length_drop, List.length_take]; rfl)) ?_; (with_reducible refine (tag_Tag_Less.calls t140 t141 t142 (fun k_ => some k_ = (.slice Ao63 t143.length co63 : Value).ownBlock) _ _ t143 t148 t149 t150 t151 true _ ?side1 A42.out).mono ?_); (case side1 => exact Kd.R_V (Kd.R_tight rfl (Kd.R_types (Kd.R_types (Kd.R_types (Kd.R_types (HO145.out) BK119.out (by decide)) BK128.out (by decide)) BK137.out (by decide)) BK147.out (by decide)))); rintro e w66 ⟨v152, rfl, ho0, hb⟩; refine ⟨_, rfl, ?_⟩; have n0_ := Aside0.mk (Kd.R_below (by (with_reducible repeat (first | apply Kd.R_alloc | apply Kd.R_drewN | apply Kd.R_drew)); exact HO_48.out) hb); have n1_ := Aside0.mk (Kd.R_below (by (with_reducible repeat (first | apply Kd.R_alloc | apply Kd.R_drewN | apply Kd.R_drew)); exact HO_120003.out) hb); have n2_ := Aside0.mk (Kd.R_below (by (with_reducible repeat (first | apply Kd.R_alloc | apply Kd.R_drewN | apply Kd.R_drew)); exact HO_129003.out) hb); have n3_ := Aside0.mk (Kd.R_below (by (with_reducible repeat (first | apply Kd.R_alloc | apply Kd.R_drewN | apply Kd.R_drew)); exact HO_138003.out) hb); have n4_ := Aside0.mk (Kd.R_below (by (with_reducible repeat (first | apply Kd.R_alloc | apply Kd.R_drewN | apply Kd.R_drew)); exact HO145.out) hb); have n5_ := Aside0.mk (Kd.V_lower (Kd.V_mono (ok' := fun k_ => some k_ ≠ (.slice Ao16 t115.length co16 : Value).ownBlock ∧ some k_ ≠ (.slice Ao16 t115.length co16 : Value).ownBlock ∧ some k_ ≠ (.slice Ao22 t124.length co22 : Value).ownBlock ∧ some k_ ≠ (.slice Ao29 t133.length co29 : Value).ownBlock ∧ k_ ≠ gb119 ∧ k_ ≠ gb128 ∧ k_ ≠ gb137 ∧ k_ ≠ gb147) ho0 (fun k_ hk_ => ⟨Or.elim hk_ (fun hs_ => ((Kd.R_types (Kd.R_types (Kd.R_types (Kd.R_types (HO145.out) BK119.out (by decide)) BK128.out (by decide)) BK137.out (by decide)) BK147.out (by decide)).1 k_ hs_.symm).1.1.1.1.1) (fun hn_ => (Kd.fresh' (Kd.R_lt (by (with_reducible repeat (first | apply Kd.R_alloc | apply Kd.R_drewN | apply Kd.R_drew)); exact HO_48.out)) k_ hn_)), Or.elim hk_ (fun hs_ => ((Kd.R_types (Kd.R_types (Kd.R_types (Kd.R_types (HO145.out) BK119.out (by decide)) BK128.out (by decide)) BK137.out (by decide)) BK147.out (by decide)).1 k_ hs_.symm).1.1.1.1.2.1) (fun hn_ => (Kd.fresh' (Kd.R_lt (by (with_reducible repeat (first | apply Kd.R_alloc | apply Kd.R_drewN | apply Kd.R_drew)); exact HO_120003.out)) k_ hn_)), Or.elim hk_ (fun hs_ => ((Kd.R_types (Kd.R_types (Kd.R_types (Kd.R_types (HO145.out) BK119.out (by decide)) BK128.out (by decide)) BK137.out (by decide)) BK147.out (by decide)).1 k_ hs_.symm).1.1.1.1.2.2.1) (fun hn_ => (Kd.fresh' (Kd.R_lt (by (with_reducible repeat (first | apply Kd.R_alloc | apply Kd.R_drewN | apply Kd.R_drew)); exact HO_129003.out)) k_ hn_)), Or.elim hk_ (fun hs_ => ((Kd.R_types (Kd.R_types (Kd.R_types (Kd.R_types (HO145.out) BK119.out (by decide)) BK128.out (by decide)) BK137.out (by decide)) BK147.out (by decide)).1 k_ hs_.symm).1.1.1.1.2.2.2) (fun hn_ => (Kd.fresh' (Kd.R_lt (by (with_reducible repeat (first | apply Kd.R_alloc | apply Kd.R_drewN | apply Kd.R_drew)); exact HO_138003.out)) k_ hn_)), Or.elim hk_ (fun hs_ => ((Kd.R_types (Kd.R_types (Kd.R_types (Kd.R_types (HO145.out) BK119.out (by decide)) BK128.out (by decide)) BK137.out (by decide)) BK147.out (by decide)).1 k_ hs_.symm).1.1.1.2) (fun hn_ => (Kd.freshB (g := gb119) (o := .cells #[.string t112, .string t113, .string t114, .slice Ao16 t115.length co16] 25 (0, 0)) (by (with_reducible repeat (first | refine blk_drewN ?_ _ | refine blk_drew ?_ | refine blk_alloc ?_ _)); exact BK119.out) k_ hn_)), Or.elim hk_ (fun hs_ => ((Kd.R_types (Kd.R_types (Kd.R_types (Kd.R_types (HO145.out) BK119.out (by decide)) BK128.out (by decide)) BK137.out (by decide)) BK147.out (by decide)).1 k_ hs_.symm).1.1.2) (fun hn_ => (Kd.freshB (g := gb128) (o := .cells #[.string t121, .string t122, .string t123, .slice Ao22 t124.length co22] 25 (0, 0)) (by (with_reducible repeat (first | refine blk_drewN ?_ _ | refine blk_drew ?_ | refine blk_alloc ?_ _)); exact BK128.out) k_ hn_)), Or.elim hk_ (fun hs_ => ((Kd.R_types (Kd.R_types (Kd.R_types (Kd.R_types (HO145.out) BK119.out (by decide)) BK128.out (by decide)) BK137.out (by decide)) BK147.out (by decide)).1 k_ hs_.symm).1.2) (fun hn_ => (Kd.freshB (g := gb137) (o := .cells #[.string t130, .string t131, .string t132, .slice Ao29 t133.length co29] 25 (0, 0)) (by (with_reducible repeat (first | refine blk_drewN ?_ _ | refine blk_drew ?_ | refine blk_alloc ?_ _)); exact BK137.out) k_ hn_)), Or.elim hk_ (fun hs_ => ((Kd.R_types (Kd.R_types (Kd.R_types (Kd.R_types (HO145.out) BK119.out (by decide)) BK128.out (by decide)) BK137.out (by decide)) BK147.out (by decide)).1 k_ hs_.symm).2) (fun hn_ => (Kd.freshB (g := gb147) (o := .cells #[.string t140, .string t141, .string t142, .slice Ao63 t143.length co63] 25 (0, 0)) (by (with_reducible repeat (first | refine blk_drewN ?_ _ | refine blk_drew ?_ | refine blk_alloc ?_ _)); exact BK147.out) k_ hn_))⟩)) (below_size (by repeat (first | (with_reducible first | exact HB.out | apply below_alloc | apply pw_below_drewN | apply below_drew1 | refine below_set ?_ GE119.out | refine below_set ?_ GE128.out | refine below_set ?_ GE137.out | refine below_set ?_ GE147.out) | exact HB.out)))); have n6_ := Aside0.mk (blk_below (g := gb119) (o := .cells #[.string t112, .string t113, .string t114, .slice Ao16 t115.length co16] 25 (0, 0)) (by (with_reducible repeat (first | refine blk_drewN ?_ _ | refine blk_drew ?_ | refine blk_alloc ?_ _)); exact BK119.out) hb); have n7_ := Aside0.mk (blk_below (g := gb128) (o := .cells #[.string t121, .string t122, .string t123, .slice Ao22 t124.length co22] 25 (0, 0)) (by (with_reducible repeat (first | refine blk_drewN ?_ _ | refine blk_drew ?_ | refine blk_alloc ?_ _)); exact BK128.out) hb); have n8_ := Aside0.mk (blk_below (g := gb137) (o := .cells #[.string t130, .string t131, .string t132, .slice Ao29 t133.length co29] 25 (0, 0)) (by (with_reducible repeat (first | refine blk_drewN ?_ _ | refine blk_drew ?_ | refine blk_alloc ?_ _)); exact BK137.out) hb); have n9_ := Aside0.mk (blk_below (g := gb147) (o := .cells #[.string t140, .string t141, .string t142, .slice Ao63 t143.length co63] 25 (0, 0)) (by (with_reducible repeat (first | refine blk_drewN ?_ _ | refine blk_drew ?_ | refine blk_alloc ?_ _)); exact BK147.out) hb); have n10_ := Aside0.mk (below_step (by repeat (first | (with_reducible first | exact HB.out | apply below_alloc | apply pw_below_drewN | apply below_drew1 | refine below_set ?_ GE119.out | refine below_set ?_ GE128.out | refine below_set ?_ GE137.out | refine below_set ?_ GE147.out) | exact HB.out)) hb); clear HO_48; clear HO_120003; clear HO_129003; clear HO_138003; clear HO145; clear BK119; clear BK128; clear BK137; clear BK147; clear HB; have HO_48 := n0_; have HO_120003 := n1_; have HO_129003 := n2_; have HO_138003 := n3_; have HO145 := n4_; have HO153 := n5_; have BK119 := n6_; have BK128 := n7_; have BK137 := n8_; have BK147 := n9_; have HB := n10_; clear n0_ n1_ n2_ n3_ n4_ n5_ n6_ n7_ n8_ n9_ n10_; (try clear hb); (try clear hb2); (try clear hk); (try clear hi); (try clear ho0)) | ((with_reducible refine gate_dst (N := 13) rfl ?_); refine box_event ?hg (N := 13) ?hd (cs := #[.string (⟨#[]⟩ : ByteArray), .string (⟨#[]⟩ : ByteArray), .string (⟨#[]⟩ : ByteArray), .slice none 0 0]) (t := 25) ?hr ?_; (case hd => rfl); (case hg => rfl); (case hr => first | (go_simp; done) | (go_simp; rfl)); intro gb155 hg w67 hbox hb; have n0_ := Aside0.mk (Kd.R_below (by (with_reducible repeat (first | apply Kd.R_alloc | apply Kd.R_drewN | apply Kd.R_drew)); exact HO_48.out) hb); have n1_ := Aside0.mk (Kd.R_below (by (with_reducible repeat (first | apply Kd.R_alloc | apply Kd.R_drewN | apply Kd.R_drew)); exact HO_120003.out) hb); have n2_ := Aside0.mk (Kd.R_below (by (with_reducible repeat (first | apply Kd.R_alloc | apply Kd.R_drewN | apply Kd.R_drew)); exact HO_129003.out) hb); have n3_ := Aside0.mk (Kd.R_below (by (with_reducible repeat (first | apply Kd.R_alloc | apply Kd.R_drewN | apply Kd.R_drew)); exact HO_138003.out) hb); have n4_ := Aside0.mk (Kd.R_below (by (with_reducible repeat (first | apply Kd.R_alloc | apply Kd.R_drewN | apply Kd.R_drew)); exact HO145.out) hb); have n5_ := Aside0.mk (Kd.V_below (Kd.V_elderB (by (with_reducible repeat (first | apply Kd.V_alloc | apply Kd.V_drewN | apply Kd.V_drew)); exact HO153.out) gb155 (Nat.le_of_eq hg.symm)) hb); have n6_ := Aside0.mk (blk_below (g := gb119) (o := .cells #[.string t112, .string t113, .string t114, .slice Ao16 t115.length co16] 25 (0, 0)) (by (with_reducible repeat (first | refine blk_drewN ?_ _ | refine blk_drew ?_ | refine blk_alloc ?_ _)); exact BK119.out) hb); have n7_ := Aside0.mk (blk_below (g := gb128) (o := .cells #[.string t121, .string t122, .string t123, .slice Ao22 t124.length co22] 25 (0, 0)) (by (with_reducible repeat (first | refine blk_drewN ?_ _ | refine blk_drew ?_ | refine blk_alloc ?_ _)); exact BK128.out) hb); have n8_ := Aside0.mk (blk_below (g := gb137) (o := .cells #[.string t130, .string t131, .string t132, .slice Ao29 t133.length co29] 25 (0, 0)) (by (with_reducible repeat (first | refine blk_drewN ?_ _ | refine blk_drew ?_ | refine blk_alloc ?_ _)); exact BK137.out) hb); have n9_ := Aside0.mk (blk_below (g := gb147) (o := .cells #[.string t140, .string t141, .string t142, .slice Ao63 t143.length co63] 25 (0, 0)) (by (with_reducible repeat (first | refine blk_drewN ?_ _ | refine blk_drew ?_ | refine blk_alloc ?_ _)); exact BK147.out) hb); have n10_ := Aside0.mk (below_step (by repeat (first | (with_reducible first | exact HB.out | apply below_alloc | apply pw_below_drewN | apply below_drew1 | refine below_set ?_ GE119.out | refine below_set ?_ GE128.out | refine below_set ?_ GE137.out | refine below_set ?_ GE147.out) | exact HB.out)) hb); have n11_ := Aside0.mk (hbox); have n12_ := Aside0.mk ((by rw [hg]; exact (below_size (by repeat (first | (with_reducible first | exact HB.out | apply below_alloc | apply pw_below_drewN | apply below_drew1 | refine below_set ?_ GE119.out | refine below_set ?_ GE128.out | refine below_set ?_ GE137.out | refine below_set ?_ GE147.out) | exact HB.out))) : w.heap.size ≤ gb155)); have n13_ := Aside0.mk ((by rw [hg]; exact (below_size (by repeat (first | (with_reducible first | exact HB.out | apply below_alloc | apply pw_below_drewN | apply below_drew1 | refine below_set ?_ GE119.out | refine below_set ?_ GE128.out | refine below_set ?_ GE137.out | refine below_set ?_ GE147.out) | exact HB.out))) : w.heap.size ≤ gb155)); have n14_ := Aside0.mk ((by rw [hg]; exact Nat.ne_of_lt (blk_lt (g := gb119) (o := .cells #[.string t112, .string t113, .string t114, .slice Ao16 t115.length co16] 25 (0, 0)) (by (with_reducible repeat (first | refine blk_drewN ?_ _ | refine blk_drew ?_ | refine blk_alloc ?_ _)); exact BK119.out)) : gb119 ≠ gb155)); have n15_ := Aside0.mk ((by rw [hg]; exact Nat.ne_of_gt (blk_lt (g := gb119) (o := .cells #[.string t112, .string t113, .string t114, .slice Ao16 t115.length co16] 25 (0, 0)) (by (with_reducible repeat (first | refine blk_drewN ?_ _ | refine blk_drew ?_ | refine blk_alloc ?_ _)); exact BK119.out)) : gb155 ≠ gb119)); have n16_ := Aside0.mk ((by rw [hg]; exact Nat.ne_of_lt (blk_lt (g := gb128) (o := .cells #[.string t121, .string t122, .string t123, .slice Ao22 t124.length co22] 25 (0, 0)) (by (with_reducible repeat (first | refine blk_drewN ?_ _ | refine blk_drew ?_ | refine blk_alloc ?_ _)); exact BK128.out)) : gb128 ≠ gb155)); have n17_ := Aside0.mk ((by rw [hg]; exact Nat.ne_of_gt (blk_lt (g := gb128) (o := .cells #[.string t121, .string t122, .string t123, .slice Ao22 t124.length co22] 25 (0, 0)) (by (with_reducible repeat (first | refine blk_drewN ?_ _ | refine blk_drew ?_ | refine blk_alloc ?_ _)); exact BK128.out)) : gb155 ≠ gb128)); have n18_ := Aside0.mk ((by rw [hg]; exact Nat.ne_of_lt (blk_lt (g := gb137) (o := .cells #[.string t130, .string t131, .string t132, .slice Ao29 t133.length co29] 25 (0, 0)) (by (with_reducible repeat (first | refine blk_drewN ?_ _ | refine blk_drew ?_ | refine blk_alloc ?_ _)); exact BK137.out)) : gb137 ≠ gb155)); have n19_ := Aside0.mk ((by rw [hg]; exact Nat.ne_of_gt (blk_lt (g := gb137) (o := .cells #[.string t130, .string t131, .string t132, .slice Ao29 t133.length co29] 25 (0, 0)) (by (with_reducible repeat (first | refine blk_drewN ?_ _ | refine blk_drew ?_ | refine blk_alloc ?_ _)); exact BK137.out)) : gb155 ≠ gb137)); have n20_ := Aside0.mk ((by rw [hg]; exact Nat.ne_of_lt (blk_lt (g := gb147) (o := .cells #[.string t140, .string t141, .string t142, .slice Ao63 t143.length co63] 25 (0, 0)) (by (with_reducible repeat (first | refine blk_drewN ?_ _ | refine blk_drew ?_ | refine blk_alloc ?_ _)); exact BK147.out)) : gb147 ≠ gb155)); have n21_ := Aside0.mk ((by rw [hg]; exact Nat.ne_of_gt (blk_lt (g := gb147) (o := .cells #[.string t140, .string t141, .string t142, .slice Ao63 t143.length co63] 25 (0, 0)) (by (with_reducible repeat (first | refine blk_drewN ?_ _ | refine blk_drew ?_ | refine blk_alloc ?_ _)); exact BK147.out)) : gb155 ≠ gb147)); clear HO_48; clear HO_120003; clear HO_129003; clear HO_138003; clear HO145; clear HO153; clear BK119; clear BK128; clear BK137; clear BK147; clear HB; have HO_48 := n0_; have HO_120003 := n1_; have HO_129003 := n2_; have HO_138003 := n3_; have HO145 := n4_; have HO153 := n5_; have BK119 := n6_; have BK128 := n7_; have BK137 := n8_; have BK147 := n9_; have HB := n10_; have BK155 := n11_; have GW155 := n12_; have GE155 := n13_; have NB119_155 := n14_; have NB155_119 := n15_; have NB128_155 := n16_; have NB155_128 := n17_; have NB137_155 := n18_; have NB155_137 := n19_; have NB147_155 := n20_; have NB155_147 := n21_; clear n0_ n1_ n2_ n3_ n4_ n5_ n6_ n7_ n8_ n9_ n10_ n11_ n12_ n13_ n14_ n15_ n16_ n17_ n18_ n19_ n20_ n21_; clear hb hbox hg; have hnb68 := NB155_119.out; have hnc68 := NB119_155.out; have hnb69 := NB155_128.out; have hnc69 := NB128_155.out; have hnb70 := NB155_137.out; have hnc70 := NB137_155.out; have hnb71 := NB155_147.out; have hnc71 := NB147_155.out; have hcz72_0 : w67.cell? ⟨gb155, 0, none⟩ = some (.string (⟨#[]⟩ : ByteArray)) := (blk_cell BK155.out 0).trans rfl; have hcz72_1 : w67.cell? ⟨gb155, 1, none⟩ = some (.string (⟨#[]⟩ : ByteArray)) := (blk_cell BK155.out 1).trans rfl; have hcz72_2 : w67.cell? ⟨gb155, 2, none⟩ = some (.string (⟨#[]⟩ : ByteArray)) := (blk_cell BK155.out 2).trans rfl; have hcz72_3 : w67.cell? ⟨gb155, 3, none⟩ = some (.slice none 0 0) := (blk_cell BK155.out 3).trans rfl; have hfz72_0 := blk_frozen BK155.out 0; have hfz72_1 := blk_frozen BK155.out 1; have hfz72_2 := blk_frozen BK155.out 2; have hfz72_3 := blk_frozen BK155.out 3; obtain ⟨Ao73, co73, eo73⟩ := Kd.V_slice HO153.out; subst eo73))
                                  have n0_ : Aside0 (Kd.R Kd.string 9 ((((w67.setCell ⟨gb155, 0, none⟩ (.string t148)).setCell ⟨gb155, 1, none⟩ (.string t149)).setCell ⟨gb155, 2, none⟩ (.string t150)).setCell ⟨gb155, 3, none⟩ (.slice Ao73 t151.length co73)) w.heap.size (fun k_ => some k_ ≠ (.slice Ao22 t124.length co22 : Value).ownBlock ∧ some k_ ≠ (.slice Ao29 t133.length co29 : Value).ownBlock ∧ some k_ ≠ (.slice Ao63 t143.length co63 : Value).ownBlock) (.slice Ao16 t115.length co16) t115) := ⟨by (with_reducible repeat (first | apply Kd.R_alloc | apply Kd.R_drewN | apply Kd.R_drew)); exact Kd.R_mono (Kd.R_far (p := ⟨gb155, 3, none⟩) (Kd.R_far (p := ⟨gb155, 2, none⟩) (Kd.R_far (p := ⟨gb155, 1, none⟩) (Kd.R_far (p := ⟨gb155, 0, none⟩) (Kd.R_types HO_48.out BK155.out (by decide)) (fun _ hk => hk.2) (.string t148)) (fun _ hk => hk.2) (.string t149)) (fun _ hk => hk.2) (.string t150)) (fun _ hk => hk.2) (.slice Ao73 t151.length co73)) (fun _ hk => ⟨hk.1.1, ⟨hk.1.2.1, hk.1.2.2⟩⟩)⟩
                                  have n1_ : Aside0 (Kd.R Kd.string 9 ((((w67.setCell ⟨gb155, 0, none⟩ (.string t148)).setCell ⟨gb155, 1, none⟩ (.string t149)).setCell ⟨gb155, 2, none⟩ (.string t150)).setCell ⟨gb155, 3, none⟩ (.slice Ao73 t151.length co73)) w.heap.size (fun k_ => some k_ ≠ (.slice Ao22 t124.length co22 : Value).ownBlock ∧ some k_ ≠ (.slice Ao29 t133.length co29 : Value).ownBlock ∧ some k_ ≠ (.slice Ao63 t143.length co63 : Value).ownBlock) (.slice Ao16 t115.length co16) t115) := ⟨by (with_reducible repeat (first | apply Kd.R_alloc | apply Kd.R_drewN | apply Kd.R_drew)); exact Kd.R_mono (Kd.R_far (p := ⟨gb155, 3, none⟩) (Kd.R_far (p := ⟨gb155, 2, none⟩) (Kd.R_far (p := ⟨gb155, 1, none⟩) (Kd.R_far (p := ⟨gb155, 0, none⟩) (Kd.R_types HO_120003.out BK155.out (by decide)) (fun _ hk => hk.2) (.string t148)) (fun _ hk => hk.2) (.string t149)) (fun _ hk => hk.2) (.string t150)) (fun _ hk => hk.2) (.slice Ao73 t151.length co73)) (fun _ hk => ⟨hk.1.1, ⟨hk.1.2.1, hk.1.2.2⟩⟩)⟩
                                  have n2_ : Aside0 (Kd.R Kd.string 9 ((((w67.setCell ⟨gb155, 0, none⟩ (.string t148)).setCell ⟨gb155, 1, none⟩ (.string t149)).setCell ⟨gb155, 2, none⟩ (.string t150)).setCell ⟨gb155, 3, none⟩ (.slice Ao73 t151.length co73)) w.heap.size (fun k_ => some k_ ≠ (.slice Ao16 t115.length co16 : Value).ownBlock ∧ some k_ ≠ (.slice Ao16 t115.length co16 : Value).ownBlock ∧ some k_ ≠ (.slice Ao29 t133.length co29 : Value).ownBlock ∧ some k_ ≠ (.slice Ao63 t143.length co63 : Value).ownBlock) (.slice Ao22 t124.length co22) t124) := ⟨by (with_reducible repeat (first | apply Kd.R_alloc | apply Kd.R_drewN | apply Kd.R_drew)); exact Kd.R_mono (Kd.R_far (p := ⟨gb155, 3, none⟩) (Kd.R_far (p := ⟨gb155, 2, none⟩) (Kd.R_far (p := ⟨gb155, 1, none⟩) (Kd.R_far (p := ⟨gb155, 0, none⟩) (Kd.R_types HO_129003.out BK155.out (by decide)) (fun _ hk => hk.2) (.string t148)) (fun _ hk => hk.2) (.string t149)) (fun _ hk => hk.2) (.string t150)) (fun _ hk => hk.2) (.slice Ao73 t151.length co73)) (fun _ hk => ⟨hk.1.1, ⟨hk.1.2.1, ⟨hk.1.2.2.1, hk.1.2.2.2⟩⟩⟩)⟩
                                  have n3_ : Aside0 (Kd.R Kd.string 9 ((((w67.setCell ⟨gb155, 0, none⟩ (.string t148)).setCell ⟨gb155, 1, none⟩ (.string t149)).setCell ⟨gb155, 2, none⟩ (.string t150)).setCell ⟨gb155, 3, none⟩ (.slice Ao73 t151.length co73)) w.heap.size (fun k_ => some k_ ≠ (.slice Ao16 t115.length co16 : Value).ownBlock ∧ some k_ ≠ (.slice Ao16 t115.length co16 : Value).ownBlock ∧ some k_ ≠ (.slice Ao22 t124.length co22 : Value).ownBlock ∧ some k_ ≠ (.slice Ao63 t143.length co63 : Value).ownBlock) (.slice Ao29 t133.length co29) t133) := ⟨by (with_reducible repeat (first | apply Kd.R_alloc | apply Kd.R_drewN | apply Kd.R_drew)); exact Kd.R_mono (Kd.R_far (p := ⟨gb155, 3, none⟩) (Kd.R_far (p := ⟨gb155, 2, none⟩) (Kd.R_far (p := ⟨gb155, 1, none⟩) (Kd.R_far (p := ⟨gb155, 0, none⟩) (Kd.R_types HO_138003.out BK155.out (by decide)) (fun _ hk => hk.2) (.string t148)) (fun _ hk => hk.2) (.string t149)) (fun _ hk => hk.2) (.string t150)) (fun _ hk => hk.2) (.slice Ao73 t151.length co73)) (fun _ hk => ⟨hk.1.1, ⟨hk.1.2.1, ⟨hk.1.2.2.1, hk.1.2.2.2⟩⟩⟩)⟩
                                  have n4_ : Aside0 (Kd.R Kd.string 9 ((((w67.setCell ⟨gb155, 0, none⟩ (.string t148)).setCell ⟨gb155, 1, none⟩ (.string t149)).setCell ⟨gb155, 2, none⟩ (.string t150)).setCell ⟨gb155, 3, none⟩ (.slice Ao73 t151.length co73)) w.heap.size (fun k_ => some k_ ≠ (.slice Ao16 t115.length co16 : Value).ownBlock ∧ some k_ ≠ (.slice Ao16 t115.length co16 : Value).ownBlock ∧ some k_ ≠ (.slice Ao22 t124.length co22 : Value).ownBlock ∧ some k_ ≠ (.slice Ao29 t133.length co29 : Value).ownBlock) (.slice Ao63 t143.length co63) t143) := ⟨by (with_reducible repeat (first | apply Kd.R_alloc | apply Kd.R_drewN | apply Kd.R_drew)); exact Kd.R_mono (Kd.R_far (p := ⟨gb155, 3, none⟩) (Kd.R_far (p := ⟨gb155, 2, none⟩) (Kd.R_far (p := ⟨gb155, 1, none⟩) (Kd.R_far (p := ⟨gb155, 0, none⟩) (Kd.R_types HO145.out BK155.out (by decide)) (fun _ hk => hk.2) (.string t148)) (fun _ hk => hk.2) (.string t149)) (fun _ hk => hk.2) (.string t150)) (fun _ hk => hk.2) (.slice Ao73 t151.length co73)) (fun _ hk => ⟨hk.1.1, ⟨hk.1.2.1, ⟨hk.1.2.2.1, hk.1.2.2.2⟩⟩⟩)⟩
                                  have n5_ : Aside0 (Kd.V Kd.string 9 ((((w67.setCell ⟨gb155, 0, none⟩ (.string t148)).setCell ⟨gb155, 1, none⟩ (.string t149)).setCell ⟨gb155, 2, none⟩ (.string t150)).setCell ⟨gb155, 3, none⟩ (.slice Ao73 t151.length co73)) w.heap.size (fun k_ => some k_ ≠ (.slice Ao16 t115.length co16 : Value).ownBlock ∧ some k_ ≠ (.slice Ao16 t115.length co16 : Value).ownBlock ∧ some k_ ≠ (.slice Ao22 t124.length co22 : Value).ownBlock ∧ some k_ ≠ (.slice Ao29 t133.length co29 : Value).ownBlock ∧ k_ ≠ gb119 ∧ k_ ≠ gb128 ∧ k_ ≠ gb137 ∧ k_ ≠ gb147 ∧ k_ ≠ gb155) (.slice Ao73 t151.length co73) t151) := ⟨by (with_reducible repeat (first | apply Kd.V_alloc | apply Kd.V_drewN | apply Kd.V_drew)); exact Kd.V_mono (Kd.V_far (p := ⟨gb155, 3, none⟩) (Kd.V_far (p := ⟨gb155, 2, none⟩) (Kd.V_far (p := ⟨gb155, 1, none⟩) (Kd.V_far (p := ⟨gb155, 0, none⟩) (Kd.V_mono HO153.out (fun k_ hk => (⟨hk, hk.2⟩ : _ ∧ k_ ≠ gb155))) (fun _ hk => hk.2) (.string t148)) (fun _ hk => hk.2) (.string t149)) (fun _ hk => hk.2) (.string t150)) (fun _ hk => hk.2) (.slice Ao73 t151.length co73)) (fun _ hk => ⟨hk.1.1.1, ⟨hk.1.1.2.1, ⟨hk.1.1.2.2.1, ⟨hk.1.1.2.2.2.1, ⟨hk.1.1.2.2.2.2.1, ⟨hk.1.1.2.2.2.2.2.1, ⟨hk.1.1.2.2.2.2.2.2.1, ⟨hk.1.1.2.2.2.2.2.2.2, hk.1.2⟩⟩⟩⟩⟩⟩⟩⟩)⟩
                                  have n6_ : Aside0 (((((w67.setCell ⟨gb155, 0, none⟩ (.string t148)).setCell ⟨gb155, 1, none⟩ (.string t149)).setCell ⟨gb155, 2, none⟩ (.string t150)).setCell ⟨gb155, 3, none⟩ (.slice Ao73 t151.length co73)).heap[gb119]? = some (.cells #[.string t112, .string t113, .string t114, .slice Ao16 t115.length co16] 25 (0, 0))) := ⟨by (with_reducible repeat (first | refine blk_drewN ?_ _ | refine blk_drew ?_ | refine blk_alloc ?_ _)); refine blk_far ?_ NB119_155.out _; (with_reducible repeat (first | refine blk_drewN ?_ _ | refine blk_drew ?_ | refine blk_alloc ?_ _)); refine blk_far ?_ NB119_155.out _; (with_reducible repeat (first | refine blk_drewN ?_ _ | refine blk_drew ?_ | refine blk_alloc ?_ _)); refine blk_far ?_ NB119_155.out _; (with_reducible repeat (first | refine blk_drewN ?_ _ | refine blk_drew ?_ | refine blk_alloc ?_ _)); refine blk_far ?_ NB119_155.out _; (with_reducible repeat (first | refine blk_drewN ?_ _ | refine blk_drew ?_ | refine blk_alloc ?_ _)); exact BK119.out⟩
                                  have n7_ : Aside0 (((((w67.setCell ⟨gb155, 0, none⟩ (.string t148)).setCell ⟨gb155, 1, none⟩ (.string t149)).setCell ⟨gb155, 2, none⟩ (.string t150)).setCell ⟨gb155, 3, none⟩ (.slice Ao73 t151.length co73)).heap[gb128]? = some (.cells #[.string t121, .string t122, .string t123, .slice Ao22 t124.length co22] 25 (0, 0))) := ⟨by (with_reducible repeat (first | refine blk_drewN ?_ _ | refine blk_drew ?_ | refine blk_alloc ?_ _)); refine blk_far ?_ NB128_155.out _; (with_reducible repeat (first | refine blk_drewN ?_ _ | refine blk_drew ?_ | refine blk_alloc ?_ _)); refine blk_far ?_ NB128_155.out _; (with_reducible repeat (first | refine blk_drewN ?_ _ | refine blk_drew ?_ | refine blk_alloc ?_ _)); refine blk_far ?_ NB128_155.out _; (with_reducible repeat (first | refine blk_drewN ?_ _ | refine blk_drew ?_ | refine blk_alloc ?_ _)); refine blk_far ?_ NB128_155.out _; (with_reducible repeat (first | refine blk_drewN ?_ _ | refine blk_drew ?_ | refine blk_alloc ?_ _)); exact BK128.out⟩
                                  have n8_ : Aside0 (((((w67.setCell ⟨gb155, 0, none⟩ (.string t148)).setCell ⟨gb155, 1, none⟩ (.string t149)).setCell ⟨gb155, 2, none⟩ (.string t150)).setCell ⟨gb155, 3, none⟩ (.slice Ao73 t151.length co73)).heap[gb137]? = some (.cells #[.string t130, .string t131, .string t132, .slice Ao29 t133.length co29] 25 (0, 0))) := ⟨by (with_reducible repeat (first | refine blk_drewN ?_ _ | refine blk_drew ?_ | refine blk_alloc ?_ _)); refine blk_far ?_ NB137_155.out _; (with_reducible repeat (first | refine blk_drewN ?_ _ | refine blk_drew ?_ | refine blk_alloc ?_ _)); refine blk_far ?_ NB137_155.out _; (with_reducible repeat (first | refine blk_drewN ?_ _ | refine blk_drew ?_ | refine blk_alloc ?_ _)); refine blk_far ?_ NB137_155.out _; (with_reducible repeat (first | refine blk_drewN ?_ _ | refine blk_drew ?_ | refine blk_alloc ?_ _)); refine blk_far ?_ NB137_155.out _; (with_reducible repeat (first | refine blk_drewN ?_ _ | refine blk_drew ?_ | refine blk_alloc ?_ _)); exact BK137.out⟩
                                  have n9_ : Aside0 (((((w67.setCell ⟨gb155, 0, none⟩ (.string t148)).setCell ⟨gb155, 1, none⟩ (.string t149)).setCell ⟨gb155, 2, none⟩ (.string t150)).setCell ⟨gb155, 3, none⟩ (.slice Ao73 t151.length co73)).heap[gb147]? = some (.cells #[.string t140, .string t141, .string t142, .slice Ao63 t143.length co63] 25 (0, 0))) := ⟨by (with_reducible repeat (first | refine blk_drewN ?_ _ | refine blk_drew ?_ | refine blk_alloc ?_ _)); refine blk_far ?_ NB147_155.out _; (with_reducible repeat (first | refine blk_drewN ?_ _ | refine blk_drew ?_ | refine blk_alloc ?_ _)); refine blk_far ?_ NB147_155.out _; (with_reducible repeat (first | refine blk_drewN ?_ _ | refine blk_drew ?_ | refine blk_alloc ?_ _)); refine blk_far ?_ NB147_155.out _; (with_reducible repeat (first | refine blk_drewN ?_ _ | refine blk_drew ?_ | refine blk_alloc ?_ _)); refine blk_far ?_ NB147_155.out _; (with_reducible repeat (first | refine blk_drewN ?_ _ | refine blk_drew ?_ | refine blk_alloc ?_ _)); exact BK147.out⟩
                                  have n10_ : Aside0 (((((w67.setCell ⟨gb155, 0, none⟩ (.string t148)).setCell ⟨gb155, 1, none⟩ (.string t149)).setCell ⟨gb155, 2, none⟩ (.string t150)).setCell ⟨gb155, 3, none⟩ (.slice Ao73 t151.length co73)).heap[gb155]? = some (.cells #[.string t148, .string t149, .string t150, .slice Ao73 t151.length co73] 25 (0, 0))) := ⟨by (with_reducible repeat (first | refine blk_drewN ?_ _ | refine blk_drew ?_ | refine blk_alloc ?_ _)); refine blk_put (cs := #[.string t148, .string t149, .string t150, .slice none 0 0]) ?_ 3 _ rfl; (with_reducible repeat (first | refine blk_drewN ?_ _ | refine blk_drew ?_ | refine blk_alloc ?_ _)); refine blk_put (cs := #[.string t148, .string t149, .string (⟨#[]⟩ : ByteArray), .slice none 0 0]) ?_ 2 _ rfl; (with_reducible repeat (first | refine blk_drewN ?_ _ | refine blk_drew ?_ | refine blk_alloc ?_ _)); refine blk_put (cs := #[.string t148, .string (⟨#[]⟩ : ByteArray), .string (⟨#[]⟩ : ByteArray), .slice none 0 0]) ?_ 1 _ rfl; (with_reducible repeat (first | refine blk_drewN ?_ _ | refine blk_drew ?_ | refine blk_alloc ?_ _)); refine blk_put (cs := #[.string (⟨#[]⟩ : ByteArray), .string (⟨#[]⟩ : ByteArray), .string (⟨#[]⟩ : ByteArray), .slice none 0 0]) ?_ 0 _ rfl; (with_reducible repeat (first | refine blk_drewN ?_ _ | refine blk_drew ?_ | refine blk_alloc ?_ _)); exact BK155.out⟩
                                  have n11_ : Aside0 (Below w.heap.size w ((((w67.setCell ⟨gb155, 0, none⟩ (.string t148)).setCell ⟨gb155, 1, none⟩ (.string t149)).setCell ⟨gb155, 2, none⟩ (.string t150)).setCell ⟨gb155, 3, none⟩ (.slice Ao73 t151.length co73))) := ⟨by repeat (first | (with_reducible first | exact HB.out | apply below_alloc | apply pw_below_drewN | apply below_drew1 | refine below_set ?_ GE119.out | refine below_set ?_ GE128.out | refine below_set ?_ GE137.out | refine below_set ?_ GE147.out | refine below_set ?_ GE155.out) | exact HB.out)⟩
                                  (try clear HO_48)
                                  (try clear HO_120003)
                                  (try clear HO_129003)
                                  (try clear HO_138003)
                                  (try clear HO145)
                                  (try clear HO153)
                                  (try clear BK119)
                                  (try clear BK128)
                                  (try clear BK137)
                                  (try clear BK147)
                                  (try clear BK155)
                                  (try clear HB)
                                  generalize ((((w67.setCell ⟨gb155, 0, none⟩ (.string t148)).setCell ⟨gb155, 1, none⟩ (.string t149)).setCell ⟨gb155, 2, none⟩ (.string t150)).setCell ⟨gb155, 3, none⟩ (.slice Ao73 t151.length co73)) = w74 at n0_ n1_ n2_ n3_ n4_ n5_ n6_ n7_ n8_ n9_ n10_ n11_ ⊢
                                  have HO_48 := n0_
                                  have HO_120003 := n1_
                                  have HO_129003 := n2_
                                  have HO_138003 := n3_
                                  have HO145 := n4_
                                  have HO153 := n5_
                                  have BK119 := n6_
                                  have BK128 := n7_
                                  have BK137 := n8_
                                  have BK147 := n9_
                                  have BK155 := n10_
                                  have HB := n11_
                                  clear n0_ n1_ n2_ n3_ n4_ n5_ n6_ n7_ n8_ n9_ n10_ n11_
                                  have n0_ := Aside0.mk (Kd.R_drew HO_48.out)
                                  have n1_ := Aside0.mk (Kd.R_drew HO_120003.out)
                                  have n2_ := Aside0.mk (Kd.R_drew HO_129003.out)
                                  have n3_ := Aside0.mk (Kd.R_drew HO_138003.out)
                                  have n4_ := Aside0.mk (Kd.R_drew HO145.out)
                                  have n5_ := Aside0.mk (Kd.V_drew HO153.out)
                                  have n6_ := Aside0.mk (blk_drew BK119.out)
                                  have n7_ := Aside0.mk (blk_drew BK128.out)
                                  have n8_ := Aside0.mk (blk_drew BK137.out)
                                  have n9_ := Aside0.mk (blk_drew BK147.out)
                                  have n10_ := Aside0.mk (blk_drew BK155.out)
                                  have n11_ := Aside0.mk (below_drew1 HB.out)
                                  clear HO_48
                                  clear HO_120003
                                  clear HO_129003
                                  clear HO_138003
                                  clear HO145
                                  clear HO153
                                  clear BK119
                                  clear BK128
                                  clear BK137
                                  clear BK147
                                  clear BK155
                                  clear HB
                                  have HO_48 := n0_
                                  have HO_120003 := n1_
                                  have HO_129003 := n2_
                                  have HO_138003 := n3_
                                  have HO145 := n4_
                                  have HO153 := n5_
                                  have BK119 := n6_
                                  have BK128 := n7_
                                  have BK137 := n8_
                                  have BK147 := n9_
                                  have BK155 := n10_
                                  have HB := n11_
                                  clear n0_ n1_ n2_ n3_ n4_ n5_ n6_ n7_ n8_ n9_ n10_ n11_
                                  refine start_ (n := 37) (S := fun w' => w'.cell? ⟨gb128, 0, none⟩ = some (.string t121) ∧ w'.cell? ⟨gb128, 1, none⟩ = some (.string t122) ∧ w'.cell? ⟨gb128, 2, none⟩ = some (.string t123) ∧ w'.cell? ⟨gb128, 3, none⟩ = some (.slice Ao22 t124.length co22) ∧ w'.cell? ⟨gb119, 0, none⟩ = some (.string t112) ∧ w'.cell? ⟨gb119, 1, none⟩ = some (.string t113) ∧ w'.cell? ⟨gb119, 2, none⟩ = some (.string t114) ∧ w'.cell? ⟨gb119, 3, none⟩ = some (.slice Ao16 t115.length co16) ∧ w'.cell? ⟨gb137, 0, none⟩ = some (.string t130) ∧ w'.cell? ⟨gb137, 1, none⟩ = some (.string t131) ∧ w'.cell? ⟨gb137, 2, none⟩ = some (.string t132) ∧ w'.cell? ⟨gb137, 3, none⟩ = some (.slice Ao29 t133.length co29) ∧ w'.cell? ⟨gb147, 0, none⟩ = some (.string t140) ∧ w'.cell? ⟨gb147, 1, none⟩ = some (.string t141) ∧ w'.cell? ⟨gb147, 2, none⟩ = some (.string t142) ∧ w'.cell? ⟨gb147, 3, none⟩ = some (.slice Ao63 t143.length co63) ∧ w'.cell? ⟨gb155, 0, none⟩ = some (.string t148) ∧ w'.cell? ⟨gb155, 1, none⟩ = some (.string t149) ∧ w'.cell? ⟨gb155, 2, none⟩ = some (.string t150) ∧ w'.cell? ⟨gb155, 3, none⟩ = some (.slice Ao73 t151.length co73)) (ds := []) #[false, false, false, false, false, false, false, false, false, false, false, false, false, false, false, false, false, false, false, false, false, false, false, false, false, false, false, false, false, false, false, false, false, false, false, false, false] (by kernel_rfl) rfl rfl ⟨(blk_cell BK128.out 0).trans rfl, (blk_cell BK128.out 1).trans rfl, (blk_cell BK128.out 2).trans rfl, (blk_cell BK128.out 3).trans rfl, (blk_cell BK119.out 0).trans rfl, (blk_cell BK119.out 1).trans rfl, (blk_cell BK119.out 2).trans rfl, (blk_cell BK119.out 3).trans rfl, (blk_cell BK137.out 0).trans rfl, (blk_cell BK137.out 1).trans rfl, (blk_cell BK137.out 2).trans rfl, (blk_cell BK137.out 3).trans rfl, (blk_cell BK147.out 0).trans rfl, (blk_cell BK147.out 1).trans rfl, (blk_cell BK147.out 2).trans rfl, (blk_cell BK147.out 3).trans rfl, (blk_cell BK155.out 0).trans rfl, (blk_cell BK155.out 1).trans rfl, (blk_cell BK155.out 2).trans rfl, (blk_cell BK155.out 3).trans rfl⟩ (fun hHeld => ?_); refine with_tabW polyglotlaw03_TagMore.tab20 polyglotlaw03_TagMore.bits20 (fun HT_ HW_ => ?_)
                                  generalize w74.drew = w75 at HO_48 HO_120003 HO_129003 HO_138003 HO145 HO153 BK119 BK128 BK137 BK147 BK155 HB hHeld ⊢
                                  refine take_ (i := 0) (N := some 68) (v := ?_) (a' := ?_) #[true, false, false, false, false, false, false, false, false, false, false, false, false, false, false, false, false, false, false, false, false, false, false, false, false, false, false, false, false, false, false, false, false, false, false, false, false] rfl rfl (take_ofW HT_.out HW_.out (by kernel_rfl)) (fun _ _ _ h => h) (Or.inl ⟨by rfl, ?_⟩) hHeld ?_ ?_
                                  rotate_left
                                  · rintro w' ⟨s0, s1, s2, s3, s4, s5, s6, s7, s8, s9, s10, s11, s12, s13, s14, s15, s16, s17, s18, s19⟩
                                    go_simp
                                    with_reducible rfl
                                  rotate_left
                                  · simp only [Act.put, List.setIfInBounds_toArray, List.set_cons_zero, List.set_cons_succ, i64_w, i32_w]
                                    rfl
                                  refine take_ (i := 2) (N := some 70) (v := ?_) (a' := ?_) #[true, false, true, false, false, false, false, false, false, false, false, false, false, false, false, false, false, false, false, false, false, false, false, false, false, false, false, false, false, false, false, false, false, false, false, false, false] rfl rfl (take_ofW HT_.out HW_.out (by kernel_rfl)) (fun _ _ _ h => h) (Or.inl ⟨by rfl, ?_⟩) hHeld ?_ ?_
                                  rotate_left
                                  · rintro w' ⟨s0, s1, s2, s3, s4, s5, s6, s7, s8, s9, s10, s11, s12, s13, s14, s15, s16, s17, s18, s19⟩
                                    go_simp
                                    with_reducible rfl
                                  rotate_left
                                  · simp only [Act.put, List.setIfInBounds_toArray, List.set_cons_zero, List.set_cons_succ, i64_w, i32_w]
                                    rfl
                                  refine one_ (i := 1) (N := some 69) #[true, true, true, false, false, false, false, false, false, false, false, false, false, false, false, false, false, false, false, false, false, false, false, false, false, false, false, false, false, false, false, false, false, false, false, false, false] rfl rfl (one_of HT_.out (by kernel_rfl)) (by decide) (fun K hK => ?_)
                                  refine goes_ Tryd.func17 (by kernel_rfl) rfl #[.agg #[.string t121, .string t122, .string t123, .slice Ao22 t124.length co22]] (by rfl) rfl rfl (by (try simp only [List.map_toArray, List.map_cons, List.map_nil]); first | done | rfl | (simp only [List.length_drop, List.length_take]; rfl)) ?_
                                  with_reducible refine (tag_Str.calls t121 t122 t123 _ _ t124 t156 _ ?side1 ?side2 A43.out).mono ?_
                                  (case side1 => repeat (first | exact (Kd.R_reads' HO_129003.out).2.2 | (with_reducible refine Kd.C_alloc ?_ _) | (with_reducible refine Kd.C_drewN ?_ _) | (with_reducible refine Kd.C_drew ?_)))
                                  (case side2 => exact (Kd.R_reads' HO_129003.out).2.1)
                                  rintro e w76 ⟨rfl, hb⟩
                                  refine ⟨_, rfl, ?_⟩
                                  have n0_ := Aside0.mk (Kd.R_below (by (with_reducible repeat (first | apply Kd.R_alloc | apply Kd.R_drewN | apply Kd.R_drew)); exact HO_48.out) hb)
                                  have n1_ := Aside0.mk (Kd.R_below (by (with_reducible repeat (first | apply Kd.R_alloc | apply Kd.R_drewN | apply Kd.R_drew)); exact HO_120003.out) hb)
                                  have n2_ := Aside0.mk (Kd.R_below (by (with_reducible repeat (first | apply Kd.R_alloc | apply Kd.R_drewN | apply Kd.R_drew)); exact HO_129003.out) hb)
                                  have n3_ := Aside0.mk (Kd.R_below (by (with_reducible repeat (first | apply Kd.R_alloc | apply Kd.R_drewN | apply Kd.R_drew)); exact HO_138003.out) hb)
                                  have n4_ := Aside0.mk (Kd.R_below (by (with_reducible repeat (first | apply Kd.R_alloc | apply Kd.R_drewN | apply Kd.R_drew)); exact HO145.out) hb)
                                  have n5_ := Aside0.mk (Kd.V_below (by (with_reducible repeat (first | apply Kd.V_alloc | apply Kd.V_drewN | apply Kd.V_drew)); exact HO153.out) hb)
                                  have n6_ := Aside0.mk (blk_below (g := gb119) (o := .cells #[.string t112, .string t113, .string t114, .slice Ao16 t115.length co16] 25 (0, 0)) (by (with_reducible repeat (first | refine blk_drewN ?_ _ | refine blk_drew ?_ | refine blk_alloc ?_ _)); exact BK119.out) hb)
                                  have n7_ := Aside0.mk (blk_below (g := gb128) (o := .cells #[.string t121, .string t122, .string t123, .slice Ao22 t124.length co22] 25 (0, 0)) (by (with_reducible repeat (first | refine blk_drewN ?_ _ | refine blk_drew ?_ | refine blk_alloc ?_ _)); exact BK128.out) hb)
                                  have n8_ := Aside0.mk (blk_below (g := gb137) (o := .cells #[.string t130, .string t131, .string t132, .slice Ao29 t133.length co29] 25 (0, 0)) (by (with_reducible repeat (first | refine blk_drewN ?_ _ | refine blk_drew ?_ | refine blk_alloc ?_ _)); exact BK137.out) hb)
                                  have n9_ := Aside0.mk (blk_below (g := gb147) (o := .cells #[.string t140, .string t141, .string t142, .slice Ao63 t143.length co63] 25 (0, 0)) (by (with_reducible repeat (first | refine blk_drewN ?_ _ | refine blk_drew ?_ | refine blk_alloc ?_ _)); exact BK147.out) hb)
                                  have n10_ := Aside0.mk (blk_below (g := gb155) (o := .cells #[.string t148, .string t149, .string t150, .slice Ao73 t151.length co73] 25 (0, 0)) (by (with_reducible repeat (first | refine blk_drewN ?_ _ | refine blk_drew ?_ | refine blk_alloc ?_ _)); exact BK155.out) hb)
                                  have n11_ := Aside0.mk (below_step (by repeat (first | (with_reducible first | exact HB.out | apply below_alloc | apply pw_below_drewN | apply below_drew1 | refine below_set ?_ GE119.out | refine below_set ?_ GE128.out | refine below_set ?_ GE137.out | refine below_set ?_ GE147.out | refine below_set ?_ GE155.out) | exact HB.out)) hb)
                                  clear HO_48
                                  clear HO_120003
                                  clear HO_129003
                                  clear HO_138003
                                  clear HO145
                                  clear HO153
                                  clear BK119
                                  clear BK128
                                  clear BK137
                                  clear BK147
                                  clear BK155
                                  clear HB
                                  have HO_48 := n0_
                                  have HO_120003 := n1_
                                  have HO_129003 := n2_
                                  have HO_138003 := n3_
                                  have HO145 := n4_
                                  have HO153 := n5_
                                  have BK119 := n6_
                                  have BK128 := n7_
                                  have BK137 := n8_
                                  have BK147 := n9_
                                  have BK155 := n10_
                                  have HB := n11_
                                  clear n0_ n1_ n2_ n3_ n4_ n5_ n6_ n7_ n8_ n9_ n10_ n11_
                                  (try clear hb)
                                  (try clear hb2)
                                  (try clear hk)
                                  (try clear hi)
                                  refine hK.out _ _ ⟨(blk_cell BK128.out 0).trans rfl, (blk_cell BK128.out 1).trans rfl, (blk_cell BK128.out 2).trans rfl, (blk_cell BK128.out 3).trans rfl, (blk_cell BK119.out 0).trans rfl, (blk_cell BK119.out 1).trans rfl, (blk_cell BK119.out 2).trans rfl, (blk_cell BK119.out 3).trans rfl, (blk_cell BK137.out 0).trans rfl, (blk_cell BK137.out 1).trans rfl, (blk_cell BK137.out 2).trans rfl, (blk_cell BK137.out 3).trans rfl, (blk_cell BK147.out 0).trans rfl, (blk_cell BK147.out 1).trans rfl, (blk_cell BK147.out 2).trans rfl, (blk_cell BK147.out 3).trans rfl, (blk_cell BK155.out 0).trans rfl, (blk_cell BK155.out 1).trans rfl, (blk_cell BK155.out 2).trans rfl, (blk_cell BK155.out 3).trans rfl⟩ (fun hHeld => ?_)
                                  clear hK K
                                  refine norm_ (a' := ?_) ?_ ?_
                                  rotate_left
                                  · show Act.put _ (some 69) _ = _
                                    simp only [Act.put, List.setIfInBounds_toArray, List.set_cons_zero, List.set_cons_succ, i64_w, i32_w]
                                    rfl
                                  refine one_ (i := 3) (N := some 71) #[true, true, true, true, false, false, false, false, false, false, false, false, false, false, false, false, false, false, false, false, false, false, false, false, false, false, false, false, false, false, false, false, false, false, false, false, false] rfl rfl (one_of HT_.out (by kernel_rfl)) (by decide) (fun K hK => ?_)
                                  refine goes_ Tryd.func17 (by kernel_rfl) rfl #[.agg #[.string t112, .string t113, .string t114, .slice Ao16 t115.length co16]] (by rfl) rfl rfl (by (try simp only [List.map_toArray, List.map_cons, List.map_nil]); first | done | rfl | (simp only [List.length_drop, List.length_take]; rfl)) ?_
                                  with_reducible refine (tag_Str.calls t112 t113 t114 _ _ t115 t157 _ ?side1 ?side2 A44.out).mono ?_
                                  (case side1 => repeat (first | exact (Kd.R_reads' HO_120003.out).2.2 | (with_reducible refine Kd.C_alloc ?_ _) | (with_reducible refine Kd.C_drewN ?_ _) | (with_reducible refine Kd.C_drew ?_)))
                                  (case side2 => exact (Kd.R_reads' HO_120003.out).2.1)
                                  rintro e w77 ⟨rfl, hb⟩
                                  refine ⟨_, rfl, ?_⟩
                                  have n0_ := Aside0.mk (Kd.R_below (by (with_reducible repeat (first | apply Kd.R_alloc | apply Kd.R_drewN | apply Kd.R_drew)); exact HO_48.out) hb)
                                  have n1_ := Aside0.mk (Kd.R_below (by (with_reducible repeat (first | apply Kd.R_alloc | apply Kd.R_drewN | apply Kd.R_drew)); exact HO_120003.out) hb)
                                  have n2_ := Aside0.mk (Kd.R_below (by (with_reducible repeat (first | apply Kd.R_alloc | apply Kd.R_drewN | apply Kd.R_drew)); exact HO_129003.out) hb)
                                  have n3_ := Aside0.mk (Kd.R_below (by (with_reducible repeat (first | apply Kd.R_alloc | apply Kd.R_drewN | apply Kd.R_drew)); exact HO_138003.out) hb)
                                  have n4_ := Aside0.mk (Kd.R_below (by (with_reducible repeat (first | apply Kd.R_alloc | apply Kd.R_drewN | apply Kd.R_drew)); exact HO145.out) hb)
                                  have n5_ := Aside0.mk (Kd.V_below (by (with_reducible repeat (first | apply Kd.V_alloc | apply Kd.V_drewN | apply Kd.V_drew)); exact HO153.out) hb)
                                  have n6_ := Aside0.mk (blk_below (g := gb119) (o := .cells #[.string t112, .string t113, .string t114, .slice Ao16 t115.length co16] 25 (0, 0)) (by (with_reducible repeat (first | refine blk_drewN ?_ _ | refine blk_drew ?_ | refine blk_alloc ?_ _)); exact BK119.out) hb)
                                  have n7_ := Aside0.mk (blk_below (g := gb128) (o := .cells #[.string t121, .string t122, .string t123, .slice Ao22 t124.length co22] 25 (0, 0)) (by (with_reducible repeat (first | refine blk_drewN ?_ _ | refine blk_drew ?_ | refine blk_alloc ?_ _)); exact BK128.out) hb)
                                  have n8_ := Aside0.mk (blk_below (g := gb137) (o := .cells #[.string t130, .string t131, .string t132, .slice Ao29 t133.length co29] 25 (0, 0)) (by (with_reducible repeat (first | refine blk_drewN ?_ _ | refine blk_drew ?_ | refine blk_alloc ?_ _)); exact BK137.out) hb)
                                  have n9_ := Aside0.mk (blk_below (g := gb147) (o := .cells #[.string t140, .string t141, .string t142, .slice Ao63 t143.length co63] 25 (0, 0)) (by (with_reducible repeat (first | refine blk_drewN ?_ _ | refine blk_drew ?_ | refine blk_alloc ?_ _)); exact BK147.out) hb)
                                  have n10_ := Aside0.mk (blk_below (g := gb155) (o := .cells #[.string t148, .string t149, .string t150, .slice Ao73 t151.length co73] 25 (0, 0)) (by (with_reducible repeat (first | refine blk_drewN ?_ _ | refine blk_drew ?_ | refine blk_alloc ?_ _)); exact BK155.out) hb)
                                  have n11_ := Aside0.mk (below_step (by repeat (first | (with_reducible first | exact HB.out | apply below_alloc | apply pw_below_drewN | apply below_drew1 | refine below_set ?_ GE119.out | refine below_set ?_ GE128.out | refine below_set ?_ GE137.out | refine below_set ?_ GE147.out | refine below_set ?_ GE155.out) | exact HB.out)) hb)
                                  clear HO_48
                                  clear HO_120003
                                  clear HO_129003
                                  clear HO_138003
                                  clear HO145
                                  clear HO153
                                  clear BK119
                                  clear BK128
                                  clear BK137
                                  clear BK147
                                  clear BK155
                                  clear HB
                                  have HO_48 := n0_
                                  have HO_120003 := n1_
                                  have HO_129003 := n2_
                                  have HO_138003 := n3_
                                  have HO145 := n4_
                                  have HO153 := n5_
                                  have BK119 := n6_
                                  have BK128 := n7_
                                  have BK137 := n8_
                                  have BK147 := n9_
                                  have BK155 := n10_
                                  have HB := n11_
                                  clear n0_ n1_ n2_ n3_ n4_ n5_ n6_ n7_ n8_ n9_ n10_ n11_
                                  (try clear hb)
                                  (try clear hb2)
                                  (try clear hk)
                                  (try clear hi)
                                  refine hK.out _ _ ⟨(blk_cell BK128.out 0).trans rfl, (blk_cell BK128.out 1).trans rfl, (blk_cell BK128.out 2).trans rfl, (blk_cell BK128.out 3).trans rfl, (blk_cell BK119.out 0).trans rfl, (blk_cell BK119.out 1).trans rfl, (blk_cell BK119.out 2).trans rfl, (blk_cell BK119.out 3).trans rfl, (blk_cell BK137.out 0).trans rfl, (blk_cell BK137.out 1).trans rfl, (blk_cell BK137.out 2).trans rfl, (blk_cell BK137.out 3).trans rfl, (blk_cell BK147.out 0).trans rfl, (blk_cell BK147.out 1).trans rfl, (blk_cell BK147.out 2).trans rfl, (blk_cell BK147.out 3).trans rfl, (blk_cell BK155.out 0).trans rfl, (blk_cell BK155.out 1).trans rfl, (blk_cell BK155.out 2).trans rfl, (blk_cell BK155.out 3).trans rfl⟩ (fun hHeld => ?_)
                                  clear hK K
                                  refine norm_ (a' := ?_) ?_ ?_
                                  rotate_left
                                  · show Act.put _ (some 71) _ = _
                                    simp only [Act.put, List.setIfInBounds_toArray, List.set_cons_zero, List.set_cons_succ, i64_w, i32_w]
                                    rfl
                                  refine pure_ (i := 4) (N := some 72) (v := ?_) (a' := ?_) #[true, true, true, true, true, false, false, false, false, false, false, false, false, false, false, false, false, false, false, false, false, false, false, false, false, false, false, false, false, false, false, false, false, false, false, false, false] rfl rfl (any_of HT_.out (by kernel_rfl)) (fun _ _ _ h => h) (Or.inl ⟨by rfl, ?_⟩) ?_ ?_
                                  rotate_left
                                  · intro w'
                                    go_simp
                                    with_reducible rfl
                                  rotate_left
                                  · simp only [Act.put, List.setIfInBounds_toArray, List.set_cons_zero, List.set_cons_succ, i64_w, i32_w]
                                    rfl
                                  refine pure_ (i := 5) (N := some 73) (v := ?_) (a' := ?_) #[true, true, true, true, true, true, false, false, false, false, false, false, false, false, false, false, false, false, false, false, false, false, false, false, false, false, false, false, false, false, false, false, false, false, false, false, false] rfl rfl (any_of HT_.out (by kernel_rfl)) (fun _ _ _ h => h) (Or.inl ⟨by rfl, ?_⟩) ?_ ?_
                                  rotate_left
                                  · intro w'
                                    go_simp
                                    with_reducible rfl
                                  rotate_left
                                  · simp only [Act.put, List.setIfInBounds_toArray, List.set_cons_zero, List.set_cons_succ, i64_w, i32_w]
                                    rfl
                                  refine take_ (i := 6) (N := some 74) (v := ?_) (a' := ?_) #[true, true, true, true, true, true, true, false, false, false, false, false, false, false, false, false, false, false, false, false, false, false, false, false, false, false, false, false, false, false, false, false, false, false, false, false, false] rfl rfl (take_ofW HT_.out HW_.out (by kernel_rfl)) (fun _ _ _ h => h) (Or.inl ⟨by rfl, ?_⟩) hHeld ?_ ?_
                                  rotate_left
                                  · rintro w' ⟨s0, s1, s2, s3, s4, s5, s6, s7, s8, s9, s10, s11, s12, s13, s14, s15, s16, s17, s18, s19⟩
                                    go_simp
                                    with_reducible rfl
                                  rotate_left
                                  · simp only [Act.put, List.setIfInBounds_toArray, List.set_cons_zero, List.set_cons_succ, i64_w, i32_w]
                                    rfl
                                  refine take_ (i := 8) (N := some 76) (v := ?_) (a' := ?_) #[true, true, true, true, true, true, true, false, true, false, false, false, false, false, false, false, false, false, false, false, false, false, false, false, false, false, false, false, false, false, false, false, false, false, false, false, false] rfl rfl (take_ofW HT_.out HW_.out (by kernel_rfl)) (fun _ _ _ h => h) (Or.inl ⟨by rfl, ?_⟩) hHeld ?_ ?_
                                  rotate_left
                                  · rintro w' ⟨s0, s1, s2, s3, s4, s5, s6, s7, s8, s9, s10, s11, s12, s13, s14, s15, s16, s17, s18, s19⟩
                                    go_simp
                                    with_reducible rfl
                                  rotate_left
                                  · simp only [Act.put, List.setIfInBounds_toArray, List.set_cons_zero, List.set_cons_succ, i64_w, i32_w]
                                    rfl
                                  refine one_ (i := 7) (N := some 75) #[true, true, true, true, true, true, true, true, true, false, false, false, false, false, false, false, false, false, false, false, false, false, false, false, false, false, false, false, false, false, false, false, false, false, false, false, false] rfl rfl (one_of HT_.out (by kernel_rfl)) (by decide) (fun K hK => ?_)
                                  refine goes_ Tryd.func17 (by kernel_rfl) rfl #[.agg #[.string t130, .string t131, .string t132, .slice Ao29 t133.length co29]] (by rfl) rfl rfl (by (try simp only [List.map_toArray, List.map_cons, List.map_nil]); first | done | rfl | (simp only [List.length_drop, List.length_take]; rfl)) ?_
                                  with_reducible refine (tag_Str.calls t130 t131 t132 _ _ t133 t158 _ ?side1 ?side2 A46.out).mono ?_
                                  (case side1 => repeat (first | exact (Kd.R_reads' HO_138003.out).2.2 | (with_reducible refine Kd.C_alloc ?_ _) | (with_reducible refine Kd.C_drewN ?_ _) | (with_reducible refine Kd.C_drew ?_)))
                                  (case side2 => exact (Kd.R_reads' HO_138003.out).2.1)
                                  rintro e w78 ⟨rfl, hb⟩
                                  refine ⟨_, rfl, ?_⟩
                                  have n0_ := Aside0.mk (Kd.R_below (by (with_reducible repeat (first | apply Kd.R_alloc | apply Kd.R_drewN | apply Kd.R_drew)); exact HO_48.out) hb)
                                  have n1_ := Aside0.mk (Kd.R_below (by (with_reducible repeat (first | apply Kd.R_alloc | apply Kd.R_drewN | apply Kd.R_drew)); exact HO_120003.out) hb)
                                  have n2_ := Aside0.mk (Kd.R_below (by (with_reducible repeat (first | apply Kd.R_alloc | apply Kd.R_drewN | apply Kd.R_drew)); exact HO_129003.out) hb)
                                  have n3_ := Aside0.mk (Kd.R_below (by (with_reducible repeat (first | apply Kd.R_alloc | apply Kd.R_drewN | apply Kd.R_drew)); exact HO_138003.out) hb)
                                  have n4_ := Aside0.mk (Kd.R_below (by (with_reducible repeat (first | apply Kd.R_alloc | apply Kd.R_drewN | apply Kd.R_drew)); exact HO145.out) hb)
                                  have n5_ := Aside0.mk (Kd.V_below (by (with_reducible repeat (first | apply Kd.V_alloc | apply Kd.V_drewN | apply Kd.V_drew)); exact HO153.out) hb)
                                  have n6_ := Aside0.mk (blk_below (g := gb119) (o := .cells #[.string t112, .string t113, .string t114, .slice Ao16 t115.length co16] 25 (0, 0)) (by (with_reducible repeat (first | refine blk_drewN ?_ _ | refine blk_drew ?_ | refine blk_alloc ?_ _)); exact BK119.out) hb)
                                  have n7_ := Aside0.mk (blk_below (g := gb128) (o := .cells #[.string t121, .string t122, .string t123, .slice Ao22 t124.length co22] 25 (0, 0)) (by (with_reducible repeat (first | refine blk_drewN ?_ _ | refine blk_drew ?_ | refine blk_alloc ?_ _)); exact BK128.out) hb)
                                  have n8_ := Aside0.mk (blk_below (g := gb137) (o := .cells #[.string t130, .string t131, .string t132, .slice Ao29 t133.length co29] 25 (0, 0)) (by (with_reducible repeat (first | refine blk_drewN ?_ _ | refine blk_drew ?_ | refine blk_alloc ?_ _)); exact BK137.out) hb)
                                  have n9_ := Aside0.mk (blk_below (g := gb147) (o := .cells #[.string t140, .string t141, .string t142, .slice Ao63 t143.length co63] 25 (0, 0)) (by (with_reducible repeat (first | refine blk_drewN ?_ _ | refine blk_drew ?_ | refine blk_alloc ?_ _)); exact BK147.out) hb)
                                  have n10_ := Aside0.mk (blk_below (g := gb155) (o := .cells #[.string t148, .string t149, .string t150, .slice Ao73 t151.length co73] 25 (0, 0)) (by (with_reducible repeat (first | refine blk_drewN ?_ _ | refine blk_drew ?_ | refine blk_alloc ?_ _)); exact BK155.out) hb)
                                  have n11_ := Aside0.mk (below_step (by repeat (first | (with_reducible first | exact HB.out | apply below_alloc | apply pw_below_drewN | apply below_drew1 | refine below_set ?_ GE119.out | refine below_set ?_ GE128.out | refine below_set ?_ GE137.out | refine below_set ?_ GE147.out | refine below_set ?_ GE155.out) | exact HB.out)) hb)
                                  clear HO_48
                                  clear HO_120003
                                  clear HO_129003
                                  clear HO_138003
                                  clear HO145
                                  clear HO153
                                  clear BK119
                                  clear BK128
                                  clear BK137
                                  clear BK147
                                  clear BK155
                                  clear HB
                                  have HO_48 := n0_
                                  have HO_120003 := n1_
                                  have HO_129003 := n2_
                                  have HO_138003 := n3_
                                  have HO145 := n4_
                                  have HO153 := n5_
                                  have BK119 := n6_
                                  have BK128 := n7_
                                  have BK137 := n8_
                                  have BK147 := n9_
                                  have BK155 := n10_
                                  have HB := n11_
                                  clear n0_ n1_ n2_ n3_ n4_ n5_ n6_ n7_ n8_ n9_ n10_ n11_
                                  (try clear hb)
                                  (try clear hb2)
                                  (try clear hk)
                                  (try clear hi)
                                  refine hK.out _ _ ⟨(blk_cell BK128.out 0).trans rfl, (blk_cell BK128.out 1).trans rfl, (blk_cell BK128.out 2).trans rfl, (blk_cell BK128.out 3).trans rfl, (blk_cell BK119.out 0).trans rfl, (blk_cell BK119.out 1).trans rfl, (blk_cell BK119.out 2).trans rfl, (blk_cell BK119.out 3).trans rfl, (blk_cell BK137.out 0).trans rfl, (blk_cell BK137.out 1).trans rfl, (blk_cell BK137.out 2).trans rfl, (blk_cell BK137.out 3).trans rfl, (blk_cell BK147.out 0).trans rfl, (blk_cell BK147.out 1).trans rfl, (blk_cell BK147.out 2).trans rfl, (blk_cell BK147.out 3).trans rfl, (blk_cell BK155.out 0).trans rfl, (blk_cell BK155.out 1).trans rfl, (blk_cell BK155.out 2).trans rfl, (blk_cell BK155.out 3).trans rfl⟩ (fun hHeld => ?_)
                                  clear hK K
                                  refine norm_ (a' := ?_) ?_ ?_
                                  rotate_left
                                  · show Act.put _ (some 75) _ = _
                                    simp only [Act.put, List.setIfInBounds_toArray, List.set_cons_zero, List.set_cons_succ, i64_w, i32_w]
                                    rfl
                                  refine one_ (i := 9) (N := some 77) #[true, true, true, true, true, true, true, true, true, true, false, false, false, false, false, false, false, false, false, false, false, false, false, false, false, false, false, false, false, false, false, false, false, false, false, false, false] rfl rfl (one_of HT_.out (by kernel_rfl)) (by decide) (fun K hK => ?_)
                                  refine goes_ Tryd.func17 (by kernel_rfl) rfl #[.agg #[.string t112, .string t113, .string t114, .slice Ao16 t115.length co16]] (by rfl) rfl rfl (by (try simp only [List.map_toArray, List.map_cons, List.map_nil]); first | done | rfl | (simp only [List.length_drop, List.length_take]; rfl)) ?_
                                  with_reducible refine (tag_Str.calls t112 t113 t114 _ _ t115 t159 _ ?side1 ?side2 A47.out).mono ?_
                                  (case side1 => repeat (first | exact (Kd.R_reads' HO_120003.out).2.2 | (with_reducible refine Kd.C_alloc ?_ _) | (with_reducible refine Kd.C_drewN ?_ _) | (with_reducible refine Kd.C_drew ?_)))
                                  (case side2 => exact (Kd.R_reads' HO_120003.out).2.1)
                                  rintro e w79 ⟨rfl, hb⟩
                                  refine ⟨_, rfl, ?_⟩
                                  have n0_ := Aside0.mk (Kd.R_below (by (with_reducible repeat (first | apply Kd.R_alloc | apply Kd.R_drewN | apply Kd.R_drew)); exact HO_48.out) hb)
                                  have n1_ := Aside0.mk (Kd.R_below (by (with_reducible repeat (first | apply Kd.R_alloc | apply Kd.R_drewN | apply Kd.R_drew)); exact HO_120003.out) hb)
                                  have n2_ := Aside0.mk (Kd.R_below (by (with_reducible repeat (first | apply Kd.R_alloc | apply Kd.R_drewN | apply Kd.R_drew)); exact HO_129003.out) hb)
                                  have n3_ := Aside0.mk (Kd.R_below (by (with_reducible repeat (first | apply Kd.R_alloc | apply Kd.R_drewN | apply Kd.R_drew)); exact HO_138003.out) hb)
                                  have n4_ := Aside0.mk (Kd.R_below (by (with_reducible repeat (first | apply Kd.R_alloc | apply Kd.R_drewN | apply Kd.R_drew)); exact HO145.out) hb)
                                  have n5_ := Aside0.mk (Kd.V_below (by (with_reducible repeat (first | apply Kd.V_alloc | apply Kd.V_drewN | apply Kd.V_drew)); exact HO153.out) hb)
                                  have n6_ := Aside0.mk (blk_below (g := gb119) (o := .cells #[.string t112, .string t113, .string t114, .slice Ao16 t115.length co16] 25 (0, 0)) (by (with_reducible repeat (first | refine blk_drewN ?_ _ | refine blk_drew ?_ | refine blk_alloc ?_ _)); exact BK119.out) hb)
                                  have n7_ := Aside0.mk (blk_below (g := gb128) (o := .cells #[.string t121, .string t122, .string t123, .slice Ao22 t124.length co22] 25 (0, 0)) (by (with_reducible repeat (first | refine blk_drewN ?_ _ | refine blk_drew ?_ | refine blk_alloc ?_ _)); exact BK128.out) hb)
                                  have n8_ := Aside0.mk (blk_below (g := gb137) (o := .cells #[.string t130, .string t131, .string t132, .slice Ao29 t133.length co29] 25 (0, 0)) (by (with_reducible repeat (first | refine blk_drewN ?_ _ | refine blk_drew ?_ | refine blk_alloc ?_ _)); exact BK137.out) hb)
                                  have n9_ := Aside0.mk (blk_below (g := gb147) (o := .cells #[.string t140, .string t141, .string t142, .slice Ao63 t143.length co63] 25 (0, 0)) (by (with_reducible repeat (first | refine blk_drewN ?_ _ | refine blk_drew ?_ | refine blk_alloc ?_ _)); exact BK147.out) hb)
                                  have n10_ := Aside0.mk (blk_below (g := gb155) (o := .cells #[.string t148, .string t149, .string t150, .slice Ao73 t151.length co73] 25 (0, 0)) (by (with_reducible repeat (first | refine blk_drewN ?_ _ | refine blk_drew ?_ | refine blk_alloc ?_ _)); exact BK155.out) hb)
                                  have n11_ := Aside0.mk (below_step (by repeat (first | (with_reducible first | exact HB.out | apply below_alloc | apply pw_below_drewN | apply below_drew1 | refine below_set ?_ GE119.out | refine below_set ?_ GE128.out | refine below_set ?_ GE137.out | refine below_set ?_ GE147.out | refine below_set ?_ GE155.out) | exact HB.out)) hb)
                                  clear HO_48
                                  clear HO_120003
                                  clear HO_129003
                                  clear HO_138003
                                  clear HO145
                                  clear HO153
                                  clear BK119
                                  clear BK128
                                  clear BK137
                                  clear BK147
                                  clear BK155
                                  clear HB
                                  have HO_48 := n0_
                                  have HO_120003 := n1_
                                  have HO_129003 := n2_
                                  have HO_138003 := n3_
                                  have HO145 := n4_
                                  have HO153 := n5_
                                  have BK119 := n6_
                                  have BK128 := n7_
                                  have BK137 := n8_
                                  have BK147 := n9_
                                  have BK155 := n10_
                                  have HB := n11_
                                  clear n0_ n1_ n2_ n3_ n4_ n5_ n6_ n7_ n8_ n9_ n10_ n11_
                                  (try clear hb)
                                  (try clear hb2)
                                  (try clear hk)
                                  (try clear hi)
                                  refine hK.out _ _ ⟨(blk_cell BK128.out 0).trans rfl, (blk_cell BK128.out 1).trans rfl, (blk_cell BK128.out 2).trans rfl, (blk_cell BK128.out 3).trans rfl, (blk_cell BK119.out 0).trans rfl, (blk_cell BK119.out 1).trans rfl, (blk_cell BK119.out 2).trans rfl, (blk_cell BK119.out 3).trans rfl, (blk_cell BK137.out 0).trans rfl, (blk_cell BK137.out 1).trans rfl, (blk_cell BK137.out 2).trans rfl, (blk_cell BK137.out 3).trans rfl, (blk_cell BK147.out 0).trans rfl, (blk_cell BK147.out 1).trans rfl, (blk_cell BK147.out 2).trans rfl, (blk_cell BK147.out 3).trans rfl, (blk_cell BK155.out 0).trans rfl, (blk_cell BK155.out 1).trans rfl, (blk_cell BK155.out 2).trans rfl, (blk_cell BK155.out 3).trans rfl⟩ (fun hHeld => ?_)
                                  clear hK K
                                  refine norm_ (a' := ?_) ?_ ?_
                                  rotate_left
                                  · show Act.put _ (some 77) _ = _
                                    simp only [Act.put, List.setIfInBounds_toArray, List.set_cons_zero, List.set_cons_succ, i64_w, i32_w]
                                    rfl
                                  refine pure_ (i := 10) (N := some 78) (v := ?_) (a' := ?_) #[true, true, true, true, true, true, true, true, true, true, true, false, false, false, false, false, false, false, false, false, false, false, false, false, false, false, false, false, false, false, false, false, false, false, false, false, false] rfl rfl (any_of HT_.out (by kernel_rfl)) (fun _ _ _ h => h) (Or.inl ⟨by rfl, ?_⟩) ?_ ?_
                                  rotate_left
                                  · intro w'
                                    go_simp
                                    with_reducible rfl
                                  rotate_left
                                  · simp only [Act.put, List.setIfInBounds_toArray, List.set_cons_zero, List.set_cons_succ, i64_w, i32_w]
                                    rfl
                                  refine pure_ (i := 11) (N := some 79) (v := ?_) (a' := ?_) #[true, true, true, true, true, true, true, true, true, true, true, true, false, false, false, false, false, false, false, false, false, false, false, false, false, false, false, false, false, false, false, false, false, false, false, false, false] rfl rfl (any_of HT_.out (by kernel_rfl)) (fun _ _ _ h => h) (Or.inl ⟨by rfl, ?_⟩) ?_ ?_
                                  rotate_left
                                  · intro w'
                                    go_simp
                                    with_reducible rfl
                                  rotate_left
                                  · simp only [Act.put, List.setIfInBounds_toArray, List.set_cons_zero, List.set_cons_succ, i64_w, i32_w]
                                    rfl
                                  refine pure_ (i := 12) (N := some 80) (v := ?_) (a' := ?_) #[true, true, true, true, true, true, true, true, true, true, true, true, true, false, false, false, false, false, false, false, false, false, false, false, false, false, false, false, false, false, false, false, false, false, false, false, false] rfl rfl (any_of HT_.out (by kernel_rfl)) (fun _ _ _ h => h) (Or.inl ⟨by rfl, ?_⟩) ?_ ?_
                                  rotate_left
                                  · intro w'
                                    go_simp
                                    with_reducible rfl
                                  rotate_left
                                  · simp only [Act.put, List.setIfInBounds_toArray, List.set_cons_zero, List.set_cons_succ, i64_w, i32_w]
                                    rfl
                                  refine pure_ (i := 13) (N := some 81) (v := ?_) (a' := ?_) #[true, true, true, true, true, true, true, true, true, true, true, true, true, true, false, false, false, false, false, false, false, false, false, false, false, false, false, false, false, false, false, false, false, false, false, false, false] rfl rfl (any_of HT_.out (by kernel_rfl)) (fun _ _ _ h => h) (Or.inl ⟨by rfl, ?_⟩) ?_ ?_
                                  rotate_left
                                  · intro w'
                                    go_simp
                                    with_reducible rfl
                                  rotate_left
                                  · simp only [Act.put, List.setIfInBounds_toArray, List.set_cons_zero, List.set_cons_succ, i64_w, i32_w]
                                    rfl
                                  refine pure_ (i := 14) (N := some 82) (v := ?_) (a' := ?_) #[true, true, true, true, true, true, true, true, true, true, true, true, true, true, true, false, false, false, false, false, false, false, false, false, false, false, false, false, false, false, false, false, false, false, false, false, false] rfl rfl (any_of HT_.out (by kernel_rfl)) (fun _ _ _ h => h) (Or.inl ⟨by rfl, ?_⟩) ?_ ?_
                                  rotate_left
                                  · intro w'
                                    go_simp
                                    with_reducible rfl
                                  rotate_left
                                  · simp only [Act.put, List.setIfInBounds_toArray, List.set_cons_zero, List.set_cons_succ, i64_w, i32_w]
                                    rfl
                                  refine pure_ (i := 15) (N := some 83) (v := ?_) (a' := ?_) #[true, true, true, true, true, true, true, true, true, true, true, true, true, true, true, true, false, false, false, false, false, false, false, false, false, false, false, false, false, false, false, false, false, false, false, false, false] rfl rfl (any_of HT_.out (by kernel_rfl)) (fun _ _ _ h => h) (Or.inl ⟨by rfl, ?_⟩) ?_ ?_
                                  rotate_left
                                  · intro w'
                                    go_simp
                                    with_reducible rfl
                                  rotate_left
                                  · simp only [Act.put, List.setIfInBounds_toArray, List.set_cons_zero, List.set_cons_succ, i64_w, i32_w]
                                    rfl
                                  refine pure_ (i := 16) (N := some 84) (v := ?_) (a' := ?_) #[true, true, true, true, true, true, true, true, true, true, true, true, true, true, true, true, true, false, false, false, false, false, false, false, false, false, false, false, false, false, false, false, false, false, false, false, false] rfl rfl (any_of HT_.out (by kernel_rfl)) (fun _ _ _ h => h) (Or.inl ⟨by rfl, ?_⟩) ?_ ?_
                                  rotate_left
                                  · intro w'
                                    go_simp
                                    with_reducible rfl
                                  rotate_left
                                  · simp only [Act.put, List.setIfInBounds_toArray, List.set_cons_zero, List.set_cons_succ, i64_w, i32_w]
                                    rfl
                                  refine pure_ (i := 17) (N := some 85) (v := ?_) (a' := ?_) #[true, true, true, true, true, true, true, true, true, true, true, true, true, true, true, true, true, true, false, false, false, false, false, false, false, false, false, false, false, false, false, false, false, false, false, false, false] rfl rfl (any_of HT_.out (by kernel_rfl)) (fun _ _ _ h => h) (Or.inl ⟨by rfl, ?_⟩) ?_ ?_
                                  rotate_left
                                  · intro w'
                                    go_simp
                                    with_reducible rfl
                                  rotate_left
                                  · simp only [Act.put, List.setIfInBounds_toArray, List.set_cons_zero, List.set_cons_succ, i64_w, i32_w]
                                    rfl
                                  refine pure_ (i := 18) (N := some 86) (v := ?_) (a' := ?_) #[true, true, true, true, true, true, true, true, true, true, true, true, true, true, true, true, true, true, true, false, false, false, false, false, false, false, false, false, false, false, false, false, false, false, false, false, false] rfl rfl (any_of HT_.out (by kernel_rfl)) (fun _ _ _ h => h) (Or.inl ⟨by rfl, ?_⟩) ?_ ?_
                                  rotate_left
                                  · intro w'
                                    go_simp
                                    with_reducible rfl
                                  rotate_left
                                  · simp only [Act.put, List.setIfInBounds_toArray, List.set_cons_zero, List.set_cons_succ, i64_w, i32_w]
                                    rfl
                                  refine take_ (i := 19) (N := some 87) (v := ?_) (a' := ?_) #[true, true, true, true, true, true, true, true, true, true, true, true, true, true, true, true, true, true, true, true, false, false, false, false, false, false, false, false, false, false, false, false, false, false, false, false, false] rfl rfl (take_ofW HT_.out HW_.out (by kernel_rfl)) (fun _ _ _ h => h) (Or.inl ⟨by rfl, ?_⟩) hHeld ?_ ?_
                                  rotate_left
                                  · rintro w' ⟨s0, s1, s2, s3, s4, s5, s6, s7, s8, s9, s10, s11, s12, s13, s14, s15, s16, s17, s18, s19⟩
                                    go_simp
                                    with_reducible rfl
                                  rotate_left
                                  · simp only [Act.put, List.setIfInBounds_toArray, List.set_cons_zero, List.set_cons_succ, i64_w, i32_w]
                                    rfl
                                  refine take_ (i := 20) (N := some 88) (v := ?_) (a' := ?_) #[true, true, true, true, true, true, true, true, true, true, true, true, true, true, true, true, true, true, true, true, true, false, false, false, false, false, false, false, false, false, false, false, false, false, false, false, false] rfl rfl (take_ofW HT_.out HW_.out (by kernel_rfl)) (fun _ _ _ h => h) (Or.inl ⟨by rfl, ?_⟩) hHeld ?_ ?_
                                  rotate_left
                                  · rintro w' ⟨s0, s1, s2, s3, s4, s5, s6, s7, s8, s9, s10, s11, s12, s13, s14, s15, s16, s17, s18, s19⟩
                                    go_simp
                                    with_reducible rfl
                                  rotate_left
                                  · simp only [Act.put, List.setIfInBounds_toArray, List.set_cons_zero, List.set_cons_succ, i64_w, i32_w]
                                    rfl
                                  refine one_ (i := 21) (N := some 89) #[true, true, true, true, true, true, true, true, true, true, true, true, true, true, true, true, true, true, true, true, true, true, false, false, false, false, false, false, false, false, false, false, false, false, false, false, false] rfl rfl (one_of HT_.out (by kernel_rfl)) (by decide) (fun K hK => ?_)
                                  refine goes_ Tryd.func19 (by kernel_rfl) rfl #[.agg #[.string t140, .string t141, .string t142, .slice Ao63 t143.length co63], .agg #[.string t112, .string t113, .string t114, .slice Ao16 t115.length co16]] (by rfl) rfl rfl (by (try simp only [List.map_toArray, List.map_cons, List.map_nil]); first | done | rfl | (simp only [List.length_drop, List.length_take]; rfl)) ?_
                                  with_reducible refine (tag_Fit.calls t140 t141 t142 _ _ t143 t112 t113 t114 _ _ t115 true _ ?side1 ?side2 ?side3 ?side4 A51.out).mono ?_
                                  (case side1 => repeat (first | exact (Kd.R_reads' HO145.out).2.2 | (with_reducible refine Kd.C_alloc ?_ _) | (with_reducible refine Kd.C_drewN ?_ _) | (with_reducible refine Kd.C_drew ?_)))
                                  (case side2 => exact (Kd.R_reads' HO145.out).2.1)
                                  (case side3 => repeat (first | exact (Kd.R_reads' HO_120003.out).2.2 | (with_reducible refine Kd.C_alloc ?_ _) | (with_reducible refine Kd.C_drewN ?_ _) | (with_reducible refine Kd.C_drew ?_)))
                                  (case side4 => exact (Kd.R_reads' HO_120003.out).2.1)
                                  rintro e w80 ⟨rfl, hb⟩
                                  refine ⟨_, rfl, ?_⟩
                                  have n0_ := Aside0.mk (Kd.R_below (by (with_reducible repeat (first | apply Kd.R_alloc | apply Kd.R_drewN | apply Kd.R_drew)); exact HO_48.out) hb)
                                  have n1_ := Aside0.mk (Kd.R_below (by (with_reducible repeat (first | apply Kd.R_alloc | apply Kd.R_drewN | apply Kd.R_drew)); exact HO_120003.out) hb)
                                  have n2_ := Aside0.mk (Kd.R_below (by (with_reducible repeat (first | apply Kd.R_alloc | apply Kd.R_drewN | apply Kd.R_drew)); exact HO_129003.out) hb)
                                  have n3_ := Aside0.mk (Kd.R_below (by (with_reducible repeat (first | apply Kd.R_alloc | apply Kd.R_drewN | apply Kd.R_drew)); exact HO_138003.out) hb)
                                  have n4_ := Aside0.mk (Kd.R_below (by (with_reducible repeat (first | apply Kd.R_alloc | apply Kd.R_drewN | apply Kd.R_drew)); exact HO145.out) hb)
                                  have n5_ := Aside0.mk (Kd.V_below (by (with_reducible repeat (first | apply Kd.V_alloc | apply Kd.V_drewN | apply Kd.V_drew)); exact HO153.out) hb)
                                  have n6_ := Aside0.mk (blk_below (g := gb119) (o := .cells #[.string t112, .string t113, .string t114, .slice Ao16 t115.length co16] 25 (0, 0)) (by (with_reducible repeat (first | refine blk_drewN ?_ _ | refine blk_drew ?_ | refine blk_alloc ?_ _)); exact BK119.out) hb)
                                  have n7_ := Aside0.mk (blk_below (g := gb128) (o := .cells #[.string t121, .string t122, .string t123, .slice Ao22 t124.length co22] 25 (0, 0)) (by (with_reducible repeat (first | refine blk_drewN ?_ _ | refine blk_drew ?_ | refine blk_alloc ?_ _)); exact BK128.out) hb)
                                  have n8_ := Aside0.mk (blk_below (g := gb137) (o := .cells #[.string t130, .string t131, .string t132, .slice Ao29 t133.length co29] 25 (0, 0)) (by (with_reducible repeat (first | refine blk_drewN ?_ _ | refine blk_drew ?_ | refine blk_alloc ?_ _)); exact BK137.out) hb)
                                  have n9_ := Aside0.mk (blk_below (g := gb147) (o := .cells #[.string t140, .string t141, .string t142, .slice Ao63 t143.length co63] 25 (0, 0)) (by (with_reducible repeat (first | refine blk_drewN ?_ _ | refine blk_drew ?_ | refine blk_alloc ?_ _)); exact BK147.out) hb)
                                  have n10_ := Aside0.mk (blk_below (g := gb155) (o := .cells #[.string t148, .string t149, .string t150, .slice Ao73 t151.length co73] 25 (0, 0)) (by (with_reducible repeat (first | refine blk_drewN ?_ _ | refine blk_drew ?_ | refine blk_alloc ?_ _)); exact BK155.out) hb)
                                  have n11_ := Aside0.mk (below_step (by repeat (first | (with_reducible first | exact HB.out | apply below_alloc | apply pw_below_drewN | apply below_drew1 | refine below_set ?_ GE119.out | refine below_set ?_ GE128.out | refine below_set ?_ GE137.out | refine below_set ?_ GE147.out | refine below_set ?_ GE155.out) | exact HB.out)) hb)
                                  clear HO_48
                                  clear HO_120003
                                  clear HO_129003
                                  clear HO_138003
                                  clear HO145
                                  clear HO153
                                  clear BK119
                                  clear BK128
                                  clear BK137
                                  clear BK147
                                  clear BK155
                                  clear HB
                                  have HO_48 := n0_
                                  have HO_120003 := n1_
                                  have HO_129003 := n2_
                                  have HO_138003 := n3_
                                  have HO145 := n4_
                                  have HO153 := n5_
                                  have BK119 := n6_
                                  have BK128 := n7_
                                  have BK137 := n8_
                                  have BK147 := n9_
                                  have BK155 := n10_
                                  have HB := n11_
                                  clear n0_ n1_ n2_ n3_ n4_ n5_ n6_ n7_ n8_ n9_ n10_ n11_
                                  (try clear hb)
                                  (try clear hb2)
                                  (try clear hk)
                                  (try clear hi)
                                  refine hK.out _ _ ⟨(blk_cell BK128.out 0).trans rfl, (blk_cell BK128.out 1).trans rfl, (blk_cell BK128.out 2).trans rfl, (blk_cell BK128.out 3).trans rfl, (blk_cell BK119.out 0).trans rfl, (blk_cell BK119.out 1).trans rfl, (blk_cell BK119.out 2).trans rfl, (blk_cell BK119.out 3).trans rfl, (blk_cell BK137.out 0).trans rfl, (blk_cell BK137.out 1).trans rfl, (blk_cell BK137.out 2).trans rfl, (blk_cell BK137.out 3).trans rfl, (blk_cell BK147.out 0).trans rfl, (blk_cell BK147.out 1).trans rfl, (blk_cell BK147.out 2).trans rfl, (blk_cell BK147.out 3).trans rfl, (blk_cell BK155.out 0).trans rfl, (blk_cell BK155.out 1).trans rfl, (blk_cell BK155.out 2).trans rfl, (blk_cell BK155.out 3).trans rfl⟩ (fun hHeld => ?_)
                                  clear hK K
                                  refine norm_ (a' := ?_) ?_ ?_
                                  rotate_left
                                  · show Act.put _ (some 89) _ = _
                                    simp only [Act.put, List.setIfInBounds_toArray, List.set_cons_zero, List.set_cons_succ, i64_w, i32_w]
                                    rfl
                                  refine pure_ (i := 22) (N := some 90) (v := ?_) (a' := ?_) #[true, true, true, true, true, true, true, true, true, true, true, true, true, true, true, true, true, true, true, true, true, true, true, false, false, false, false, false, false, false, false, false, false, false, false, false, false] rfl rfl (any_of HT_.out (by kernel_rfl)) (fun _ _ _ h => h) (Or.inl ⟨by rfl, ?_⟩) ?_ ?_
                                  rotate_left
                                  · intro w'
                                    go_simp
                                    with_reducible rfl
                                  rotate_left
                                  · simp only [Act.put, List.setIfInBounds_toArray, List.set_cons_zero, List.set_cons_succ, i64_w, i32_w]
                                    rfl
                                  refine pure_ (i := 23) (N := some 91) (v := ?_) (a' := ?_) #[true, true, true, true, true, true, true, true, true, true, true, true, true, true, true, true, true, true, true, true, true, true, true, true, false, false, false, false, false, false, false, false, false, false, false, false, false] rfl rfl (any_of HT_.out (by kernel_rfl)) (fun _ _ _ h => h) (Or.inl ⟨by rfl, ?_⟩) ?_ ?_
                                  rotate_left
                                  · intro w'
                                    go_simp
                                    with_reducible rfl
                                  rotate_left
                                  · simp only [Act.put, List.setIfInBounds_toArray, List.set_cons_zero, List.set_cons_succ, i64_w, i32_w]
                                    rfl
                                  refine take_ (i := 24) (N := some 92) (v := ?_) (a' := ?_) #[true, true, true, true, true, true, true, true, true, true, true, true, true, true, true, true, true, true, true, true, true, true, true, true, true, false, false, false, false, false, false, false, false, false, false, false, false] rfl rfl (take_ofW HT_.out HW_.out (by kernel_rfl)) (fun _ _ _ h => h) (Or.inl ⟨by rfl, ?_⟩) hHeld ?_ ?_
                                  rotate_left
                                  · rintro w' ⟨s0, s1, s2, s3, s4, s5, s6, s7, s8, s9, s10, s11, s12, s13, s14, s15, s16, s17, s18, s19⟩
                                    go_simp
                                    with_reducible rfl
                                  rotate_left
                                  · simp only [Act.put, List.setIfInBounds_toArray, List.set_cons_zero, List.set_cons_succ, i64_w, i32_w]
                                    rfl
                                  refine take_ (i := 25) (N := some 93) (v := ?_) (a' := ?_) #[true, true, true, true, true, true, true, true, true, true, true, true, true, true, true, true, true, true, true, true, true, true, true, true, true, true, false, false, false, false, false, false, false, false, false, false, false] rfl rfl (take_ofW HT_.out HW_.out (by kernel_rfl)) (fun _ _ _ h => h) (Or.inl ⟨by rfl, ?_⟩) hHeld ?_ ?_
                                  rotate_left
                                  · rintro w' ⟨s0, s1, s2, s3, s4, s5, s6, s7, s8, s9, s10, s11, s12, s13, s14, s15, s16, s17, s18, s19⟩
                                    go_simp
                                    with_reducible rfl
                                  rotate_left
                                  · simp only [Act.put, List.setIfInBounds_toArray, List.set_cons_zero, List.set_cons_succ, i64_w, i32_w]
                                    rfl
                                  refine one_ (i := 26) (N := some 94) #[true, true, true, true, true, true, true, true, true, true, true, true, true, true, true, true, true, true, true, true, true, true, true, true, true, true, true, false, false, false, false, false, false, false, false, false, false] rfl rfl (one_of HT_.out (by kernel_rfl)) (by decide) (fun K hK => ?_)
                                  refine goes_ Tryd.func19 (by kernel_rfl) rfl #[.agg #[.string t112, .string t113, .string t114, .slice Ao16 t115.length co16], .agg #[.string t140, .string t141, .string t142, .slice Ao63 t143.length co63]] (by rfl) rfl rfl (by (try simp only [List.map_toArray, List.map_cons, List.map_nil]); first | done | rfl | (simp only [List.length_drop, List.length_take]; rfl)) ?_
                                  with_reducible refine (tag_Fit.calls t112 t113 t114 _ _ t115 t140 t141 t142 _ _ t143 false _ ?side1 ?side2 ?side3 ?side4 A53.out).mono ?_
                                  (case side1 => repeat (first | exact (Kd.R_reads' HO_120003.out).2.2 | (with_reducible refine Kd.C_alloc ?_ _) | (with_reducible refine Kd.C_drewN ?_ _) | (with_reducible refine Kd.C_drew ?_)))
                                  (case side2 => exact (Kd.R_reads' HO_120003.out).2.1)
                                  (case side3 => repeat (first | exact (Kd.R_reads' HO145.out).2.2 | (with_reducible refine Kd.C_alloc ?_ _) | (with_reducible refine Kd.C_drewN ?_ _) | (with_reducible refine Kd.C_drew ?_)))
                                  (case side4 => exact (Kd.R_reads' HO145.out).2.1)
                                  rintro e w81 ⟨rfl, hb⟩
                                  refine ⟨_, rfl, ?_⟩
                                  have n0_ := Aside0.mk (Kd.R_below (by (with_reducible repeat (first | apply Kd.R_alloc | apply Kd.R_drewN | apply Kd.R_drew)); exact HO_48.out) hb)
                                  have n1_ := Aside0.mk (Kd.R_below (by (with_reducible repeat (first | apply Kd.R_alloc | apply Kd.R_drewN | apply Kd.R_drew)); exact HO_120003.out) hb)
                                  have n2_ := Aside0.mk (Kd.R_below (by (with_reducible repeat (first | apply Kd.R_alloc | apply Kd.R_drewN | apply Kd.R_drew)); exact HO_129003.out) hb)
                                  have n3_ := Aside0.mk (Kd.R_below (by (with_reducible repeat (first | apply Kd.R_alloc | apply Kd.R_drewN | apply Kd.R_drew)); exact HO_138003.out) hb)
                                  have n4_ := Aside0.mk (Kd.R_below (by (with_reducible repeat (first | apply Kd.R_alloc | apply Kd.R_drewN | apply Kd.R_drew)); exact HO145.out) hb)
                                  have n5_ := Aside0.mk (Kd.V_below (by (with_reducible repeat (first | apply Kd.V_alloc | apply Kd.V_drewN | apply Kd.V_drew)); exact HO153.out) hb)
                                  have n6_ := Aside0.mk (blk_below (g := gb119) (o := .cells #[.string t112, .string t113, .string t114, .slice Ao16 t115.length co16] 25 (0, 0)) (by (with_reducible repeat (first | refine blk_drewN ?_ _ | refine blk_drew ?_ | refine blk_alloc ?_ _)); exact BK119.out) hb)
                                  have n7_ := Aside0.mk (blk_below (g := gb128) (o := .cells #[.string t121, .string t122, .string t123, .slice Ao22 t124.length co22] 25 (0, 0)) (by (with_reducible repeat (first | refine blk_drewN ?_ _ | refine blk_drew ?_ | refine blk_alloc ?_ _)); exact BK128.out) hb)
                                  have n8_ := Aside0.mk (blk_below (g := gb137) (o := .cells #[.string t130, .string t131, .string t132, .slice Ao29 t133.length co29] 25 (0, 0)) (by (with_reducible repeat (first | refine blk_drewN ?_ _ | refine blk_drew ?_ | refine blk_alloc ?_ _)); exact BK137.out) hb)
                                  have n9_ := Aside0.mk (blk_below (g := gb147) (o := .cells #[.string t140, .string t141, .string t142, .slice Ao63 t143.length co63] 25 (0, 0)) (by (with_reducible repeat (first | refine blk_drewN ?_ _ | refine blk_drew ?_ | refine blk_alloc ?_ _)); exact BK147.out) hb)
                                  have n10_ := Aside0.mk (blk_below (g := gb155) (o := .cells #[.string t148, .string t149, .string t150, .slice Ao73 t151.length co73] 25 (0, 0)) (by (with_reducible repeat (first | refine blk_drewN ?_ _ | refine blk_drew ?_ | refine blk_alloc ?_ _)); exact BK155.out) hb)
                                  have n11_ := Aside0.mk (below_step (by repeat (first | (with_reducible first | exact HB.out | apply below_alloc | apply pw_below_drewN | apply below_drew1 | refine below_set ?_ GE119.out | refine below_set ?_ GE128.out | refine below_set ?_ GE137.out | refine below_set ?_ GE147.out | refine below_set ?_ GE155.out) | exact HB.out)) hb)
                                  clear HO_48
                                  clear HO_120003
                                  clear HO_129003
                                  clear HO_138003
                                  clear HO145
                                  clear HO153
                                  clear BK119
                                  clear BK128
                                  clear BK137
                                  clear BK147
                                  clear BK155
                                  clear HB
                                  have HO_48 := n0_
                                  have HO_120003 := n1_
                                  have HO_129003 := n2_
                                  have HO_138003 := n3_
                                  have HO145 := n4_
                                  have HO153 := n5_
                                  have BK119 := n6_
                                  have BK128 := n7_
                                  have BK137 := n8_
                                  have BK147 := n9_
                                  have BK155 := n10_
                                  have HB := n11_
                                  clear n0_ n1_ n2_ n3_ n4_ n5_ n6_ n7_ n8_ n9_ n10_ n11_
                                  (try clear hb)
                                  (try clear hb2)
                                  (try clear hk)
                                  (try clear hi)
                                  refine hK.out _ _ ⟨(blk_cell BK128.out 0).trans rfl, (blk_cell BK128.out 1).trans rfl, (blk_cell BK128.out 2).trans rfl, (blk_cell BK128.out 3).trans rfl, (blk_cell BK119.out 0).trans rfl, (blk_cell BK119.out 1).trans rfl, (blk_cell BK119.out 2).trans rfl, (blk_cell BK119.out 3).trans rfl, (blk_cell BK137.out 0).trans rfl, (blk_cell BK137.out 1).trans rfl, (blk_cell BK137.out 2).trans rfl, (blk_cell BK137.out 3).trans rfl, (blk_cell BK147.out 0).trans rfl, (blk_cell BK147.out 1).trans rfl, (blk_cell BK147.out 2).trans rfl, (blk_cell BK147.out 3).trans rfl, (blk_cell BK155.out 0).trans rfl, (blk_cell BK155.out 1).trans rfl, (blk_cell BK155.out 2).trans rfl, (blk_cell BK155.out 3).trans rfl⟩ (fun hHeld => ?_)
                                  clear hK K
                                  refine norm_ (a' := ?_) ?_ ?_
                                  rotate_left
                                  · show Act.put _ (some 94) _ = _
                                    simp only [Act.put, List.setIfInBounds_toArray, List.set_cons_zero, List.set_cons_succ, i64_w, i32_w]
                                    rfl
                                  refine pure_ (i := 27) (N := some 95) (v := ?_) (a' := ?_) #[true, true, true, true, true, true, true, true, true, true, true, true, true, true, true, true, true, true, true, true, true, true, true, true, true, true, true, true, false, false, false, false, false, false, false, false, false] rfl rfl (any_of HT_.out (by kernel_rfl)) (fun _ _ _ h => h) (Or.inl ⟨by rfl, ?_⟩) ?_ ?_
                                  rotate_left
                                  · intro w'
                                    go_simp
                                    with_reducible rfl
                                  rotate_left
                                  · simp only [Act.put, List.setIfInBounds_toArray, List.set_cons_zero, List.set_cons_succ, i64_w, i32_w]
                                    rfl
                                  refine pure_ (i := 28) (N := some 96) (v := ?_) (a' := ?_) #[true, true, true, true, true, true, true, true, true, true, true, true, true, true, true, true, true, true, true, true, true, true, true, true, true, true, true, true, true, false, false, false, false, false, false, false, false] rfl rfl (any_of HT_.out (by kernel_rfl)) (fun _ _ _ h => h) (Or.inl ⟨by rfl, ?_⟩) ?_ ?_
                                  rotate_left
                                  · intro w'
                                    go_simp
                                    with_reducible rfl
                                  rotate_left
                                  · simp only [Act.put, List.setIfInBounds_toArray, List.set_cons_zero, List.set_cons_succ, i64_w, i32_w]
                                    rfl
                                  refine pure_ (i := 29) (N := some 97) (v := ?_) (a' := ?_) #[true, true, true, true, true, true, true, true, true, true, true, true, true, true, true, true, true, true, true, true, true, true, true, true, true, true, true, true, true, true, false, false, false, false, false, false, false] rfl rfl (any_of HT_.out (by kernel_rfl)) (fun _ _ _ h => h) (Or.inl ⟨by rfl, ?_⟩) ?_ ?_
                                  rotate_left
                                  · intro w'
                                    go_simp
                                    with_reducible rfl
                                  rotate_left
                                  · simp only [Act.put, List.setIfInBounds_toArray, List.set_cons_zero, List.set_cons_succ, i64_w, i32_w]
                                    rfl
                                  refine take_ (i := 30) (N := some 98) (v := ?_) (a' := ?_) #[true, true, true, true, true, true, true, true, true, true, true, true, true, true, true, true, true, true, true, true, true, true, true, true, true, true, true, true, true, true, true, false, false, false, false, false, false] rfl rfl (take_ofW HT_.out HW_.out (by kernel_rfl)) (fun _ _ _ h => h) (Or.inl ⟨by rfl, ?_⟩) hHeld ?_ ?_
                                  rotate_left
                                  · rintro w' ⟨s0, s1, s2, s3, s4, s5, s6, s7, s8, s9, s10, s11, s12, s13, s14, s15, s16, s17, s18, s19⟩
                                    go_simp
                                    with_reducible rfl
                                  rotate_left
                                  · simp only [Act.put, List.setIfInBounds_toArray, List.set_cons_zero, List.set_cons_succ, i64_w, i32_w]
                                    rfl
                                  refine take_ (i := 32) (N := some 100) (v := ?_) (a' := ?_) #[true, true, true, true, true, true, true, true, true, true, true, true, true, true, true, true, true, true, true, true, true, true, true, true, true, true, true, true, true, true, true, false, true, false, false, false, false] rfl rfl (take_ofW HT_.out HW_.out (by kernel_rfl)) (fun _ _ _ h => h) (Or.inl ⟨by rfl, ?_⟩) hHeld ?_ ?_
                                  rotate_left
                                  · rintro w' ⟨s0, s1, s2, s3, s4, s5, s6, s7, s8, s9, s10, s11, s12, s13, s14, s15, s16, s17, s18, s19⟩
                                    go_simp
                                    with_reducible rfl
                                  rotate_left
                                  · simp only [Act.put, List.setIfInBounds_toArray, List.set_cons_zero, List.set_cons_succ, i64_w, i32_w]
                                    rfl
                                  refine one_ (i := 31) (N := some 99) #[true, true, true, true, true, true, true, true, true, true, true, true, true, true, true, true, true, true, true, true, true, true, true, true, true, true, true, true, true, true, true, true, true, false, false, false, false] rfl rfl (one_of HT_.out (by kernel_rfl)) (by decide) (fun K hK => ?_)
                                  refine goes_ Tryd.func17 (by kernel_rfl) rfl #[.agg #[.string t148, .string t149, .string t150, .slice Ao73 t151.length co73]] (by rfl) rfl rfl (by (try simp only [List.map_toArray, List.map_cons, List.map_nil]); first | done | rfl | (simp only [List.length_drop, List.length_take]; rfl)) ?_
                                  with_reducible refine (tag_Str.calls t148 t149 t150 _ _ t151 t162 _ ?side1 ?side2 A55.out).mono ?_
                                  (case side1 => repeat (first | exact (Kd.V_reads' HO153.out).2.2 | (with_reducible refine Kd.C_alloc ?_ _) | (with_reducible refine Kd.C_drewN ?_ _) | (with_reducible refine Kd.C_drew ?_)))
                                  (case side2 => exact (Kd.V_reads' HO153.out).2.1)
                                  rintro e w82 ⟨rfl, hb⟩
                                  refine ⟨_, rfl, ?_⟩
                                  have n0_ := Aside0.mk (Kd.R_below (by (with_reducible repeat (first | apply Kd.R_alloc | apply Kd.R_drewN | apply Kd.R_drew)); exact HO_48.out) hb)
                                  have n1_ := Aside0.mk (Kd.R_below (by (with_reducible repeat (first | apply Kd.R_alloc | apply Kd.R_drewN | apply Kd.R_drew)); exact HO_120003.out) hb)
                                  have n2_ := Aside0.mk (Kd.R_below (by (with_reducible repeat (first | apply Kd.R_alloc | apply Kd.R_drewN | apply Kd.R_drew)); exact HO_129003.out) hb)
                                  have n3_ := Aside0.mk (Kd.R_below (by (with_reducible repeat (first | apply Kd.R_alloc | apply Kd.R_drewN | apply Kd.R_drew)); exact HO_138003.out) hb)
                                  have n4_ := Aside0.mk (Kd.R_below (by (with_reducible repeat (first | apply Kd.R_alloc | apply Kd.R_drewN | apply Kd.R_drew)); exact HO145.out) hb)
                                  have n5_ := Aside0.mk (Kd.V_below (by (with_reducible repeat (first | apply Kd.V_alloc | apply Kd.V_drewN | apply Kd.V_drew)); exact HO153.out) hb)
                                  have n6_ := Aside0.mk (blk_below (g := gb119) (o := .cells #[.string t112, .string t113, .string t114, .slice Ao16 t115.length co16] 25 (0, 0)) (by (with_reducible repeat (first | refine blk_drewN ?_ _ | refine blk_drew ?_ | refine blk_alloc ?_ _)); exact BK119.out) hb)
                                  have n7_ := Aside0.mk (blk_below (g := gb128) (o := .cells #[.string t121, .string t122, .string t123, .slice Ao22 t124.length co22] 25 (0, 0)) (by (with_reducible repeat (first | refine blk_drewN ?_ _ | refine blk_drew ?_ | refine blk_alloc ?_ _)); exact BK128.out) hb)
                                  have n8_ := Aside0.mk (blk_below (g := gb137) (o := .cells #[.string t130, .string t131, .string t132, .slice Ao29 t133.length co29] 25 (0, 0)) (by (with_reducible repeat (first | refine blk_drewN ?_ _ | refine blk_drew ?_ | refine blk_alloc ?_ _)); exact BK137.out) hb)
                                  have n9_ := Aside0.mk (blk_below (g := gb147) (o := .cells #[.string t140, .string t141, .string t142, .slice Ao63 t143.length co63] 25 (0, 0)) (by (with_reducible repeat (first | refine blk_drewN ?_ _ | refine blk_drew ?_ | refine blk_alloc ?_ _)); exact BK147.out) hb)
                                  have n10_ := Aside0.mk (blk_below (g := gb155) (o := .cells #[.string t148, .string t149, .string t150, .slice Ao73 t151.length co73] 25 (0, 0)) (by (with_reducible repeat (first | refine blk_drewN ?_ _ | refine blk_drew ?_ | refine blk_alloc ?_ _)); exact BK155.out) hb)
                                  have n11_ := Aside0.mk (below_step (by repeat (first | (with_reducible first | exact HB.out | apply below_alloc | apply pw_below_drewN | apply below_drew1 | refine below_set ?_ GE119.out | refine below_set ?_ GE128.out | refine below_set ?_ GE137.out | refine below_set ?_ GE147.out | refine below_set ?_ GE155.out) | exact HB.out)) hb)
                                  clear HO_48
                                  clear HO_120003
                                  clear HO_129003
                                  clear HO_138003
                                  clear HO145
                                  clear HO153
                                  clear BK119
                                  clear BK128
                                  clear BK137
                                  clear BK147
                                  clear BK155
                                  clear HB
                                  have HO_48 := n0_
                                  have HO_120003 := n1_
                                  have HO_129003 := n2_
                                  have HO_138003 := n3_
                                  have HO145 := n4_
                                  have HO153 := n5_
                                  have BK119 := n6_
                                  have BK128 := n7_
                                  have BK137 := n8_
                                  have BK147 := n9_
                                  have BK155 := n10_
                                  have HB := n11_
                                  clear n0_ n1_ n2_ n3_ n4_ n5_ n6_ n7_ n8_ n9_ n10_ n11_
                                  (try clear hb)
                                  (try clear hb2)
                                  (try clear hk)
                                  (try clear hi)
                                  refine hK.out _ _ ⟨(blk_cell BK128.out 0).trans rfl, (blk_cell BK128.out 1).trans rfl, (blk_cell BK128.out 2).trans rfl, (blk_cell BK128.out 3).trans rfl, (blk_cell BK119.out 0).trans rfl, (blk_cell BK119.out 1).trans rfl, (blk_cell BK119.out 2).trans rfl, (blk_cell BK119.out 3).trans rfl, (blk_cell BK137.out 0).trans rfl, (blk_cell BK137.out 1).trans rfl, (blk_cell BK137.out 2).trans rfl, (blk_cell BK137.out 3).trans rfl, (blk_cell BK147.out 0).trans rfl, (blk_cell BK147.out 1).trans rfl, (blk_cell BK147.out 2).trans rfl, (blk_cell BK147.out 3).trans rfl, (blk_cell BK155.out 0).trans rfl, (blk_cell BK155.out 1).trans rfl, (blk_cell BK155.out 2).trans rfl, (blk_cell BK155.out 3).trans rfl⟩ (fun hHeld => ?_)
                                  clear hK K
                                  refine norm_ (a' := ?_) ?_ ?_
                                  rotate_left
                                  · show Act.put _ (some 99) _ = _
                                    simp only [Act.put, List.setIfInBounds_toArray, List.set_cons_zero, List.set_cons_succ, i64_w, i32_w]
                                    rfl
                                  refine one_ (i := 33) (N := some 101) #[true, true, true, true, true, true, true, true, true, true, true, true, true, true, true, true, true, true, true, true, true, true, true, true, true, true, true, true, true, true, true, true, true, true, false, false, false] rfl rfl (one_of HT_.out (by kernel_rfl)) (by decide) (fun K hK => ?_)
                                  refine goes_ Tryd.func17 (by kernel_rfl) rfl #[.agg #[.string t112, .string t113, .string t114, .slice Ao16 t115.length co16]] (by rfl) rfl rfl (by (try simp only [List.map_toArray, List.map_cons, List.map_nil]); first | done | rfl | (simp only [List.length_drop, List.length_take]; rfl)) ?_
                                  with_reducible refine (tag_Str.calls t112 t113 t114 _ _ t115 t163 _ ?side1 ?side2 A56.out).mono ?_
                                  (case side1 => repeat (first | exact (Kd.R_reads' HO_120003.out).2.2 | (with_reducible refine Kd.C_alloc ?_ _) | (with_reducible refine Kd.C_drewN ?_ _) | (with_reducible refine Kd.C_drew ?_)))
                                  (case side2 => exact (Kd.R_reads' HO_120003.out).2.1)
                                  rintro e w83 ⟨rfl, hb⟩
                                  refine ⟨_, rfl, ?_⟩
                                  have n0_ := Aside0.mk (Kd.R_below (by (with_reducible repeat (first | apply Kd.R_alloc | apply Kd.R_drewN | apply Kd.R_drew)); exact HO_48.out) hb)
                                  have n1_ := Aside0.mk (Kd.R_below (by (with_reducible repeat (first | apply Kd.R_alloc | apply Kd.R_drewN | apply Kd.R_drew)); exact HO_120003.out) hb)
                                  have n2_ := Aside0.mk (Kd.R_below (by (with_reducible repeat (first | apply Kd.R_alloc | apply Kd.R_drewN | apply Kd.R_drew)); exact HO_129003.out) hb)
                                  have n3_ := Aside0.mk (Kd.R_below (by (with_reducible repeat (first | apply Kd.R_alloc | apply Kd.R_drewN | apply Kd.R_drew)); exact HO_138003.out) hb)
                                  have n4_ := Aside0.mk (Kd.R_below (by (with_reducible repeat (first | apply Kd.R_alloc | apply Kd.R_drewN | apply Kd.R_drew)); exact HO145.out) hb)
                                  have n5_ := Aside0.mk (Kd.V_below (by (with_reducible repeat (first | apply Kd.V_alloc | apply Kd.V_drewN | apply Kd.V_drew)); exact HO153.out) hb)
                                  have n6_ := Aside0.mk (blk_below (g := gb119) (o := .cells #[.string t112, .string t113, .string t114, .slice Ao16 t115.length co16] 25 (0, 0)) (by (with_reducible repeat (first | refine blk_drewN ?_ _ | refine blk_drew ?_ | refine blk_alloc ?_ _)); exact BK119.out) hb)
                                  have n7_ := Aside0.mk (blk_below (g := gb128) (o := .cells #[.string t121, .string t122, .string t123, .slice Ao22 t124.length co22] 25 (0, 0)) (by (with_reducible repeat (first | refine blk_drewN ?_ _ | refine blk_drew ?_ | refine blk_alloc ?_ _)); exact BK128.out) hb)
                                  have n8_ := Aside0.mk (blk_below (g := gb137) (o := .cells #[.string t130, .string t131, .string t132, .slice Ao29 t133.length co29] 25 (0, 0)) (by (with_reducible repeat (first | refine blk_drewN ?_ _ | refine blk_drew ?_ | refine blk_alloc ?_ _)); exact BK137.out) hb)
                                  have n9_ := Aside0.mk (blk_below (g := gb147) (o := .cells #[.string t140, .string t141, .string t142, .slice Ao63 t143.length co63] 25 (0, 0)) (by (with_reducible repeat (first | refine blk_drewN ?_ _ | refine blk_drew ?_ | refine blk_alloc ?_ _)); exact BK147.out) hb)
                                  have n10_ := Aside0.mk (blk_below (g := gb155) (o := .cells #[.string t148, .string t149, .string t150, .slice Ao73 t151.length co73] 25 (0, 0)) (by (with_reducible repeat (first | refine blk_drewN ?_ _ | refine blk_drew ?_ | refine blk_alloc ?_ _)); exact BK155.out) hb)
                                  have n11_ := Aside0.mk (below_step (by repeat (first | (with_reducible first | exact HB.out | apply below_alloc | apply pw_below_drewN | apply below_drew1 | refine below_set ?_ GE119.out | refine below_set ?_ GE128.out | refine below_set ?_ GE137.out | refine below_set ?_ GE147.out | refine below_set ?_ GE155.out) | exact HB.out)) hb)
                                  clear HO_48
                                  clear HO_120003
                                  clear HO_129003
                                  clear HO_138003
                                  clear HO145
                                  clear HO153
                                  clear BK119
                                  clear BK128
                                  clear BK137
                                  clear BK147
                                  clear BK155
                                  clear HB
                                  have HO_48 := n0_
                                  have HO_120003 := n1_
                                  have HO_129003 := n2_
                                  have HO_138003 := n3_
                                  have HO145 := n4_
                                  have HO153 := n5_
                                  have BK119 := n6_
                                  have BK128 := n7_
                                  have BK137 := n8_
                                  have BK147 := n9_
                                  have BK155 := n10_
                                  have HB := n11_
                                  clear n0_ n1_ n2_ n3_ n4_ n5_ n6_ n7_ n8_ n9_ n10_ n11_
                                  (try clear hb)
                                  (try clear hb2)
                                  (try clear hk)
                                  (try clear hi)
                                  refine hK.out _ _ ⟨(blk_cell BK128.out 0).trans rfl, (blk_cell BK128.out 1).trans rfl, (blk_cell BK128.out 2).trans rfl, (blk_cell BK128.out 3).trans rfl, (blk_cell BK119.out 0).trans rfl, (blk_cell BK119.out 1).trans rfl, (blk_cell BK119.out 2).trans rfl, (blk_cell BK119.out 3).trans rfl, (blk_cell BK137.out 0).trans rfl, (blk_cell BK137.out 1).trans rfl, (blk_cell BK137.out 2).trans rfl, (blk_cell BK137.out 3).trans rfl, (blk_cell BK147.out 0).trans rfl, (blk_cell BK147.out 1).trans rfl, (blk_cell BK147.out 2).trans rfl, (blk_cell BK147.out 3).trans rfl, (blk_cell BK155.out 0).trans rfl, (blk_cell BK155.out 1).trans rfl, (blk_cell BK155.out 2).trans rfl, (blk_cell BK155.out 3).trans rfl⟩ (fun hHeld => ?_)
                                  clear hK K
                                  refine norm_ (a' := ?_) ?_ ?_
                                  rotate_left
                                  · show Act.put _ (some 101) _ = _
                                    simp only [Act.put, List.setIfInBounds_toArray, List.set_cons_zero, List.set_cons_succ, i64_w, i32_w]
                                    rfl
                                  refine pure_ (i := 34) (N := some 102) (v := ?_) (a' := ?_) #[true, true, true, true, true, true, true, true, true, true, true, true, true, true, true, true, true, true, true, true, true, true, true, true, true, true, true, true, true, true, true, true, true, true, true, false, false] rfl rfl (any_of HT_.out (by kernel_rfl)) (fun _ _ _ h => h) (Or.inl ⟨by rfl, ?_⟩) ?_ ?_
                                  rotate_left
                                  · intro w'
                                    go_simp
                                    with_reducible rfl
                                  rotate_left
                                  · simp only [Act.put, List.setIfInBounds_toArray, List.set_cons_zero, List.set_cons_succ, i64_w, i32_w]
                                    rfl
                                  refine pure_ (i := 35) (N := some 103) (v := ?_) (a' := ?_) #[true, true, true, true, true, true, true, true, true, true, true, true, true, true, true, true, true, true, true, true, true, true, true, true, true, true, true, true, true, true, true, true, true, true, true, true, false] rfl rfl (any_of HT_.out (by kernel_rfl)) (fun _ _ _ h => h) (Or.inl ⟨by rfl, ?_⟩) ?_ ?_
                                  rotate_left
                                  · intro w'
                                    go_simp
                                    with_reducible rfl
                                  rotate_left
                                  · simp only [Act.put, List.setIfInBounds_toArray, List.set_cons_zero, List.set_cons_succ, i64_w, i32_w]
                                    rfl
                                  refine pure_ (i := 36) (N := some 2) (v := ?_) (a' := ?_) #[true, true, true, true, true, true, true, true, true, true, true, true, true, true, true, true, true, true, true, true, true, true, true, true, true, true, true, true, true, true, true, true, true, true, true, true, true] rfl rfl (any_of HT_.out (by kernel_rfl)) (fun _ _ _ h => h) (Or.inl ⟨by rfl, ?_⟩) ?_ ?_
                                  rotate_left
                                  · intro w'
                                    go_simp
                                    with_reducible rfl
                                  rotate_left
                                  · simp only [Act.put, List.setIfInBounds_toArray, List.set_cons_zero, List.set_cons_succ, i64_w, i32_w]
                                    rfl
                                  refine done_ (done_of HT_.out (by kernel_rfl)) ?_
                                  try go_wp2
                                  go_ret
                                  exact ⟨by first | rfl | (simp [errW_none, errW_some] <;> rfl) | (simp [*, errW_none, errW_some] <;> rfl), by repeat (first | (with_reducible first | exact HB.out | apply below_alloc | apply pw_below_drewN | apply below_drew1 | refine below_set ?_ GE119.out | refine below_set ?_ GE128.out | refine below_set ?_ GE137.out | refine below_set ?_ GE147.out | refine below_set ?_ GE155.out) | exact HB.out)⟩
                              · replace c52 := Bool.eq_false_iff.mpr c52
                                subst c52
                                have H1 : (some false) = some r := by rw [if_neg (show ¬ (false = true) by decide)] at H; exact H
                                clear H
                                have H := H1
                                clear H1
                                exact absurd ((Option.some.inj H).trans hr_.out) (by decide)
                            · replace c50 := Bool.eq_false_iff.mpr c50
                              subst c50
                              have H1 : (some false) = some r := by rw [if_neg (show ¬ (false = true) by decide)] at H; exact H
                              clear H
                              have H := H1
                              clear H1
                              exact absurd ((Option.some.inj H).trans hr_.out) (by decide)
                          · replace c49 := Bool.eq_false_iff.mpr c49
                            subst c49
                            have H1 : (some false) = some r := by rw [if_neg (show ¬ (false = true) by decide)] at H; exact H
                            clear H
                            have H := H1
                            clear H1
                            exact absurd ((Option.some.inj H).trans hr_.out) (by decide)
                        · rw [if_neg c48] at H
                          have c48b0 : (t158.toList == t159.toList) = false := beq_eq_false_iff_ne.mpr c48
                          have c48b1 : (t158.toList != t159.toList) = true := bne_iff_ne.mpr c48
                          exact absurd ((Option.some.inj H).trans hr_.out) (by decide)
                      · rw [if_neg c45] at H
                        have c45b0 : (t156.toList == t157.toList) = false := beq_eq_false_iff_ne.mpr c45
                        have c45b1 : (t156.toList != t157.toList) = true := bne_iff_ne.mpr c45
                        exact absurd ((Option.some.inj H).trans hr_.out) (by decide)
                    · rw [if_neg c40] at H
                      exact absurd H (by simp)
            · replace c32 := Bool.eq_false_iff.mpr c32
              subst c32
              have H1 : (some true) = some r := by rw [if_neg (show ¬ (false = true) by decide)] at H; exact H
              clear H
              have H := H1
              clear H1
              obtain rfl := Option.some.inj H
              go_wp2
              go_ret
              exact ⟨by first | rfl | (simp [errW_none, errW_some] <;> rfl) | (simp [*, errW_none, errW_some] <;> rfl), by repeat (first | (with_reducible first | exact HB.out | apply below_alloc | apply pw_below_drewN | apply below_drew1 | refine below_set ?_ GE119.out | refine below_set ?_ GE128.out | refine below_set ?_ GE137.out) | exact HB.out)⟩
  · replace c3 := Bool.eq_false_iff.mpr c3
    subst c3
    have H1 : (some false) = some r := by rw [if_neg (show ¬ (false = true) by decide)] at H; exact H
    clear H
    have H := H1
    clear H1
    exact absurd ((Option.some.inj H).trans hr_.out) (by decide)

/-- THE ONE PURE STATEMENT of polyglotlaw03_TagMore: yours. -/
def polyglotlaw03_TagMore.Pure : Prop := ∀ (a0 : ByteArray), a0.size ≤ 140737488351232 → ∃ k, polyglotlaw03_TagMore.f k a0 = some true
theorem polyglotlaw03_TagMore.walk (P : polyglotlaw03_TagMore.Pure) (a0 : ByteArray) (w : World) (w0 : a0.size ≤ 140737488351232) (hG : GW w) :
    Calls Tryd.prog 6 #[.string a0] w fun e w' => e = .returned (.bool true) ∧ Below w.heap.size w w' := by
  obtain ⟨k, h⟩ := P a0 w0
  refine (polyglotlaw03_TagMore.calls k a0 true w h).mono ?_
  rintro e w' ⟨rfl, hd⟩
  exact ⟨rfl, hd⟩

end Go.Proofs.YtpedajhcfkohlaaDoor.PTMore
