-- Written by this session's own program (wip/drive.py) over the kit's printer: not the printer's own text.
import Derived.Test.YtpedajhcfkohlaaDoorPTLessx0
import Derived.Test.YtpedajhcfkohlaaDoorPTLessx1
namespace Go.Proofs.YtpedajhcfkohlaaDoor.PTLess
open Go.RowKit Go.Proofs.YtpedajhcfkohlaaDoorHand Go.Proofs.YtpedajhcfkohlaaDoorW.PrintWords Go.Proofs.YtpedajhcfkohlaaDoorW.PrintLast Go.Proofs.YtpedajhcfkohlaaDoorW.PrintMore
attribute [local go_sem] max2_int min2_int max_two min_two max_three min_three max_four min_four   -- for this text's walks alone
set_option linter.unusedVariables false
set_option linter.unusedSimpArgs false

/-! ### polyglotlaw03_TagLess: function 5 -/
mutual
def polyglotlaw03_TagLess.l0 : Nat → List ByteArray → Int → ByteArray → ByteArray → ByteArray → List ByteArray → Option (Bool)
  | 0, _, _, _, _, _, _ => none
  | k + 1, x5, x6, x120000, x120001, x120002, x120003 => if x6 > 1 then ((tag_Tag_Less.f x120000 x120001 x120002 x120003).bind fun bt135 => (if bt135.2.2.2.2 = true then ((tag_Fit.f x120000 x120001 x120002 x120003 bt135.1 bt135.2.1 bt135.2.2.1 bt135.2.2.2.1).bind fun t143 => (if t143 = true then ((tag_Str.f bt135.1 bt135.2.1 bt135.2.2.1 bt135.2.2.2.1).bind fun t144 => ((tag_Str.f x120000 x120001 x120002 x120003).bind fun t145 => (if (t144.size : Int) ≥ (t145.size : Int) then (polyglotlaw03_TagLess.j1 k x5 x6 true bt135.1 bt135.2.1 bt135.2.2.1 bt135.2.2.2.1) else ((tag_Str.f bt135.1 bt135.2.1 bt135.2.2.1 bt135.2.2.2.1).bind fun t146 => ((law03_split.f t146).bind fun t147 => (polyglotlaw03_TagLess.j1 k x5 x6 ((t147.length : Int) != (wrap64 (x6 - 1))) bt135.1 bt135.2.1 bt135.2.2.1 bt135.2.2.2.1)))))) else (polyglotlaw03_TagLess.j1 k x5 x6 true bt135.1 bt135.2.1 bt135.2.2.1 bt135.2.2.2.1))) else (polyglotlaw03_TagLess.j1 k x5 x6 true bt135.1 bt135.2.1 bt135.2.2.1 bt135.2.2.2.1))) else ((tag_Tag_Less.f x120000 x120001 x120002 x120003).bind fun bt124 => (if bt124.2.2.2.2 = true then (some false) else (if bt124.1.toList = ([] : List UInt8) then ((tag_Str.f x120000 x120001 x120002 x120003).bind fun t132 => (if 0 < (x5.length : Int) then (if t132.toList = (rdOf ByteArray.empty x5 0).toList then (some (x120000.toList == (rdOf ByteArray.empty x5 0).toList)) else (some false)) else (none))) else (some false))))
def polyglotlaw03_TagLess.j1 : Nat → List ByteArray → Int → Bool → ByteArray → ByteArray → ByteArray → List ByteArray → Option (Bool)
  | 0, _, _, _, _, _, _, _ => none
  | k + 1, x5, x6, x64, x143000, x143001, x143002, x143003 => if x64 = true then (some false) else ((tag_Str.f x143000 x143001 x143002 x143003).bind fun t150 => ((tag_Parse.f t150).bind fun bt151 => (if bt151.2.2.2.2 = true then ((tag_Str.f bt151.1 bt151.2.1 bt151.2.2.1 bt151.2.2.2.1).bind fun t159 => ((tag_Str.f x143000 x143001 x143002 x143003).bind fun t160 => (if t159.toList = t160.toList then (polyglotlaw03_TagLess.l0 k x5 (wrap64 (x6 - 1)) x143000 x143001 x143002 x143003) else (some false)))) else (some false))))
end
def polyglotlaw03_TagLess.f (k : Nat) (a0 : ByteArray) : Option (Bool) := (law03_head.f).bind fun t111 => (if t111 = true then (if (a0.size : Int) > 100 then (some true) else ((tag_Parse.f a0).bind fun bt112 => (if bt112.2.2.2.2 = true then ((tag_Str.f bt112.1 bt112.2.1 bt112.2.2.1 bt112.2.2.2.1).bind fun t120 => ((law03_split.f t120).bind fun t121 => (polyglotlaw03_TagLess.l0 k t121 (t121.length : Int) bt112.1 bt112.2.1 bt112.2.2.1 bt112.2.2.2.1))) else (some true)))) else (some false))
theorem polyglotlaw03_TagLess.mono_l : ∀ k, (∀ y0 y1 y2 y3 y4 y5, LeO (polyglotlaw03_TagLess.l0 k y0 y1 y2 y3 y4 y5) (polyglotlaw03_TagLess.l0 (k + 1) y0 y1 y2 y3 y4 y5)) ∧ (∀ y0 y1 y2 y3 y4 y5 y6, LeO (polyglotlaw03_TagLess.j1 k y0 y1 y2 y3 y4 y5 y6) (polyglotlaw03_TagLess.j1 (k + 1) y0 y1 y2 y3 y4 y5 y6))
  | 0 => ⟨fun _ _ _ _ _ _ r h => by simp [polyglotlaw03_TagLess.l0] at h, fun _ _ _ _ _ _ _ r h => by simp [polyglotlaw03_TagLess.j1] at h⟩
  | k + 1 => by
    obtain ⟨ih0, ih1⟩ := polyglotlaw03_TagLess.mono_l k
    refine ⟨?_, ?_⟩
    · intro y0 y1 y2 y3 y4 y5
      unfold polyglotlaw03_TagLess.l0
      repeat' first
      | (with_reducible exact ih0 _ _ _ _ _ _)
      | (with_reducible exact ih1 _ _ _ _ _ _ _)
      | (with_reducible exact LeO.refl _)
      | (with_reducible exact LeO.none _)
      | (with_reducible refine LeO.ite ?_ ?_)
      | (with_reducible refine LeO.bind ?_ (fun _ => ?_))
      | exact ih0 _ _ _ _ _ _
      | exact ih1 _ _ _ _ _ _ _
      | exact LeO.none _
      | refine LeO.ite ?_ ?_
      | refine LeO.bind ?_ (fun _ => ?_)
    · intro y0 y1 y2 y3 y4 y5 y6
      unfold polyglotlaw03_TagLess.j1
      repeat' first
      | (with_reducible exact ih0 _ _ _ _ _ _)
      | (with_reducible exact ih1 _ _ _ _ _ _ _)
      | (with_reducible exact LeO.refl _)
      | (with_reducible exact LeO.none _)
      | (with_reducible refine LeO.ite ?_ ?_)
      | (with_reducible refine LeO.bind ?_ (fun _ => ?_))
      | exact ih0 _ _ _ _ _ _
      | exact ih1 _ _ _ _ _ _ _
      | exact LeO.none _
      | refine LeO.ite ?_ ?_
      | refine LeO.bind ?_ (fun _ => ?_)
theorem polyglotlaw03_TagLess.mono : ∀ a0 k, LeO (polyglotlaw03_TagLess.f k a0) (polyglotlaw03_TagLess.f (k + 1) a0) := by
  intro a0 k
  obtain ⟨ih0, ih1⟩ := polyglotlaw03_TagLess.mono_l k
  unfold polyglotlaw03_TagLess.f
  repeat' first
      | (with_reducible exact ih0 _ _ _ _ _ _)
      | (with_reducible exact ih1 _ _ _ _ _ _ _)
      | (with_reducible exact LeO.refl _)
      | (with_reducible exact LeO.none _)
      | (with_reducible refine LeO.ite ?_ ?_)
      | (with_reducible refine LeO.bind ?_ (fun _ => ?_))
      | exact ih0 _ _ _ _ _ _
      | exact ih1 _ _ _ _ _ _ _
      | exact LeO.none _
      | refine LeO.ite ?_ ?_
      | refine LeO.bind ?_ (fun _ => ?_)
def polyglotlaw03_TagLess.T13 : Bool × List (List Nat × List Nat) := (true, [([], []), ([0], [0]), ([1], [1]), ([2], [2]), ([2], [2]), ([3, 4, 2, 2], [2, 3, 4]), ([5, 2], [2, 5]), ([2, 6], [2, 6]), ([7, 5], [7]), ([8], [8]), ([9, 8, 8], [8, 9]), ([10, 8], [8, 10]), ([8], [8]), ([12, 10, 8], [8, 12]), ([13, 8], [8, 13]), ([11, 14, 8], [8, 11, 14]), ([8, 15], [8, 15]), ([16, 13], [16]), ([17], [17]), ([18, 17, 17], [17, 18]), ([19, 19, 17], [17, 19]), ([20, 17], [17, 20]), ([17], [17]), ([22, 17], [17, 22]), ([21, 23, 17], [17, 21, 23]), ([17, 24], [17, 24])])
def polyglotlaw03_TagLess.B13 : List Nat := [0, 1, 3, 7, 7, 31, 63, 127, 255, 511, 1023, 2047, 511, 6143, 14335, 32767, 65535, 131071, 262143, 524287, 1048575, 2097151, 262143, 4456447, 16777215, 33554431]
theorem polyglotlaw03_TagLess.tab13 : rtab .any (opsOf Tryd.f5 13) = polyglotlaw03_TagLess.T13 := by kernel_rfl
theorem polyglotlaw03_TagLess.bits13 : waitsOk polyglotlaw03_TagLess.T13.2 polyglotlaw03_TagLess.B13 = true := by kernel_rfl
def polyglotlaw03_TagLess.T16 : Bool × List (List Nat × List Nat) := (true, [([], []), ([0], [0]), ([1], [1]), ([2], [2]), ([3, 2, 2], [2, 3]), ([2], [2]), ([5, 4, 2], [2, 5]), ([4, 6, 2], [2, 4, 6]), ([2, 7], [2, 7])])
def polyglotlaw03_TagLess.B16 : List Nat := [0, 1, 3, 7, 15, 7, 63, 127, 255]
theorem polyglotlaw03_TagLess.tab16 : rtab .any (opsOf Tryd.f5 16) = polyglotlaw03_TagLess.T16 := by kernel_rfl
theorem polyglotlaw03_TagLess.bits16 : waitsOk polyglotlaw03_TagLess.T16.2 polyglotlaw03_TagLess.B16 = true := by kernel_rfl
def polyglotlaw03_TagLess.T20 : Bool × List (List Nat × List Nat) := (true, [([], []), ([0], [0]), ([1], [1]), ([2], [2]), ([3, 2], [2, 3]), ([4, 2], [2, 4]), ([2, 5], [2, 5]), ([6, 2], [6]), ([7], [7]), ([8, 7, 7], [7, 8]), ([7], [7]), ([10, 7], [7, 10]), ([11, 7], [7, 11]), ([9, 12, 7], [7, 9, 12]), ([7, 13], [7, 13]), ([14, 9], [14]), ([15], [15]), ([16, 15], [15, 16]), ([15], [15]), ([18, 15], [15, 18]), ([19, 15], [15, 19]), ([17, 20, 15], [15, 17, 20]), ([15, 21], [15, 21]), ([22, 15, 0, 1, 2, 3, 4, 5, 6, 7, 8, 9, 10, 11, 12, 13, 14, 15, 16, 17, 18, 19, 20, 21, 22], [22])])
def polyglotlaw03_TagLess.B20 : List Nat := [0, 1, 3, 7, 15, 31, 63, 127, 255, 511, 255, 1279, 3327, 8191, 16383, 32767, 65535, 131071, 65535, 327679, 851967, 2097151, 4194303, 8388607]
theorem polyglotlaw03_TagLess.tab20 : rtab .any (opsOf Tryd.f5 20) = polyglotlaw03_TagLess.T20 := by kernel_rfl
theorem polyglotlaw03_TagLess.bits20 : waitsOk polyglotlaw03_TagLess.T20.2 polyglotlaw03_TagLess.B20 = true := by kernel_rfl
set_option maxHeartbeats 8000000 in
set_option maxRecDepth 100000 in
theorem polyglotlaw03_TagLess.calls (k : Nat) (a0 : ByteArray) (r : Bool) (w : World) (h : polyglotlaw03_TagLess.f k a0 = some r) (hG : GW w := by first | exact hG | exact GW.drewN hG _ | exact GW.below hG (by first | exact HB.out | (with_reducible exact HB.out) | (repeat (first | (with_reducible first | exact HB.out | apply below_alloc | apply pw_below_drewN | apply below_drew1) | (refine below_setA ?_ (by assumption)) | exact HB.out)))) (hr_ : Aside0 (r = true) := by exact ⟨rfl⟩) :
    Calls Tryd.prog 5 #[.string a0] w fun e w' => e = .returned (.bool r) ∧ Below w.heap.size w w' := by
  have hu25 := Tryd.underlying25
  have HB := Aside0.mk (Below.refl w.heap.size w)
  have H : ((law03_head.f).bind fun t111 => (if t111 = true then (if (a0.size : Int) > 100 then (some true) else ((tag_Parse.f a0).bind fun bt112 => (if bt112.2.2.2.2 = true then ((tag_Str.f bt112.1 bt112.2.1 bt112.2.2.1 bt112.2.2.2.1).bind fun t120 => ((law03_split.f t120).bind fun t121 => (polyglotlaw03_TagLess.l0 k t121 (t121.length : Int) bt112.1 bt112.2.1 bt112.2.2.1 bt112.2.2.2.1))) else (some true)))) else (some false))) = some r := h
  clear h
  replace H := Option.bind_eq_some_iff.mp H
  obtain ⟨t111, A20, H⟩ := H
  replace H : (if t111 = true then (if (a0.size : Int) > 100 then (some true) else ((tag_Parse.f a0).bind fun bt112 => (if bt112.2.2.2.2 = true then ((tag_Str.f bt112.1 bt112.2.1 bt112.2.2.1 bt112.2.2.2.1).bind fun t120 => ((law03_split.f t120).bind fun t121 => (polyglotlaw03_TagLess.l0 k t121 (t121.length : Int) bt112.1 bt112.2.1 bt112.2.2.1 bt112.2.2.2.1))) else (some true)))) else (some false)) = some r := H
  have A2 := Aside0.mk A20
  clear A20
  by_cases c3 : t111 = true
  · subst c3
    have H1 : (if (a0.size : Int) > 100 then (some true) else ((tag_Parse.f a0).bind fun bt112 => (if bt112.2.2.2.2 = true then ((tag_Str.f bt112.1 bt112.2.1 bt112.2.2.1 bt112.2.2.2.1).bind fun t120 => ((law03_split.f t120).bind fun t121 => (polyglotlaw03_TagLess.l0 k t121 (t121.length : Int) bt112.1 bt112.2.1 bt112.2.2.1 bt112.2.2.2.1))) else (some true)))) = some r := by rw [if_pos rfl] at H; exact H
    clear H
    have H := H1
    clear H1
    by_cases c4 : (a0.size : Int) > 100
    · rw [if_pos c4] at H
      have c4b0 : decide (100 < (a0.size : Int)) = true := decide_eq_true c4
      have c4b1 : decide (100 < a0.size) = true := decide_eq_true (by omega)
      clear c4
      obtain rfl := Option.some.inj H
      go_enter Tryd.func5, Tryd.ntmps5
      go_wp2_with (first | ((with_reducible refine gate_callee (f := 14) rfl ?_); refine goesL_ (some 13) rfl rfl Tryd.func14 (by kernel_rfl) rfl #[] rfl (by (try simp only [List.map_toArray, List.map_cons, List.map_nil]); first | done | rfl | (simp only [List.length_drop, List.length_take]; rfl)) ?_; (with_reducible refine (law03_head.calls  true _ A2.out).mono ?_); rintro e w5 ⟨rfl, hb⟩; refine ⟨_, rfl, ?_⟩; have n0_ := Aside0.mk (below_step (by repeat (first | (with_reducible first | exact HB.out | apply below_alloc | apply pw_below_drewN | apply below_drew1) | exact HB.out)) hb); clear HB; have HB := n0_; clear n0_; (try clear hb); (try clear hb2); (try clear hk); (try clear hi)))
      go_ret
      exact ⟨by first | rfl | (simp [errW_none, errW_some] <;> rfl) | (simp [*, errW_none, errW_some] <;> rfl), by repeat (first | (with_reducible first | exact HB.out | apply below_alloc | apply pw_below_drewN | apply below_drew1) | exact HB.out)⟩
    · rw [if_neg c4] at H
      have c4b0 : decide (100 < (a0.size : Int)) = false := decide_eq_false c4
      have c4b1 : decide (100 < a0.size) = false := decide_eq_false (by omega)
      clear c4
      replace H := Option.bind_eq_some_iff.mp H
      obtain ⟨⟨t112, t113, t114, t115, t118⟩, A60, H⟩ := H
      replace H : (if t118 = true then ((tag_Str.f t112 t113 t114 t115).bind fun t120 => ((law03_split.f t120).bind fun t121 => (polyglotlaw03_TagLess.l0 k t121 (t121.length : Int) t112 t113 t114 t115))) else (some true)) = some r := H
      have A6 := Aside0.mk A60
      clear A60
      by_cases c7 : t118 = true
      · subst c7
        have H1 : ((tag_Str.f t112 t113 t114 t115).bind fun t120 => ((law03_split.f t120).bind fun t121 => (polyglotlaw03_TagLess.l0 k t121 (t121.length : Int) t112 t113 t114 t115))) = some r := by rw [if_pos rfl] at H; exact H
        clear H
        have H := H1
        clear H1
        replace H := Option.bind_eq_some_iff.mp H
        obtain ⟨t120, A80, H⟩ := H
        replace H : ((law03_split.f t120).bind fun t121 => (polyglotlaw03_TagLess.l0 k t121 (t121.length : Int) t112 t113 t114 t115)) = some r := H
        have A8 := Aside0.mk A80
        clear A80
        replace H := Option.bind_eq_some_iff.mp H
        obtain ⟨t121, A90, H⟩ := H
        replace H : (polyglotlaw03_TagLess.l0 k t121 (t121.length : Int) t112 t113 t114 t115) = some r := H
        have A9 := Aside0.mk A90
        clear A90
        have H' := Aside0.mk H
        clear H
        go_enter Tryd.func5, Tryd.ntmps5
        go_wp2_with (first | ((with_reducible refine gate_callee (f := 14) rfl ?_); refine goesL_ (some 13) rfl rfl Tryd.func14 (by kernel_rfl) rfl #[] rfl (by (try simp only [List.map_toArray, List.map_cons, List.map_nil]); first | done | rfl | (simp only [List.length_drop, List.length_take]; rfl)) ?_; (with_reducible refine (law03_head.calls  true _ A2.out).mono ?_); rintro e w10 ⟨rfl, hb⟩; refine ⟨_, rfl, ?_⟩; have n0_ := Aside0.mk (below_step (by repeat (first | (with_reducible first | exact HB.out | apply below_alloc | apply pw_below_drewN | apply below_drew1) | exact HB.out)) hb); clear HB; have HB := n0_; clear n0_; (try clear hb); (try clear hb2); (try clear hk); (try clear hi)) | ((with_reducible refine gate_callee (f := 15) rfl ?_); refine goesL_ (some 20) rfl rfl Tryd.func15 (by kernel_rfl) rfl #[.string a0] rfl (by (try simp only [List.map_toArray, List.map_cons, List.map_nil]); first | done | rfl | (simp only [List.length_drop, List.length_take]; rfl)) ?_; (with_reducible refine (tag_Parse.calls a0 t112 t113 t114 t115 true _ A6.out).mono ?_); rintro e w11 ⟨v116, rfl, ho0, hb⟩; refine ⟨_, rfl, ?_⟩; have n0_ := Aside0.mk (Kd.R_lower ho0 (below_size (by repeat (first | (with_reducible first | exact HB.out | apply below_alloc | apply pw_below_drewN | apply below_drew1) | exact HB.out)))); have n1_ := Aside0.mk (below_step (by repeat (first | (with_reducible first | exact HB.out | apply below_alloc | apply pw_below_drewN | apply below_drew1) | exact HB.out)) hb); clear HB; have HO117 := n0_; have HB := n1_; clear n0_ n1_; (try clear hb); (try clear hb2); (try clear hk); (try clear hi); (try clear ho0)) | ((with_reducible refine gate_dst (N := 3) rfl ?_); (try (refine gate_guard (by rfl) ?_; dsimp only)); refine box_event ?hg (N := 3) ?hd (cs := #[.string (⟨#[]⟩ : ByteArray), .string (⟨#[]⟩ : ByteArray), .string (⟨#[]⟩ : ByteArray), .slice none 0 0]) (t := 25) ?hr ?_; (case hd => rfl); (case hg => rfl); (case hr => first | (go_simp; done) | (go_simp; rfl)); intro gb119 hg w12 hbox hb; have n0_ := Aside0.mk (Kd.R_below (by (with_reducible repeat (first | apply Kd.R_alloc | apply Kd.R_drewN | apply Kd.R_drew)); exact HO117.out) hb); have n1_ := Aside0.mk (below_step (by repeat (first | (with_reducible first | exact HB.out | apply below_alloc | apply pw_below_drewN | apply below_drew1) | exact HB.out)) hb); have n2_ := Aside0.mk (hbox); have n3_ := Aside0.mk ((by rw [hg]; exact (below_size (by repeat (first | (with_reducible first | exact HB.out | apply below_alloc | apply pw_below_drewN | apply below_drew1) | exact HB.out))) : w.heap.size ≤ gb119)); have n4_ := Aside0.mk ((by rw [hg]; exact (below_size (by repeat (first | (with_reducible first | exact HB.out | apply below_alloc | apply pw_below_drewN | apply below_drew1) | exact HB.out))) : w.heap.size ≤ gb119)); clear HO117; clear HB; have HO117 := n0_; have HB := n1_; have BK119 := n2_; have GW119 := n3_; have GE119 := n4_; clear n0_ n1_ n2_ n3_ n4_; clear hb hbox hg; have hcz13_0 : w12.cell? ⟨gb119, 0, none⟩ = some (.string (⟨#[]⟩ : ByteArray)) := (blk_cell BK119.out 0).trans rfl; have hcz13_1 : w12.cell? ⟨gb119, 1, none⟩ = some (.string (⟨#[]⟩ : ByteArray)) := (blk_cell BK119.out 1).trans rfl; have hcz13_2 : w12.cell? ⟨gb119, 2, none⟩ = some (.string (⟨#[]⟩ : ByteArray)) := (blk_cell BK119.out 2).trans rfl; have hcz13_3 : w12.cell? ⟨gb119, 3, none⟩ = some (.slice none 0 0) := (blk_cell BK119.out 3).trans rfl; have hfz13_0 := blk_frozen BK119.out 0; have hfz13_1 := blk_frozen BK119.out 1; have hfz13_2 := blk_frozen BK119.out 2; have hfz13_3 := blk_frozen BK119.out 3; obtain ⟨Ao14, co14, eo14⟩ := Kd.R_slice HO117.out; subst eo14) | ((with_reducible refine gate_callee (f := 17) rfl ?_); refine goesL_ (some 26) rfl rfl Tryd.func17 (by kernel_rfl) rfl #[.agg #[.string t112, .string t113, .string t114, .slice Ao14 t115.length co14]] rfl (by (try simp only [List.map_toArray, List.map_cons, List.map_nil]); first | done | rfl | (simp only [List.length_drop, List.length_take]; rfl)) ?_; (with_reducible refine (tag_Str.calls t112 t113 t114 _ _ t115 t120 _ ?side1 ?side2 A8.out).mono ?_); (case side1 => refine (Kd.R_reads' (e := 9) (base := w.heap.size) (ok := fun k_ => True) (n := t115.length) (c := co14) ?_).2.2; exact (by (with_reducible repeat (first | apply Kd.R_alloc | apply Kd.R_drewN | apply Kd.R_drew)); exact (Kd.R_mono (Kd.R_far (p := ⟨gb119, 3, none⟩) (Kd.R_far (p := ⟨gb119, 2, none⟩) (Kd.R_far (p := ⟨gb119, 1, none⟩) (Kd.R_far (p := ⟨gb119, 0, none⟩) (Kd.R_types HO117.out BK119.out (by decide)) (fun _ hk => hk.2) (.string t112)) (fun _ hk => hk.2) (.string t113)) (fun _ hk => hk.2) (.string t114)) (fun _ hk => hk.2) (.slice Ao14 t115.length co14)) (fun _ h_ => h_.1)))); (case side2 => exact (Kd.R_reads' HO117.out).2.1); rintro e w15 ⟨rfl, hb⟩; refine ⟨_, rfl, ?_⟩; have n0_ := Aside0.mk (Kd.R_below (by (with_reducible repeat (first | apply Kd.R_alloc | apply Kd.R_drewN | apply Kd.R_drew)); exact (Kd.R_mono (Kd.R_far (p := ⟨gb119, 3, none⟩) (Kd.R_far (p := ⟨gb119, 2, none⟩) (Kd.R_far (p := ⟨gb119, 1, none⟩) (Kd.R_far (p := ⟨gb119, 0, none⟩) (Kd.R_types HO117.out BK119.out (by decide)) (fun _ hk => hk.2) (.string t112)) (fun _ hk => hk.2) (.string t113)) (fun _ hk => hk.2) (.string t114)) (fun _ hk => hk.2) (.slice Ao14 t115.length co14)) (fun _ h_ => h_.1))) hb); have n1_ := Aside0.mk (blk_below (g := gb119) (o := .cells #[.string t112, .string t113, .string t114, .slice Ao14 t115.length co14] 25 (0, 0)) (by (with_reducible repeat (first | refine blk_drewN ?_ _ | refine blk_drew ?_ | refine blk_alloc ?_ _)); refine blk_put (cs := #[.string t112, .string t113, .string t114, .slice none 0 0]) ?_ 3 _ rfl; (with_reducible repeat (first | refine blk_drewN ?_ _ | refine blk_drew ?_ | refine blk_alloc ?_ _)); refine blk_put (cs := #[.string t112, .string t113, .string (⟨#[]⟩ : ByteArray), .slice none 0 0]) ?_ 2 _ rfl; (with_reducible repeat (first | refine blk_drewN ?_ _ | refine blk_drew ?_ | refine blk_alloc ?_ _)); refine blk_put (cs := #[.string t112, .string (⟨#[]⟩ : ByteArray), .string (⟨#[]⟩ : ByteArray), .slice none 0 0]) ?_ 1 _ rfl; (with_reducible repeat (first | refine blk_drewN ?_ _ | refine blk_drew ?_ | refine blk_alloc ?_ _)); refine blk_put (cs := #[.string (⟨#[]⟩ : ByteArray), .string (⟨#[]⟩ : ByteArray), .string (⟨#[]⟩ : ByteArray), .slice none 0 0]) ?_ 0 _ rfl; (with_reducible repeat (first | refine blk_drewN ?_ _ | refine blk_drew ?_ | refine blk_alloc ?_ _)); exact BK119.out) hb); have n2_ := Aside0.mk (below_step (by repeat (first | (with_reducible first | exact HB.out | apply below_alloc | apply pw_below_drewN | apply below_drew1 | refine below_set ?_ GE119.out) | exact HB.out)) hb); clear HO117; clear BK119; clear HB; have HO117 := n0_; have BK119 := n1_; have HB := n2_; clear n0_ n1_ n2_; (try clear hb); (try clear hb2); (try clear hk); (try clear hi)) | ((with_reducible refine gate_callee (f := 18) rfl ?_); refine goesL_ (some 27) rfl rfl Tryd.func18 (by kernel_rfl) rfl #[.string t120] rfl (by (try simp only [List.map_toArray, List.map_cons, List.map_nil]); first | done | rfl | (simp only [List.length_drop, List.length_take]; rfl)) ?_; (with_reducible refine (law03_split.calls t120 t121 _ A9.out).mono ?_); rintro e w16 ⟨v122, rfl, ho0, hb⟩; refine ⟨_, rfl, ?_⟩; have n0_ := Aside0.mk (Kd.R_elder' (by (with_reducible repeat (first | apply Kd.R_alloc | apply Kd.R_drewN | apply Kd.R_drew)); exact HO117.out) (Kd.R_base ho0) hb); have n1_ := Aside0.mk (Kd.R_lower (Kd.R_new' ho0 (Kd.R_lt (by (with_reducible repeat (first | apply Kd.R_alloc | apply Kd.R_drewN | apply Kd.R_drew)); exact HO117.out))) (below_size (by repeat (first | (with_reducible first | exact HB.out | apply below_alloc | apply pw_below_drewN | apply below_drew1 | refine below_set ?_ GE119.out) | exact HB.out)))); have n2_ := Aside0.mk (blk_below (g := gb119) (o := .cells #[.string t112, .string t113, .string t114, .slice Ao14 t115.length co14] 25 (0, 0)) (by (with_reducible repeat (first | refine blk_drewN ?_ _ | refine blk_drew ?_ | refine blk_alloc ?_ _)); exact BK119.out) hb); have n3_ := Aside0.mk (below_step (by repeat (first | (with_reducible first | exact HB.out | apply below_alloc | apply pw_below_drewN | apply below_drew1 | refine below_set ?_ GE119.out) | exact HB.out)) hb); clear HO117; clear BK119; clear HB; have HO117 := n0_; have HO123 := n1_; have BK119 := n2_; have HB := n3_; clear n0_ n1_ n2_ n3_; (try clear hb); (try clear hb2); (try clear hk); (try clear hi); (try clear ho0); obtain ⟨Ao17, co17, eo17⟩ := Kd.R_slice HO123.out; subst eo17))
        go_loopg [6] k (fun kq v6 w' => ∃ (x6_l1 : Int) (x120000_l1 : ByteArray) (x120001_l1 : ByteArray) (x120002_l1 : ByteArray) (x120003_l1 : List ByteArray) (u120003 : Value), v6 = .int .i64 x6_l1 ∧ Aside0 (polyglotlaw03_TagLess.l0 kq t121 x6_l1 x120000_l1 x120001_l1 x120002_l1 x120003_l1 = some r) ∧ Aside0 (kq ≤ k) ∧ Aside0 (Kd.R Kd.string 9 w' w.heap.size (fun _ => True) (.slice Ao17 t121.length co17) t121) ∧ Aside0 (Kd.V Kd.string 9 w' w.heap.size (fun k_ => some k_ ≠ ((.slice Ao17 t121.length co17) : Value).ownBlock ∧ k_ ≠ gb119) u120003 x120003_l1) ∧ Aside0 (w'.heap[gb119]? = some (.cells #[.string x120000_l1, .string x120001_l1, .string x120002_l1, u120003] 25 (0, 0))) ∧ Aside0 (Below w.heap.size w w'))
        case atStart => exact ⟨((t121.length : Int)), (t112), (t113), (t114), (t115), (.slice Ao14 t115.length co14), (by first | rfl | (simp; done) | (simp [*]; done)), H', ⟨Nat.le_refl _⟩, ⟨by (with_reducible repeat (first | apply Kd.R_alloc | apply Kd.R_drewN | apply Kd.R_drew)); exact Kd.R_mono HO123.out (fun _ hk => trivial)⟩, ⟨Kd.R_V (by (with_reducible repeat (first | apply Kd.R_alloc | apply Kd.R_drewN | apply Kd.R_drew)); exact Kd.R_mono (Kd.R_types HO117.out BK119.out (by decide)) (fun _ hk => ⟨hk.1.2, hk.2⟩))⟩, ⟨by (with_reducible repeat (first | refine blk_drewN ?_ _ | refine blk_drew ?_ | refine blk_alloc ?_ _)); exact BK119.out⟩, ⟨by repeat (first | (with_reducible first | exact HB.out | apply below_alloc | apply pw_below_drewN | apply below_drew1 | refine below_set ?_ GE119.out) | exact HB.out)⟩⟩
        case round =>
          clear H'
          try clear c1
          try clear p2
          try clear c3
          try clear c4
          try clear c4b0
          try clear c4b1
          try clear c5
          try clear c7
          try clear c14
          try clear c15
          try clear c17
          try clear hcz13_0
          try clear hcz13_1
          try clear hcz13_2
          try clear hcz13_3
          try clear hfz13_0
          try clear hfz13_1
          try clear hfz13_2
          try clear hfz13_3
          obtain ⟨x6_l1, x120000_l1, x120001_l1, x120002_l1, x120003_l1, u120003, rfl, HA, HK1, HO_5, HO_120003, BK119, HB⟩ := hrel
          cases gk with
          | zero => exact absurd HA.out (by simp [polyglotlaw03_TagLess.l0])
          | succ k1 =>
            have H := HA.out
            clear HA
            simp only [polyglotlaw03_TagLess.l0] at H
            by_cases c18 : x6_l1 > 1
            · rw [if_pos c18] at H
              have c18b0 : decide (1 < x6_l1) = true := decide_eq_true c18
              clear c18
              replace H := Option.bind_eq_some_iff.mp H
              obtain ⟨⟨t135, t136, t137, t138, t141⟩, A190, H⟩ := H
              replace H : (if t141 = true then ((tag_Fit.f x120000_l1 x120001_l1 x120002_l1 x120003_l1 t135 t136 t137 t138).bind fun t143 => (if t143 = true then ((tag_Str.f t135 t136 t137 t138).bind fun t144 => ((tag_Str.f x120000_l1 x120001_l1 x120002_l1 x120003_l1).bind fun t145 => (if (t144.size : Int) ≥ (t145.size : Int) then (polyglotlaw03_TagLess.j1 k1 t121 x6_l1 true t135 t136 t137 t138) else ((tag_Str.f t135 t136 t137 t138).bind fun t146 => ((law03_split.f t146).bind fun t147 => (polyglotlaw03_TagLess.j1 k1 t121 x6_l1 ((t147.length : Int) != (wrap64 (x6_l1 - 1))) t135 t136 t137 t138)))))) else (polyglotlaw03_TagLess.j1 k1 t121 x6_l1 true t135 t136 t137 t138))) else (polyglotlaw03_TagLess.j1 k1 t121 x6_l1 true t135 t136 t137 t138)) = some r := H
              have A19 := Aside0.mk A190
              clear A190
              have HC20 := Aside0.mk H
              clear H
              have hcz21_0 : wr.cell? ⟨gb119, 0, none⟩ = some (.string x120000_l1) := (blk_cell BK119.out 0).trans rfl
              have hcz21_1 : wr.cell? ⟨gb119, 1, none⟩ = some (.string x120001_l1) := (blk_cell BK119.out 1).trans rfl
              have hcz21_2 : wr.cell? ⟨gb119, 2, none⟩ = some (.string x120002_l1) := (blk_cell BK119.out 2).trans rfl
              have hcz21_3 : wr.cell? ⟨gb119, 3, none⟩ = some (u120003) := (blk_cell BK119.out 3).trans rfl
              have hfz21_0 := blk_frozen BK119.out 0
              have hfz21_1 := blk_frozen BK119.out 1
              have hfz21_2 := blk_frozen BK119.out 2
              have hfz21_3 := blk_frozen BK119.out 3
              obtain ⟨Ao22, co22, eo22⟩ := Kd.V_slice HO_120003.out
              subst eo22
              go_upto_region 13 with (first | ((with_reducible refine gate_callee (f := 20) rfl ?_); refine goesL_ (some 36) rfl rfl Tryd.func20 (by kernel_rfl) rfl #[.agg #[.string x120000_l1, .string x120001_l1, .string x120002_l1, .slice Ao22 x120003_l1.length co22]] rfl (by (try simp only [List.map_toArray, List.map_cons, List.map_nil]); first | done | rfl | (simp only [List.length_drop, List.length_take]; rfl)) ?_; (with_reducible refine (tag_Tag_Less.calls x120000_l1 x120001_l1 x120002_l1 (fun k_ => (some k_ ≠ (.slice Ao17 t121.length co17 : Value).ownBlock ∧ k_ ≠ gb119)) _ _ x120003_l1 t135 t136 t137 t138 t141 _ ?side1 A19.out).mono ?_); (case side1 => exact HO_120003.out); rintro e w23 ⟨v139, rfl, ho0, hb⟩; refine ⟨_, rfl, ?_⟩; have n0_ := Aside0.mk (Kd.R_below (by (with_reducible repeat (first | apply Kd.R_alloc | apply Kd.R_drewN | apply Kd.R_drew)); exact HO_5.out) hb); have n1_ := Aside0.mk (Kd.V_below (by (with_reducible repeat (first | apply Kd.V_alloc | apply Kd.V_drewN | apply Kd.V_drew)); exact HO_120003.out) hb); have n2_ := Aside0.mk (Kd.V_lower (Kd.V_mono (ok' := fun k_ => some k_ ≠ (.slice Ao17 t121.length co17 : Value).ownBlock ∧ k_ ≠ gb119) ho0 (fun k_ hk_ => ⟨Or.elim hk_ (fun hs_ => hs_.1) (fun hn_ => (Kd.fresh' (Kd.R_lt (by (with_reducible repeat (first | apply Kd.R_alloc | apply Kd.R_drewN | apply Kd.R_drew)); exact HO_5.out)) k_ hn_)), Or.elim hk_ (fun hs_ => hs_.2) (fun hn_ => (Kd.freshB (g := gb119) (o := .cells #[.string x120000_l1, .string x120001_l1, .string x120002_l1, .slice Ao22 x120003_l1.length co22] 25 (0, 0)) (by (with_reducible repeat (first | refine blk_drewN ?_ _ | refine blk_drew ?_ | refine blk_alloc ?_ _)); exact BK119.out) k_ hn_))⟩)) (below_size (by repeat (first | (with_reducible first | exact HB.out | apply below_alloc | apply pw_below_drewN | apply below_drew1 | refine below_set ?_ GE119.out) | exact HB.out)))); have n3_ := Aside0.mk (blk_below (g := gb119) (o := .cells #[.string x120000_l1, .string x120001_l1, .string x120002_l1, .slice Ao22 x120003_l1.length co22] 25 (0, 0)) (by (with_reducible repeat (first | refine blk_drewN ?_ _ | refine blk_drew ?_ | refine blk_alloc ?_ _)); exact BK119.out) hb); have n4_ := Aside0.mk (below_step (by repeat (first | (with_reducible first | exact HB.out | apply below_alloc | apply pw_below_drewN | apply below_drew1 | refine below_set ?_ GE119.out) | exact HB.out)) hb); clear HO_5; clear HO_120003; clear BK119; clear HB; have HO_5 := n0_; have HO_120003 := n1_; have HO140 := n2_; have BK119 := n3_; have HB := n4_; clear n0_ n1_ n2_ n3_ n4_; (try clear hb); (try clear hb2); (try clear hk); (try clear hi); (try clear ho0)) | ((with_reducible refine gate_dst (N := 7) rfl ?_); (try (refine gate_guard (by rfl) ?_; dsimp only)); refine box_event ?hg (N := 7) ?hd (cs := #[.string (⟨#[]⟩ : ByteArray), .string (⟨#[]⟩ : ByteArray), .string (⟨#[]⟩ : ByteArray), .slice none 0 0]) (t := 25) ?hr ?_; (case hd => rfl); (case hg => rfl); (case hr => first | (go_simp; done) | (go_simp; rfl)); intro gb142 hg w24 hbox hb; have n0_ := Aside0.mk (Kd.R_below (by (with_reducible repeat (first | apply Kd.R_alloc | apply Kd.R_drewN | apply Kd.R_drew)); exact HO_5.out) hb); have n1_ := Aside0.mk (Kd.V_below (Kd.V_elderB (by (with_reducible repeat (first | apply Kd.V_alloc | apply Kd.V_drewN | apply Kd.V_drew)); exact HO_120003.out) gb142 (Nat.le_of_eq hg.symm)) hb); have n2_ := Aside0.mk (Kd.V_below (Kd.V_elderB (by (with_reducible repeat (first | apply Kd.V_alloc | apply Kd.V_drewN | apply Kd.V_drew)); exact HO140.out) gb142 (Nat.le_of_eq hg.symm)) hb); have n3_ := Aside0.mk (blk_below (g := gb119) (o := .cells #[.string x120000_l1, .string x120001_l1, .string x120002_l1, .slice Ao22 x120003_l1.length co22] 25 (0, 0)) (by (with_reducible repeat (first | refine blk_drewN ?_ _ | refine blk_drew ?_ | refine blk_alloc ?_ _)); exact BK119.out) hb); have n4_ := Aside0.mk (below_step (by repeat (first | (with_reducible first | exact HB.out | apply below_alloc | apply pw_below_drewN | apply below_drew1 | refine below_set ?_ GE119.out) | exact HB.out)) hb); have n5_ := Aside0.mk (hbox); have n6_ := Aside0.mk ((by rw [hg]; exact (below_size (by repeat (first | (with_reducible first | exact HB.out | apply below_alloc | apply pw_below_drewN | apply below_drew1 | refine below_set ?_ GE119.out) | exact HB.out))) : w.heap.size ≤ gb142)); have n7_ := Aside0.mk ((by rw [hg]; exact (below_size (by repeat (first | (with_reducible first | exact HB.out | apply below_alloc | apply pw_below_drewN | apply below_drew1 | refine below_set ?_ GE119.out) | exact HB.out))) : w.heap.size ≤ gb142)); have n8_ := Aside0.mk ((by rw [hg]; exact Nat.ne_of_lt (blk_lt (g := gb119) (o := .cells #[.string x120000_l1, .string x120001_l1, .string x120002_l1, .slice Ao22 x120003_l1.length co22] 25 (0, 0)) (by (with_reducible repeat (first | refine blk_drewN ?_ _ | refine blk_drew ?_ | refine blk_alloc ?_ _)); exact BK119.out)) : gb119 ≠ gb142)); have n9_ := Aside0.mk ((by rw [hg]; exact Nat.ne_of_gt (blk_lt (g := gb119) (o := .cells #[.string x120000_l1, .string x120001_l1, .string x120002_l1, .slice Ao22 x120003_l1.length co22] 25 (0, 0)) (by (with_reducible repeat (first | refine blk_drewN ?_ _ | refine blk_drew ?_ | refine blk_alloc ?_ _)); exact BK119.out)) : gb142 ≠ gb119)); clear HO_5; clear HO_120003; clear HO140; clear BK119; clear HB; have HO_5 := n0_; have HO_120003 := n1_; have HO140 := n2_; have BK119 := n3_; have HB := n4_; have BK142 := n5_; have GW142 := n6_; have GE142 := n7_; have NB119_142 := n8_; have NB142_119 := n9_; clear n0_ n1_ n2_ n3_ n4_ n5_ n6_ n7_ n8_ n9_; clear hb hbox hg; have hnb25 := NB142_119.out; have hnc25 := NB119_142.out; have hcz26_0 : w24.cell? ⟨gb142, 0, none⟩ = some (.string (⟨#[]⟩ : ByteArray)) := (blk_cell BK142.out 0).trans rfl; have hcz26_1 : w24.cell? ⟨gb142, 1, none⟩ = some (.string (⟨#[]⟩ : ByteArray)) := (blk_cell BK142.out 1).trans rfl; have hcz26_2 : w24.cell? ⟨gb142, 2, none⟩ = some (.string (⟨#[]⟩ : ByteArray)) := (blk_cell BK142.out 2).trans rfl; have hcz26_3 : w24.cell? ⟨gb142, 3, none⟩ = some (.slice none 0 0) := (blk_cell BK142.out 3).trans rfl; have hfz26_0 := blk_frozen BK142.out 0; have hfz26_1 := blk_frozen BK142.out 1; have hfz26_2 := blk_frozen BK142.out 2; have hfz26_3 := blk_frozen BK142.out 3; obtain ⟨Ao27, co27, eo27⟩ := Kd.V_slice HO140.out; subst eo27))
              (try simp only [Act.put, List.setIfInBounds_toArray, List.set_cons_zero, List.set_cons_succ])
              go_cut [64] (fun v64 wc => ∃ (kq : Nat) (x64_19 : Bool), v64 = .bool x64_19 ∧ Aside0 (polyglotlaw03_TagLess.j1 kq t121 x6_l1 x64_19 t135 t136 t137 t138 = some r) ∧ Aside0 (kq ≤ k1) ∧ Aside0 (Kd.R Kd.string 9 wc w.heap.size (fun _ => True) (.slice Ao17 t121.length co17) t121) ∧ Aside0 (Kd.V Kd.string 9 wc w.heap.size (fun k_ => some k_ ≠ ((.slice Ao17 t121.length co17) : Value).ownBlock ∧ k_ ≠ gb119 ∧ k_ ≠ gb142) (.slice Ao22 x120003_l1.length co22) x120003_l1) ∧ Aside0 (Kd.V Kd.string 9 wc w.heap.size (fun k_ => some k_ ≠ ((.slice Ao17 t121.length co17) : Value).ownBlock ∧ k_ ≠ gb119 ∧ k_ ≠ gb142) (.slice Ao27 t138.length co27) t138) ∧ Aside0 (wc.heap[gb119]? = some (.cells #[.string x120000_l1, .string x120001_l1, .string x120002_l1, (.slice Ao22 x120003_l1.length co22)] 25 (0, 0))) ∧ Aside0 (wc.heap[gb142]? = some (.cells #[.string t135, .string t136, .string t137, (.slice Ao27 t138.length co27)] 25 (0, 0))) ∧ Aside0 (Below w.heap.size w wc))
              case first =>
                have H := HC20.out
                clear HC20
                by_cases c28 : t141 = true
                · subst c28
                  have H1 : ((tag_Fit.f x120000_l1 x120001_l1 x120002_l1 x120003_l1 t135 t136 t137 t138).bind fun t143 => (if t143 = true then ((tag_Str.f t135 t136 t137 t138).bind fun t144 => ((tag_Str.f x120000_l1 x120001_l1 x120002_l1 x120003_l1).bind fun t145 => (if (t144.size : Int) ≥ (t145.size : Int) then (polyglotlaw03_TagLess.j1 k1 t121 x6_l1 true t135 t136 t137 t138) else ((tag_Str.f t135 t136 t137 t138).bind fun t146 => ((law03_split.f t146).bind fun t147 => (polyglotlaw03_TagLess.j1 k1 t121 x6_l1 ((t147.length : Int) != (wrap64 (x6_l1 - 1))) t135 t136 t137 t138)))))) else (polyglotlaw03_TagLess.j1 k1 t121 x6_l1 true t135 t136 t137 t138))) = some r := by rw [if_pos rfl] at H; exact H
                  clear H
                  have H := H1
                  clear H1
                  replace H := Option.bind_eq_some_iff.mp H
                  obtain ⟨t143, A290, H⟩ := H
                  replace H : (if t143 = true then ((tag_Str.f t135 t136 t137 t138).bind fun t144 => ((tag_Str.f x120000_l1 x120001_l1 x120002_l1 x120003_l1).bind fun t145 => (if (t144.size : Int) ≥ (t145.size : Int) then (polyglotlaw03_TagLess.j1 k1 t121 x6_l1 true t135 t136 t137 t138) else ((tag_Str.f t135 t136 t137 t138).bind fun t146 => ((law03_split.f t146).bind fun t147 => (polyglotlaw03_TagLess.j1 k1 t121 x6_l1 ((t147.length : Int) != (wrap64 (x6_l1 - 1))) t135 t136 t137 t138)))))) else (polyglotlaw03_TagLess.j1 k1 t121 x6_l1 true t135 t136 t137 t138)) = some r := H
                  have A29 := Aside0.mk A290
                  clear A290
                  by_cases c30 : t143 = true
                  · subst c30
                    have H1 : ((tag_Str.f t135 t136 t137 t138).bind fun t144 => ((tag_Str.f x120000_l1 x120001_l1 x120002_l1 x120003_l1).bind fun t145 => (if (t144.size : Int) ≥ (t145.size : Int) then (polyglotlaw03_TagLess.j1 k1 t121 x6_l1 true t135 t136 t137 t138) else ((tag_Str.f t135 t136 t137 t138).bind fun t146 => ((law03_split.f t146).bind fun t147 => (polyglotlaw03_TagLess.j1 k1 t121 x6_l1 ((t147.length : Int) != (wrap64 (x6_l1 - 1))) t135 t136 t137 t138)))))) = some r := by rw [if_pos rfl] at H; exact H
                    clear H
                    have H := H1
                    clear H1
                    replace H := Option.bind_eq_some_iff.mp H
                    obtain ⟨t144, A310, H⟩ := H
                    replace H : ((tag_Str.f x120000_l1 x120001_l1 x120002_l1 x120003_l1).bind fun t145 => (if (t144.size : Int) ≥ (t145.size : Int) then (polyglotlaw03_TagLess.j1 k1 t121 x6_l1 true t135 t136 t137 t138) else ((tag_Str.f t135 t136 t137 t138).bind fun t146 => ((law03_split.f t146).bind fun t147 => (polyglotlaw03_TagLess.j1 k1 t121 x6_l1 ((t147.length : Int) != (wrap64 (x6_l1 - 1))) t135 t136 t137 t138))))) = some r := H
                    have A31 := Aside0.mk A310
                    clear A310
                    replace H := Option.bind_eq_some_iff.mp H
                    obtain ⟨t145, A320, H⟩ := H
                    replace H : (if (t144.size : Int) ≥ (t145.size : Int) then (polyglotlaw03_TagLess.j1 k1 t121 x6_l1 true t135 t136 t137 t138) else ((tag_Str.f t135 t136 t137 t138).bind fun t146 => ((law03_split.f t146).bind fun t147 => (polyglotlaw03_TagLess.j1 k1 t121 x6_l1 ((t147.length : Int) != (wrap64 (x6_l1 - 1))) t135 t136 t137 t138)))) = some r := H
                    have A32 := Aside0.mk A320
                    clear A320
                    by_cases c33 : (t144.size : Int) ≥ (t145.size : Int)
                    · rw [if_pos c33] at H
                      have c33b0 : decide ((t145.size : Int) ≤ (t144.size : Int)) = true := decide_eq_true c33
                      have c33b1 : decide (t145.size ≤ t144.size) = true := decide_eq_true (Int.ofNat_le.mp c33)
                      clear c33
                      (first | rw [c33b0] | (simp only [i64_w, i32_w]; rw [c33b0]) | skip)
                      exact absurd H (by rw [hr_.out]; cases k1 <;> simp [polyglotlaw03_TagLess.j1])
                    · rw [if_neg c33] at H
                      have c33b0 : decide ((t145.size : Int) ≤ (t144.size : Int)) = false := decide_eq_false c33
                      have c33b1 : decide (t145.size ≤ t144.size) = false := decide_eq_false (fun h => c33 (Int.ofNat_le.mpr h))
                      clear c33
                      (first | rw [c33b0] | (simp only [i64_w, i32_w]; rw [c33b0]) | skip)
                      replace H := Option.bind_eq_some_iff.mp H
                      obtain ⟨t146, A340, H⟩ := H
                      replace H : ((law03_split.f t146).bind fun t147 => (polyglotlaw03_TagLess.j1 k1 t121 x6_l1 ((t147.length : Int) != (wrap64 (x6_l1 - 1))) t135 t136 t137 t138)) = some r := H
                      have A34 := Aside0.mk A340
                      clear A340
                      replace H := Option.bind_eq_some_iff.mp H
                      obtain ⟨t147, A350, H⟩ := H
                      replace H : (polyglotlaw03_TagLess.j1 k1 t121 x6_l1 ((t147.length : Int) != (wrap64 (x6_l1 - 1))) t135 t136 t137 t138) = some r := H
                      have A35 := Aside0.mk A350
                      clear A350
                      have H' := Aside0.mk H
                      clear H
                      try go_wp2
                      have n0_ : Aside0 (Kd.R Kd.string 9 ((((w24.setCell ⟨gb142, 0, none⟩ (.string t135)).setCell ⟨gb142, 1, none⟩ (.string t136)).setCell ⟨gb142, 2, none⟩ (.string t137)).setCell ⟨gb142, 3, none⟩ (.slice Ao27 t138.length co27)) w.heap.size (fun _ => True) (.slice Ao17 t121.length co17) t121) := ⟨by (with_reducible repeat (first | apply Kd.R_alloc | apply Kd.R_drewN | apply Kd.R_drew)); exact Kd.R_mono (Kd.R_far (p := ⟨gb142, 3, none⟩) (Kd.R_far (p := ⟨gb142, 2, none⟩) (Kd.R_far (p := ⟨gb142, 1, none⟩) (Kd.R_far (p := ⟨gb142, 0, none⟩) (Kd.R_types HO_5.out BK142.out (by decide)) (fun _ hk => hk.2) (.string t135)) (fun _ hk => hk.2) (.string t136)) (fun _ hk => hk.2) (.string t137)) (fun _ hk => hk.2) (.slice Ao27 t138.length co27)) (fun _ hk => trivial)⟩
                      have n1_ : Aside0 (Kd.V Kd.string 9 ((((w24.setCell ⟨gb142, 0, none⟩ (.string t135)).setCell ⟨gb142, 1, none⟩ (.string t136)).setCell ⟨gb142, 2, none⟩ (.string t137)).setCell ⟨gb142, 3, none⟩ (.slice Ao27 t138.length co27)) w.heap.size (fun k_ => some k_ ≠ (.slice Ao17 t121.length co17 : Value).ownBlock ∧ k_ ≠ gb119 ∧ k_ ≠ gb142) (.slice Ao22 x120003_l1.length co22) x120003_l1) := ⟨by (with_reducible repeat (first | apply Kd.V_alloc | apply Kd.V_drewN | apply Kd.V_drew)); exact Kd.V_mono (Kd.V_far (p := ⟨gb142, 3, none⟩) (Kd.V_far (p := ⟨gb142, 2, none⟩) (Kd.V_far (p := ⟨gb142, 1, none⟩) (Kd.V_far (p := ⟨gb142, 0, none⟩) (Kd.V_mono HO_120003.out (fun k_ hk => (⟨hk, hk.2⟩ : _ ∧ k_ ≠ gb142))) (fun _ hk => hk.2) (.string t135)) (fun _ hk => hk.2) (.string t136)) (fun _ hk => hk.2) (.string t137)) (fun _ hk => hk.2) (.slice Ao27 t138.length co27)) (fun _ hk => ⟨hk.1.1.1, ⟨hk.1.1.2, hk.1.2⟩⟩)⟩
                      have n2_ : Aside0 (Kd.V Kd.string 9 ((((w24.setCell ⟨gb142, 0, none⟩ (.string t135)).setCell ⟨gb142, 1, none⟩ (.string t136)).setCell ⟨gb142, 2, none⟩ (.string t137)).setCell ⟨gb142, 3, none⟩ (.slice Ao27 t138.length co27)) w.heap.size (fun k_ => some k_ ≠ (.slice Ao17 t121.length co17 : Value).ownBlock ∧ k_ ≠ gb119 ∧ k_ ≠ gb142) (.slice Ao27 t138.length co27) t138) := ⟨by (with_reducible repeat (first | apply Kd.V_alloc | apply Kd.V_drewN | apply Kd.V_drew)); exact Kd.V_mono (Kd.V_far (p := ⟨gb142, 3, none⟩) (Kd.V_far (p := ⟨gb142, 2, none⟩) (Kd.V_far (p := ⟨gb142, 1, none⟩) (Kd.V_far (p := ⟨gb142, 0, none⟩) (Kd.V_mono HO140.out (fun k_ hk => (⟨hk, hk.2⟩ : _ ∧ k_ ≠ gb142))) (fun _ hk => hk.2) (.string t135)) (fun _ hk => hk.2) (.string t136)) (fun _ hk => hk.2) (.string t137)) (fun _ hk => hk.2) (.slice Ao27 t138.length co27)) (fun _ hk => ⟨hk.1.1.1, ⟨hk.1.1.2, hk.1.2⟩⟩)⟩
                      have n3_ : Aside0 (((((w24.setCell ⟨gb142, 0, none⟩ (.string t135)).setCell ⟨gb142, 1, none⟩ (.string t136)).setCell ⟨gb142, 2, none⟩ (.string t137)).setCell ⟨gb142, 3, none⟩ (.slice Ao27 t138.length co27)).heap[gb119]? = some (.cells #[.string x120000_l1, .string x120001_l1, .string x120002_l1, .slice Ao22 x120003_l1.length co22] 25 (0, 0))) := ⟨by (with_reducible repeat (first | refine blk_drewN ?_ _ | refine blk_drew ?_ | refine blk_alloc ?_ _)); refine blk_far ?_ NB119_142.out _; (with_reducible repeat (first | refine blk_drewN ?_ _ | refine blk_drew ?_ | refine blk_alloc ?_ _)); refine blk_far ?_ NB119_142.out _; (with_reducible repeat (first | refine blk_drewN ?_ _ | refine blk_drew ?_ | refine blk_alloc ?_ _)); refine blk_far ?_ NB119_142.out _; (with_reducible repeat (first | refine blk_drewN ?_ _ | refine blk_drew ?_ | refine blk_alloc ?_ _)); refine blk_far ?_ NB119_142.out _; (with_reducible repeat (first | refine blk_drewN ?_ _ | refine blk_drew ?_ | refine blk_alloc ?_ _)); exact BK119.out⟩
                      have n4_ : Aside0 (((((w24.setCell ⟨gb142, 0, none⟩ (.string t135)).setCell ⟨gb142, 1, none⟩ (.string t136)).setCell ⟨gb142, 2, none⟩ (.string t137)).setCell ⟨gb142, 3, none⟩ (.slice Ao27 t138.length co27)).heap[gb142]? = some (.cells #[.string t135, .string t136, .string t137, .slice Ao27 t138.length co27] 25 (0, 0))) := ⟨by (with_reducible repeat (first | refine blk_drewN ?_ _ | refine blk_drew ?_ | refine blk_alloc ?_ _)); refine blk_put (cs := #[.string t135, .string t136, .string t137, .slice none 0 0]) ?_ 3 _ rfl; (with_reducible repeat (first | refine blk_drewN ?_ _ | refine blk_drew ?_ | refine blk_alloc ?_ _)); refine blk_put (cs := #[.string t135, .string t136, .string (⟨#[]⟩ : ByteArray), .slice none 0 0]) ?_ 2 _ rfl; (with_reducible repeat (first | refine blk_drewN ?_ _ | refine blk_drew ?_ | refine blk_alloc ?_ _)); refine blk_put (cs := #[.string t135, .string (⟨#[]⟩ : ByteArray), .string (⟨#[]⟩ : ByteArray), .slice none 0 0]) ?_ 1 _ rfl; (with_reducible repeat (first | refine blk_drewN ?_ _ | refine blk_drew ?_ | refine blk_alloc ?_ _)); refine blk_put (cs := #[.string (⟨#[]⟩ : ByteArray), .string (⟨#[]⟩ : ByteArray), .string (⟨#[]⟩ : ByteArray), .slice none 0 0]) ?_ 0 _ rfl; (with_reducible repeat (first | refine blk_drewN ?_ _ | refine blk_drew ?_ | refine blk_alloc ?_ _)); exact BK142.out⟩
                      have n5_ : Aside0 (Below w.heap.size w ((((w24.setCell ⟨gb142, 0, none⟩ (.string t135)).setCell ⟨gb142, 1, none⟩ (.string t136)).setCell ⟨gb142, 2, none⟩ (.string t137)).setCell ⟨gb142, 3, none⟩ (.slice Ao27 t138.length co27))) := ⟨by repeat (first | (with_reducible first | exact HB.out | apply below_alloc | apply pw_below_drewN | apply below_drew1 | refine below_set ?_ GE119.out | refine below_set ?_ GE142.out) | exact HB.out)⟩
                      (try clear HO_5)
                      (try clear HO_120003)
                      (try clear HO140)
                      (try clear BK119)
                      (try clear BK142)
                      (try clear HB)
                      generalize ((((w24.setCell ⟨gb142, 0, none⟩ (.string t135)).setCell ⟨gb142, 1, none⟩ (.string t136)).setCell ⟨gb142, 2, none⟩ (.string t137)).setCell ⟨gb142, 3, none⟩ (.slice Ao27 t138.length co27)) = w36 at n0_ n1_ n2_ n3_ n4_ n5_ ⊢
                      have HO_5 := n0_
                      have HO_120003 := n1_
                      have HO140 := n2_
                      have BK119 := n3_
                      have BK142 := n4_
                      have HB := n5_
                      clear n0_ n1_ n2_ n3_ n4_ n5_
                      have n0_ := Aside0.mk (Kd.R_drew HO_5.out)
                      have n1_ := Aside0.mk (Kd.V_drew HO_120003.out)
                      have n2_ := Aside0.mk (Kd.V_drew HO140.out)
                      have n3_ := Aside0.mk (blk_drew BK119.out)
                      have n4_ := Aside0.mk (blk_drew BK142.out)
                      have n5_ := Aside0.mk (below_drew1 HB.out)
                      clear HO_5
                      clear HO_120003
                      clear HO140
                      clear BK119
                      clear BK142
                      clear HB
                      have HO_5 := n0_
                      have HO_120003 := n1_
                      have HO140 := n2_
                      have BK119 := n3_
                      have BK142 := n4_
                      have HB := n5_
                      clear n0_ n1_ n2_ n3_ n4_ n5_
                      refine start_ (n := 26) (S := fun w' => w'.cell? ⟨gb119, 0, none⟩ = some (.string x120000_l1) ∧ w'.cell? ⟨gb119, 1, none⟩ = some (.string x120001_l1) ∧ w'.cell? ⟨gb119, 2, none⟩ = some (.string x120002_l1) ∧ w'.cell? ⟨gb119, 3, none⟩ = some (.slice Ao22 x120003_l1.length co22) ∧ w'.cell? ⟨gb142, 0, none⟩ = some (.string t135) ∧ w'.cell? ⟨gb142, 1, none⟩ = some (.string t136) ∧ w'.cell? ⟨gb142, 2, none⟩ = some (.string t137) ∧ w'.cell? ⟨gb142, 3, none⟩ = some (.slice Ao27 t138.length co27)) (ds := []) #[false, false, false, false, false, false, false, false, false, false, false, false, false, false, false, false, false, false, false, false, false, false, false, false, false, false] (by kernel_rfl) rfl rfl ⟨(blk_cell BK119.out 0).trans rfl, (blk_cell BK119.out 1).trans rfl, (blk_cell BK119.out 2).trans rfl, (blk_cell BK119.out 3).trans rfl, (blk_cell BK142.out 0).trans rfl, (blk_cell BK142.out 1).trans rfl, (blk_cell BK142.out 2).trans rfl, (blk_cell BK142.out 3).trans rfl⟩ (fun hHeld => ?_); refine with_tabW polyglotlaw03_TagLess.tab13 polyglotlaw03_TagLess.bits13 (fun HT_ HW_ => ?_)
                      generalize w36.drew = w37 at HO_5 HO_120003 HO140 BK119 BK142 HB hHeld ⊢
                      refine pure_ (i := 0) (N := some 39) (v := ?_) (a' := ?_) #[true, false, false, false, false, false, false, false, false, false, false, false, false, false, false, false, false, false, false, false, false, false, false, false, false, false] rfl rfl (any_of HT_.out (by kernel_rfl)) (fun _ _ _ h => h) (Or.inl ⟨by rfl, ?_⟩) ?_ ?_
                      rotate_left
                      · intro w'
                        go_simp
                        with_reducible rfl
                      rotate_left
                      · simp only [Act.put, List.setIfInBounds_toArray, List.set_cons_zero, List.set_cons_succ, i64_w, i32_w]
                        rfl
                      refine pure_ (i := 1) (N := some 40) (v := ?_) (a' := ?_) #[true, true, false, false, false, false, false, false, false, false, false, false, false, false, false, false, false, false, false, false, false, false, false, false, false, false] rfl rfl (any_of HT_.out (by kernel_rfl)) (fun _ _ _ h => h) (Or.inl ⟨by rfl, ?_⟩) ?_ ?_
                      rotate_left
                      · intro w'
                        go_simp
                        with_reducible rfl
                      rotate_left
                      · simp only [Act.put, List.setIfInBounds_toArray, List.set_cons_zero, List.set_cons_succ, i64_w, i32_w]
                        rfl
                      refine pure_ (i := 2) (N := some 41) (v := ?_) (a' := ?_) #[true, true, true, false, false, false, false, false, false, false, false, false, false, false, false, false, false, false, false, false, false, false, false, false, false, false] rfl rfl (any_of HT_.out (by kernel_rfl)) (fun _ _ _ h => h) (Or.inl ⟨by rfl, ?_⟩) ?_ ?_
                      rotate_left
                      · intro w'
                        go_simp
                        with_reducible rfl
                      rotate_left
                      · simp only [Act.put, List.setIfInBounds_toArray, List.set_cons_zero, List.set_cons_succ, i64_w, i32_w]
                        rfl
                      refine take_ (i := 3) (N := some 42) (v := ?_) (a' := ?_) #[true, true, true, true, false, false, false, false, false, false, false, false, false, false, false, false, false, false, false, false, false, false, false, false, false, false] rfl rfl (take_ofW HT_.out HW_.out (by kernel_rfl)) (fun _ _ _ h => h) (Or.inl ⟨by rfl, ?_⟩) hHeld ?_ ?_
                      rotate_left
                      · rintro w' ⟨s0, s1, s2, s3, s4, s5, s6, s7⟩
                        go_simp
                        with_reducible rfl
                      rotate_left
                      · simp only [Act.put, List.setIfInBounds_toArray, List.set_cons_zero, List.set_cons_succ, i64_w, i32_w]
                        rfl
                      refine take_ (i := 4) (N := some 43) (v := ?_) (a' := ?_) #[true, true, true, true, true, false, false, false, false, false, false, false, false, false, false, false, false, false, false, false, false, false, false, false, false, false] rfl rfl (take_ofW HT_.out HW_.out (by kernel_rfl)) (fun _ _ _ h => h) (Or.inl ⟨by rfl, ?_⟩) hHeld ?_ ?_
                      rotate_left
                      · rintro w' ⟨s0, s1, s2, s3, s4, s5, s6, s7⟩
                        go_simp
                        with_reducible rfl
                      rotate_left
                      · simp only [Act.put, List.setIfInBounds_toArray, List.set_cons_zero, List.set_cons_succ, i64_w, i32_w]
                        rfl
                      refine one_ (i := 5) (N := some 44) #[true, true, true, true, true, true, false, false, false, false, false, false, false, false, false, false, false, false, false, false, false, false, false, false, false, false] rfl rfl (one_of HT_.out (by kernel_rfl)) (by decide) (fun K hK => ?_)
                      refine goes_ Tryd.func19 (by kernel_rfl) rfl #[.agg #[.string x120000_l1, .string x120001_l1, .string x120002_l1, .slice Ao22 x120003_l1.length co22], .agg #[.string t135, .string t136, .string t137, .slice Ao27 t138.length co27]] (by rfl) rfl rfl (by (try simp only [List.map_toArray, List.map_cons, List.map_nil]); first | done | rfl | (simp only [List.length_drop, List.length_take]; rfl)) ?_
                      with_reducible refine (tag_Fit.calls x120000_l1 x120001_l1 x120002_l1 _ _ x120003_l1 t135 t136 t137 _ _ t138 true _ ?side1 ?side2 ?side3 ?side4 A29.out).mono ?_
                      (case side1 => repeat (first | exact (Kd.V_reads' HO_120003.out).2.2 | (with_reducible refine Kd.C_alloc ?_ _) | (with_reducible refine Kd.C_drewN ?_ _) | (with_reducible refine Kd.C_drew ?_)))
                      (case side2 => exact (Kd.V_reads' HO_120003.out).2.1)
                      (case side3 => repeat (first | exact (Kd.V_reads' HO140.out).2.2 | (with_reducible refine Kd.C_alloc ?_ _) | (with_reducible refine Kd.C_drewN ?_ _) | (with_reducible refine Kd.C_drew ?_)))
                      (case side4 => exact (Kd.V_reads' HO140.out).2.1)
                      rintro e w38 ⟨rfl, hb⟩
                      refine ⟨_, rfl, ?_⟩
                      have n0_ := Aside0.mk (Kd.R_below (by (with_reducible repeat (first | apply Kd.R_alloc | apply Kd.R_drewN | apply Kd.R_drew)); exact HO_5.out) hb)
                      have n1_ := Aside0.mk (Kd.V_below (by (with_reducible repeat (first | apply Kd.V_alloc | apply Kd.V_drewN | apply Kd.V_drew)); exact HO_120003.out) hb)
                      have n2_ := Aside0.mk (Kd.V_below (by (with_reducible repeat (first | apply Kd.V_alloc | apply Kd.V_drewN | apply Kd.V_drew)); exact HO140.out) hb)
                      have n3_ := Aside0.mk (blk_below (g := gb119) (o := .cells #[.string x120000_l1, .string x120001_l1, .string x120002_l1, .slice Ao22 x120003_l1.length co22] 25 (0, 0)) (by (with_reducible repeat (first | refine blk_drewN ?_ _ | refine blk_drew ?_ | refine blk_alloc ?_ _)); exact BK119.out) hb)
                      have n4_ := Aside0.mk (blk_below (g := gb142) (o := .cells #[.string t135, .string t136, .string t137, .slice Ao27 t138.length co27] 25 (0, 0)) (by (with_reducible repeat (first | refine blk_drewN ?_ _ | refine blk_drew ?_ | refine blk_alloc ?_ _)); exact BK142.out) hb)
                      have n5_ := Aside0.mk (below_step (by repeat (first | (with_reducible first | exact HB.out | apply below_alloc | apply pw_below_drewN | apply below_drew1 | refine below_set ?_ GE119.out | refine below_set ?_ GE142.out) | exact HB.out)) hb)
                      clear HO_5
                      clear HO_120003
                      clear HO140
                      clear BK119
                      clear BK142
                      clear HB
                      have HO_5 := n0_
                      have HO_120003 := n1_
                      have HO140 := n2_
                      have BK119 := n3_
                      have BK142 := n4_
                      have HB := n5_
                      clear n0_ n1_ n2_ n3_ n4_ n5_
                      (try clear hb)
                      (try clear hb2)
                      (try clear hk)
                      (try clear hi)
                      refine hK.out _ _ ⟨(blk_cell BK119.out 0).trans rfl, (blk_cell BK119.out 1).trans rfl, (blk_cell BK119.out 2).trans rfl, (blk_cell BK119.out 3).trans rfl, (blk_cell BK142.out 0).trans rfl, (blk_cell BK142.out 1).trans rfl, (blk_cell BK142.out 2).trans rfl, (blk_cell BK142.out 3).trans rfl⟩ (fun hHeld => ?_)
                      clear hK K
                      refine norm_ (a' := ?_) ?_ ?_
                      rotate_left
                      · show Act.put _ (some 44) _ = _
                        simp only [Act.put, List.setIfInBounds_toArray, List.set_cons_zero, List.set_cons_succ, i64_w, i32_w]
                        rfl
                      refine pure_ (i := 6) (N := some 45) (v := ?_) (a' := ?_) #[true, true, true, true, true, true, true, false, false, false, false, false, false, false, false, false, false, false, false, false, false, false, false, false, false, false] rfl rfl (any_of HT_.out (by kernel_rfl)) (fun _ _ _ h => h) (Or.inl ⟨by rfl, ?_⟩) ?_ ?_
                      rotate_left
                      · intro w'
                        go_simp
                        with_reducible rfl
                      rotate_left
                      · simp only [Act.put, List.setIfInBounds_toArray, List.set_cons_zero, List.set_cons_succ, i64_w, i32_w]
                        rfl
                      refine pure_ (i := 7) (N := some 46) (v := ?_) (a' := ?_) #[true, true, true, true, true, true, true, true, false, false, false, false, false, false, false, false, false, false, false, false, false, false, false, false, false, false] rfl rfl (any_of HT_.out (by kernel_rfl)) (fun _ _ _ h => h) (Or.inl ⟨by rfl, ?_⟩) ?_ ?_
                      rotate_left
                      · intro w'
                        go_simp
                        with_reducible rfl
                      rotate_left
                      · simp only [Act.put, List.setIfInBounds_toArray, List.set_cons_zero, List.set_cons_succ, i64_w, i32_w]
                        rfl
                      refine pure_ (i := 8) (N := some 47) (v := ?_) (a' := ?_) #[true, true, true, true, true, true, true, true, true, false, false, false, false, false, false, false, false, false, false, false, false, false, false, false, false, false] rfl rfl (any_of HT_.out (by kernel_rfl)) (fun _ _ _ h => h) (Or.inl ⟨by rfl, ?_⟩) ?_ ?_
                      rotate_left
                      · intro w'
                        go_simp
                        with_reducible rfl
                      rotate_left
                      · simp only [Act.put, List.setIfInBounds_toArray, List.set_cons_zero, List.set_cons_succ, i64_w, i32_w]
                        rfl
                      refine take_ (i := 9) (N := some 48) (v := ?_) (a' := ?_) #[true, true, true, true, true, true, true, true, true, true, false, false, false, false, false, false, false, false, false, false, false, false, false, false, false, false] rfl rfl (take_ofW HT_.out HW_.out (by kernel_rfl)) (fun _ _ _ h => h) (Or.inl ⟨by rfl, ?_⟩) hHeld ?_ ?_
                      rotate_left
                      · rintro w' ⟨s0, s1, s2, s3, s4, s5, s6, s7⟩
                        go_simp
                        with_reducible rfl
                      rotate_left
                      · simp only [Act.put, List.setIfInBounds_toArray, List.set_cons_zero, List.set_cons_succ, i64_w, i32_w]
                        rfl
                      refine take_ (i := 12) (N := some 51) (v := ?_) (a' := ?_) #[true, true, true, true, true, true, true, true, true, true, false, false, true, false, false, false, false, false, false, false, false, false, false, false, false, false] rfl rfl (take_ofW HT_.out HW_.out (by kernel_rfl)) (fun _ _ _ h => h) (Or.inl ⟨by rfl, ?_⟩) hHeld ?_ ?_
                      rotate_left
                      · rintro w' ⟨s0, s1, s2, s3, s4, s5, s6, s7⟩
                        go_simp
                        with_reducible rfl
                      rotate_left
                      · simp only [Act.put, List.setIfInBounds_toArray, List.set_cons_zero, List.set_cons_succ, i64_w, i32_w]
                        rfl
                      refine one_ (i := 10) (N := some 49) #[true, true, true, true, true, true, true, true, true, true, true, false, true, false, false, false, false, false, false, false, false, false, false, false, false, false] rfl rfl (one_of HT_.out (by kernel_rfl)) (by decide) (fun K hK => ?_)
                      refine goes_ Tryd.func17 (by kernel_rfl) rfl #[.agg #[.string t135, .string t136, .string t137, .slice Ao27 t138.length co27]] (by rfl) rfl rfl (by (try simp only [List.map_toArray, List.map_cons, List.map_nil]); first | done | rfl | (simp only [List.length_drop, List.length_take]; rfl)) ?_
                      with_reducible refine (tag_Str.calls t135 t136 t137 _ _ t138 t144 _ ?side1 ?side2 A31.out).mono ?_
                      (case side1 => repeat (first | exact (Kd.V_reads' HO140.out).2.2 | (with_reducible refine Kd.C_alloc ?_ _) | (with_reducible refine Kd.C_drewN ?_ _) | (with_reducible refine Kd.C_drew ?_)))
                      (case side2 => exact (Kd.V_reads' HO140.out).2.1)
                      rintro e w39 ⟨rfl, hb⟩
                      refine ⟨_, rfl, ?_⟩
                      have n0_ := Aside0.mk (Kd.R_below (by (with_reducible repeat (first | apply Kd.R_alloc | apply Kd.R_drewN | apply Kd.R_drew)); exact HO_5.out) hb)
                      have n1_ := Aside0.mk (Kd.V_below (by (with_reducible repeat (first | apply Kd.V_alloc | apply Kd.V_drewN | apply Kd.V_drew)); exact HO_120003.out) hb)
                      have n2_ := Aside0.mk (Kd.V_below (by (with_reducible repeat (first | apply Kd.V_alloc | apply Kd.V_drewN | apply Kd.V_drew)); exact HO140.out) hb)
                      have n3_ := Aside0.mk (blk_below (g := gb119) (o := .cells #[.string x120000_l1, .string x120001_l1, .string x120002_l1, .slice Ao22 x120003_l1.length co22] 25 (0, 0)) (by (with_reducible repeat (first | refine blk_drewN ?_ _ | refine blk_drew ?_ | refine blk_alloc ?_ _)); exact BK119.out) hb)
                      have n4_ := Aside0.mk (blk_below (g := gb142) (o := .cells #[.string t135, .string t136, .string t137, .slice Ao27 t138.length co27] 25 (0, 0)) (by (with_reducible repeat (first | refine blk_drewN ?_ _ | refine blk_drew ?_ | refine blk_alloc ?_ _)); exact BK142.out) hb)
                      have n5_ := Aside0.mk (below_step (by repeat (first | (with_reducible first | exact HB.out | apply below_alloc | apply pw_below_drewN | apply below_drew1 | refine below_set ?_ GE119.out | refine below_set ?_ GE142.out) | exact HB.out)) hb)
                      clear HO_5
                      clear HO_120003
                      clear HO140
                      clear BK119
                      clear BK142
                      clear HB
                      have HO_5 := n0_
                      have HO_120003 := n1_
                      have HO140 := n2_
                      have BK119 := n3_
                      have BK142 := n4_
                      have HB := n5_
                      clear n0_ n1_ n2_ n3_ n4_ n5_
                      (try clear hb)
                      (try clear hb2)
                      (try clear hk)
                      (try clear hi)
                      refine hK.out _ _ ⟨(blk_cell BK119.out 0).trans rfl, (blk_cell BK119.out 1).trans rfl, (blk_cell BK119.out 2).trans rfl, (blk_cell BK119.out 3).trans rfl, (blk_cell BK142.out 0).trans rfl, (blk_cell BK142.out 1).trans rfl, (blk_cell BK142.out 2).trans rfl, (blk_cell BK142.out 3).trans rfl⟩ (fun hHeld => ?_)
                      clear hK K
                      refine norm_ (a' := ?_) ?_ ?_
                      rotate_left
                      · show Act.put _ (some 49) _ = _
                        simp only [Act.put, List.setIfInBounds_toArray, List.set_cons_zero, List.set_cons_succ, i64_w, i32_w]
                        rfl
                      refine pure_ (i := 11) (N := some 50) (v := ?_) (a' := ?_) #[true, true, true, true, true, true, true, true, true, true, true, true, true, false, false, false, false, false, false, false, false, false, false, false, false, false] rfl rfl (any_of HT_.out (by kernel_rfl)) (fun _ _ _ h => h) (Or.inl ⟨by rfl, ?_⟩) ?_ ?_
                      rotate_left
                      · intro w'
                        go_simp
                        with_reducible rfl
                      rotate_left
                      · simp only [Act.put, List.setIfInBounds_toArray, List.set_cons_zero, List.set_cons_succ, i64_w, i32_w]
                        rfl
                      refine one_ (i := 13) (N := some 52) #[true, true, true, true, true, true, true, true, true, true, true, true, true, true, false, false, false, false, false, false, false, false, false, false, false, false] rfl rfl (one_of HT_.out (by kernel_rfl)) (by decide) (fun K hK => ?_)
                      refine goes_ Tryd.func17 (by kernel_rfl) rfl #[.agg #[.string x120000_l1, .string x120001_l1, .string x120002_l1, .slice Ao22 x120003_l1.length co22]] (by rfl) rfl rfl (by (try simp only [List.map_toArray, List.map_cons, List.map_nil]); first | done | rfl | (simp only [List.length_drop, List.length_take]; rfl)) ?_
                      with_reducible refine (tag_Str.calls x120000_l1 x120001_l1 x120002_l1 _ _ x120003_l1 t145 _ ?side1 ?side2 A32.out).mono ?_
                      (case side1 => repeat (first | exact (Kd.V_reads' HO_120003.out).2.2 | (with_reducible refine Kd.C_alloc ?_ _) | (with_reducible refine Kd.C_drewN ?_ _) | (with_reducible refine Kd.C_drew ?_)))
                      (case side2 => exact (Kd.V_reads' HO_120003.out).2.1)
                      rintro e w40 ⟨rfl, hb⟩
                      refine ⟨_, rfl, ?_⟩
                      have n0_ := Aside0.mk (Kd.R_below (by (with_reducible repeat (first | apply Kd.R_alloc | apply Kd.R_drewN | apply Kd.R_drew)); exact HO_5.out) hb)
                      have n1_ := Aside0.mk (Kd.V_below (by (with_reducible repeat (first | apply Kd.V_alloc | apply Kd.V_drewN | apply Kd.V_drew)); exact HO_120003.out) hb)
                      have n2_ := Aside0.mk (Kd.V_below (by (with_reducible repeat (first | apply Kd.V_alloc | apply Kd.V_drewN | apply Kd.V_drew)); exact HO140.out) hb)
                      have n3_ := Aside0.mk (blk_below (g := gb119) (o := .cells #[.string x120000_l1, .string x120001_l1, .string x120002_l1, .slice Ao22 x120003_l1.length co22] 25 (0, 0)) (by (with_reducible repeat (first | refine blk_drewN ?_ _ | refine blk_drew ?_ | refine blk_alloc ?_ _)); exact BK119.out) hb)
                      have n4_ := Aside0.mk (blk_below (g := gb142) (o := .cells #[.string t135, .string t136, .string t137, .slice Ao27 t138.length co27] 25 (0, 0)) (by (with_reducible repeat (first | refine blk_drewN ?_ _ | refine blk_drew ?_ | refine blk_alloc ?_ _)); exact BK142.out) hb)
                      have n5_ := Aside0.mk (below_step (by repeat (first | (with_reducible first | exact HB.out | apply below_alloc | apply pw_below_drewN | apply below_drew1 | refine below_set ?_ GE119.out | refine below_set ?_ GE142.out) | exact HB.out)) hb)
                      clear HO_5
                      clear HO_120003
                      clear HO140
                      clear BK119
                      clear BK142
                      clear HB
                      have HO_5 := n0_
                      have HO_120003 := n1_
                      have HO140 := n2_
                      have BK119 := n3_
                      have BK142 := n4_
                      have HB := n5_
                      clear n0_ n1_ n2_ n3_ n4_ n5_
                      (try clear hb)
                      (try clear hb2)
                      (try clear hk)
                      (try clear hi)
                      refine hK.out _ _ ⟨(blk_cell BK119.out 0).trans rfl, (blk_cell BK119.out 1).trans rfl, (blk_cell BK119.out 2).trans rfl, (blk_cell BK119.out 3).trans rfl, (blk_cell BK142.out 0).trans rfl, (blk_cell BK142.out 1).trans rfl, (blk_cell BK142.out 2).trans rfl, (blk_cell BK142.out 3).trans rfl⟩ (fun hHeld => ?_)
                      clear hK K
                      refine norm_ (a' := ?_) ?_ ?_
                      rotate_left
                      · show Act.put _ (some 52) _ = _
                        simp only [Act.put, List.setIfInBounds_toArray, List.set_cons_zero, List.set_cons_succ, i64_w, i32_w]
                        rfl
                      refine pure_ (i := 14) (N := some 53) (v := ?_) (a' := ?_) #[true, true, true, true, true, true, true, true, true, true, true, true, true, true, true, false, false, false, false, false, false, false, false, false, false, false] rfl rfl (any_of HT_.out (by kernel_rfl)) (fun _ _ _ h => h) (Or.inl ⟨by rfl, ?_⟩) ?_ ?_
                      rotate_left
                      · intro w'
                        go_simp
                        with_reducible rfl
                      rotate_left
                      · simp only [Act.put, List.setIfInBounds_toArray, List.set_cons_zero, List.set_cons_succ, i64_w, i32_w]
                        rfl
                      refine pure_ (i := 15) (N := some 54) (v := ?_) (a' := ?_) #[true, true, true, true, true, true, true, true, true, true, true, true, true, true, true, true, false, false, false, false, false, false, false, false, false, false] rfl rfl (any_of HT_.out (by kernel_rfl)) (fun _ _ _ h => h) (Or.inl ⟨by rfl, ?_⟩) ?_ ?_
                      rotate_left
                      · intro w'
                        go_simp
                        with_reducible rfl
                      rotate_left
                      · simp only [Act.put, List.setIfInBounds_toArray, List.set_cons_zero, List.set_cons_succ, i64_w, i32_w]
                        rfl
                      refine pure_ (i := 16) (N := some 55) (v := ?_) (a' := ?_) #[true, true, true, true, true, true, true, true, true, true, true, true, true, true, true, true, true, false, false, false, false, false, false, false, false, false] rfl rfl (any_of HT_.out (by kernel_rfl)) (fun _ _ _ h => h) (Or.inl ⟨by rfl, ?_⟩) ?_ ?_
                      rotate_left
                      · intro w'
                        go_simp
                        with_reducible rfl
                      rotate_left
                      · simp only [Act.put, List.setIfInBounds_toArray, List.set_cons_zero, List.set_cons_succ, i64_w, i32_w]
                        rfl
                      refine pure_ (i := 17) (N := some 56) (v := ?_) (a' := ?_) #[true, true, true, true, true, true, true, true, true, true, true, true, true, true, true, true, true, true, false, false, false, false, false, false, false, false] rfl rfl (any_of HT_.out (by kernel_rfl)) (fun _ _ _ h => h) (Or.inl ⟨by rfl, ?_⟩) ?_ ?_
                      rotate_left
                      · intro w'
                        go_simp
                        with_reducible rfl
                      rotate_left
                      · simp only [Act.put, List.setIfInBounds_toArray, List.set_cons_zero, List.set_cons_succ, i64_w, i32_w]
                        rfl
                      refine pure_ (i := 22) (N := some 61) (v := ?_) (a' := ?_) #[true, true, true, true, true, true, true, true, true, true, true, true, true, true, true, true, true, true, false, false, false, false, true, false, false, false] rfl rfl (any_of HT_.out (by kernel_rfl)) (fun _ _ _ h => h) (Or.inl ⟨by rfl, ?_⟩) ?_ ?_
                      rotate_left
                      · intro w'
                        go_simp
                        with_reducible rfl
                      rotate_left
                      · simp only [Act.put, List.setIfInBounds_toArray, List.set_cons_zero, List.set_cons_succ, i64_w, i32_w]
                        rfl
                      refine pure_ (i := 23) (N := some 62) (v := ?_) (a' := ?_) #[true, true, true, true, true, true, true, true, true, true, true, true, true, true, true, true, true, true, false, false, false, false, true, true, false, false] rfl rfl (any_of HT_.out (by kernel_rfl)) (fun _ _ _ h => h) (Or.inl ⟨by rfl, ?_⟩) ?_ ?_
                      rotate_left
                      · intro w'
                        go_simp
                        with_reducible rfl
                      rotate_left
                      · simp only [Act.put, List.setIfInBounds_toArray, List.set_cons_zero, List.set_cons_succ, i64_w, i32_w]
                        rfl
                      refine take_ (i := 18) (N := some 57) (v := ?_) (a' := ?_) #[true, true, true, true, true, true, true, true, true, true, true, true, true, true, true, true, true, true, true, false, false, false, true, true, false, false] rfl rfl (take_ofW HT_.out HW_.out (by kernel_rfl)) (fun _ _ _ h => h) (Or.inl ⟨by rfl, ?_⟩) hHeld ?_ ?_
                      rotate_left
                      · rintro w' ⟨s0, s1, s2, s3, s4, s5, s6, s7⟩
                        go_simp
                        with_reducible rfl
                      rotate_left
                      · simp only [Act.put, List.setIfInBounds_toArray, List.set_cons_zero, List.set_cons_succ, i64_w, i32_w]
                        rfl
                      refine one_ (i := 19) (N := some 58) #[true, true, true, true, true, true, true, true, true, true, true, true, true, true, true, true, true, true, true, true, false, false, true, true, false, false] rfl rfl (one_of HT_.out (by kernel_rfl)) (by decide) (fun K hK => ?_)
                      refine goes_ Tryd.func17 (by kernel_rfl) rfl #[.agg #[.string t135, .string t136, .string t137, .slice Ao27 t138.length co27]] (by rfl) rfl rfl (by (try simp only [List.map_toArray, List.map_cons, List.map_nil]); first | done | rfl | (simp only [List.length_drop, List.length_take]; rfl)) ?_
                      with_reducible refine (tag_Str.calls t135 t136 t137 _ _ t138 t146 _ ?side1 ?side2 A34.out).mono ?_
                      (case side1 => repeat (first | exact (Kd.V_reads' HO140.out).2.2 | (with_reducible refine Kd.C_alloc ?_ _) | (with_reducible refine Kd.C_drewN ?_ _) | (with_reducible refine Kd.C_drew ?_)))
                      (case side2 => exact (Kd.V_reads' HO140.out).2.1)
                      rintro e w41 ⟨rfl, hb⟩
                      refine ⟨_, rfl, ?_⟩
                      have n0_ := Aside0.mk (Kd.R_below (by (with_reducible repeat (first | apply Kd.R_alloc | apply Kd.R_drewN | apply Kd.R_drew)); exact HO_5.out) hb)
                      have n1_ := Aside0.mk (Kd.V_below (by (with_reducible repeat (first | apply Kd.V_alloc | apply Kd.V_drewN | apply Kd.V_drew)); exact HO_120003.out) hb)
                      have n2_ := Aside0.mk (Kd.V_below (by (with_reducible repeat (first | apply Kd.V_alloc | apply Kd.V_drewN | apply Kd.V_drew)); exact HO140.out) hb)
                      have n3_ := Aside0.mk (blk_below (g := gb119) (o := .cells #[.string x120000_l1, .string x120001_l1, .string x120002_l1, .slice Ao22 x120003_l1.length co22] 25 (0, 0)) (by (with_reducible repeat (first | refine blk_drewN ?_ _ | refine blk_drew ?_ | refine blk_alloc ?_ _)); exact BK119.out) hb)
                      have n4_ := Aside0.mk (blk_below (g := gb142) (o := .cells #[.string t135, .string t136, .string t137, .slice Ao27 t138.length co27] 25 (0, 0)) (by (with_reducible repeat (first | refine blk_drewN ?_ _ | refine blk_drew ?_ | refine blk_alloc ?_ _)); exact BK142.out) hb)
                      have n5_ := Aside0.mk (below_step (by repeat (first | (with_reducible first | exact HB.out | apply below_alloc | apply pw_below_drewN | apply below_drew1 | refine below_set ?_ GE119.out | refine below_set ?_ GE142.out) | exact HB.out)) hb)
                      clear HO_5
                      clear HO_120003
                      clear HO140
                      clear BK119
                      clear BK142
                      clear HB
                      have HO_5 := n0_
                      have HO_120003 := n1_
                      have HO140 := n2_
                      have BK119 := n3_
                      have BK142 := n4_
                      have HB := n5_
                      clear n0_ n1_ n2_ n3_ n4_ n5_
                      (try clear hb)
                      (try clear hb2)
                      (try clear hk)
                      (try clear hi)
                      refine hK.out _ _ ⟨(blk_cell BK119.out 0).trans rfl, (blk_cell BK119.out 1).trans rfl, (blk_cell BK119.out 2).trans rfl, (blk_cell BK119.out 3).trans rfl, (blk_cell BK142.out 0).trans rfl, (blk_cell BK142.out 1).trans rfl, (blk_cell BK142.out 2).trans rfl, (blk_cell BK142.out 3).trans rfl⟩ (fun hHeld => ?_)
                      clear hK K
                      refine norm_ (a' := ?_) ?_ ?_
                      rotate_left
                      · show Act.put _ (some 58) _ = _
                        simp only [Act.put, List.setIfInBounds_toArray, List.set_cons_zero, List.set_cons_succ, i64_w, i32_w]
                        rfl
                      refine one_ (i := 20) (N := some 59) #[true, true, true, true, true, true, true, true, true, true, true, true, true, true, true, true, true, true, true, true, true, false, true, true, false, false] rfl rfl (one_of HT_.out (by kernel_rfl)) (by decide) (fun K hK => ?_)
                      refine goes_ Tryd.func18 (by kernel_rfl) rfl #[.string t146] (by rfl) rfl rfl (by (try simp only [List.map_toArray, List.map_cons, List.map_nil]); first | done | rfl | (simp only [List.length_drop, List.length_take]; rfl)) ?_
                      with_reducible refine (law03_split.calls t146 t147 _ A35.out).mono ?_
                      rintro e w42 ⟨v148, rfl, ho0, hb⟩
                      refine ⟨_, rfl, ?_⟩
                      have n0_ := Aside0.mk (Kd.R_elder' (by (with_reducible repeat (first | apply Kd.R_alloc | apply Kd.R_drewN | apply Kd.R_drew)); exact HO_5.out) (Kd.R_base ho0) hb)
                      have n1_ := Aside0.mk (Kd.V_elder' (by (with_reducible repeat (first | apply Kd.V_alloc | apply Kd.V_drewN | apply Kd.V_drew)); exact HO_120003.out) (Kd.R_base ho0) hb)
                      have n2_ := Aside0.mk (Kd.V_elder' (by (with_reducible repeat (first | apply Kd.V_alloc | apply Kd.V_drewN | apply Kd.V_drew)); exact HO140.out) (Kd.R_base ho0) hb)
                      have n3_ := Aside0.mk (Kd.R_lower (Kd.R_new' ho0 (Kd.R_lt (by (with_reducible repeat (first | apply Kd.R_alloc | apply Kd.R_drewN | apply Kd.R_drew)); exact HO_5.out))) (below_size (by repeat (first | (with_reducible first | exact HB.out | apply below_alloc | apply pw_below_drewN | apply below_drew1 | refine below_set ?_ GE119.out | refine below_set ?_ GE142.out) | exact HB.out))))
                      have n4_ := Aside0.mk (blk_below (g := gb119) (o := .cells #[.string x120000_l1, .string x120001_l1, .string x120002_l1, .slice Ao22 x120003_l1.length co22] 25 (0, 0)) (by (with_reducible repeat (first | refine blk_drewN ?_ _ | refine blk_drew ?_ | refine blk_alloc ?_ _)); exact BK119.out) hb)
                      have n5_ := Aside0.mk (blk_below (g := gb142) (o := .cells #[.string t135, .string t136, .string t137, .slice Ao27 t138.length co27] 25 (0, 0)) (by (with_reducible repeat (first | refine blk_drewN ?_ _ | refine blk_drew ?_ | refine blk_alloc ?_ _)); exact BK142.out) hb)
                      have n6_ := Aside0.mk (below_step (by repeat (first | (with_reducible first | exact HB.out | apply below_alloc | apply pw_below_drewN | apply below_drew1 | refine below_set ?_ GE119.out | refine below_set ?_ GE142.out) | exact HB.out)) hb)
                      clear HO_5
                      clear HO_120003
                      clear HO140
                      clear BK119
                      clear BK142
                      clear HB
                      have HO_5 := n0_
                      have HO_120003 := n1_
                      have HO140 := n2_
                      have HO149 := n3_
                      have BK119 := n4_
                      have BK142 := n5_
                      have HB := n6_
                      clear n0_ n1_ n2_ n3_ n4_ n5_ n6_
                      (try clear hb)
                      (try clear hb2)
                      (try clear hk)
                      (try clear hi)
                      (try clear ho0)
                      obtain ⟨Ao43, co43, eo43⟩ := Kd.R_slice HO149.out
                      (first | subst eo43 | (injection eo43 with f1_ f2_ f3_; have f4_ := f1_.symm; have f5_ := f3_.symm; clear f1_ f2_ f3_; subst f4_; subst f5_))
                      refine hK.out _ _ ⟨(blk_cell BK119.out 0).trans rfl, (blk_cell BK119.out 1).trans rfl, (blk_cell BK119.out 2).trans rfl, (blk_cell BK119.out 3).trans rfl, (blk_cell BK142.out 0).trans rfl, (blk_cell BK142.out 1).trans rfl, (blk_cell BK142.out 2).trans rfl, (blk_cell BK142.out 3).trans rfl⟩ (fun hHeld => ?_)
                      clear hK K
                      refine norm_ (a' := ?_) ?_ ?_
                      rotate_left
                      · show Act.put _ (some 59) _ = _
                        simp only [Act.put, List.setIfInBounds_toArray, List.set_cons_zero, List.set_cons_succ, i64_w, i32_w]
                        rfl
                      refine pure_ (i := 21) (N := some 60) (v := ?_) (a' := ?_) #[true, true, true, true, true, true, true, true, true, true, true, true, true, true, true, true, true, true, true, true, true, true, true, true, false, false] rfl rfl (any_of HT_.out (by kernel_rfl)) (fun _ _ _ h => h) (Or.inl ⟨by rfl, ?_⟩) ?_ ?_
                      rotate_left
                      · intro w'
                        go_simp
                        with_reducible rfl
                      rotate_left
                      · simp only [Act.put, List.setIfInBounds_toArray, List.set_cons_zero, List.set_cons_succ, i64_w, i32_w]
                        rfl
                      refine pure_ (i := 24) (N := some 63) (v := ?_) (a' := ?_) #[true, true, true, true, true, true, true, true, true, true, true, true, true, true, true, true, true, true, true, true, true, true, true, true, true, false] rfl rfl (any_of HT_.out (by kernel_rfl)) (fun _ _ _ h => h) (Or.inl ⟨by rfl, ?_⟩) ?_ ?_
                      rotate_left
                      · intro w'
                        go_simp
                        with_reducible rfl
                      rotate_left
                      · simp only [Act.put, List.setIfInBounds_toArray, List.set_cons_zero, List.set_cons_succ, i64_w, i32_w]
                        rfl
                      refine pure_ (i := 25) (N := some 64) (v := ?_) (a' := ?_) #[true, true, true, true, true, true, true, true, true, true, true, true, true, true, true, true, true, true, true, true, true, true, true, true, true, true] rfl rfl (any_of HT_.out (by kernel_rfl)) (fun _ _ _ h => h) (Or.inl ⟨by rfl, ?_⟩) ?_ ?_
                      rotate_left
                      · intro w'
                        go_simp
                        with_reducible rfl
                      rotate_left
                      · simp only [Act.put, List.setIfInBounds_toArray, List.set_cons_zero, List.set_cons_succ, i64_w, i32_w]
                        rfl
                      refine done_ (done_of HT_.out (by kernel_rfl)) ?_
                      try go_wp2
                      go_meet
                      case rel => exact ⟨_, (((t147.length : Int) != (wrap64 (x6_l1 - 1)))), (by first | rfl | (simp; done) | (simp [*]; done)), H', ⟨by have := HK1.out; first | omega | exact Nat.le_refl _⟩, ⟨by (with_reducible repeat (first | apply Kd.R_alloc | apply Kd.R_drewN | apply Kd.R_drew)); exact Kd.R_mono HO_5.out (fun _ hk => trivial)⟩, ⟨by (with_reducible repeat (first | apply Kd.V_alloc | apply Kd.V_drewN | apply Kd.V_drew)); exact Kd.V_mono HO_120003.out (fun _ hk => ⟨hk.1.1, ⟨hk.1.2.1, hk.1.2.2⟩⟩)⟩, ⟨by (with_reducible repeat (first | apply Kd.V_alloc | apply Kd.V_drewN | apply Kd.V_drew)); exact Kd.V_mono HO140.out (fun _ hk => ⟨hk.1.1, ⟨hk.1.2.1, hk.1.2.2⟩⟩)⟩, ⟨by (with_reducible repeat (first | refine blk_drewN ?_ _ | refine blk_drew ?_ | refine blk_alloc ?_ _)); exact BK119.out⟩, ⟨by (with_reducible repeat (first | refine blk_drewN ?_ _ | refine blk_drew ?_ | refine blk_alloc ?_ _)); exact BK142.out⟩, ⟨by repeat (first | (with_reducible first | exact HB.out | apply below_alloc | apply pw_below_drewN | apply below_drew1 | refine below_set ?_ GE119.out | refine below_set ?_ GE142.out) | exact HB.out)⟩⟩
                  · replace c30 := Bool.eq_false_iff.mpr c30
                    subst c30
                    have H1 : (polyglotlaw03_TagLess.j1 k1 t121 x6_l1 true t135 t136 t137 t138) = some r := by rw [if_neg (show ¬ (false = true) by decide)] at H; exact H
                    clear H
                    have H := H1
                    clear H1
                    exact absurd H (by rw [hr_.out]; cases k1 <;> simp [polyglotlaw03_TagLess.j1])
                · replace c28 := Bool.eq_false_iff.mpr c28
                  subst c28
                  have H1 : (polyglotlaw03_TagLess.j1 k1 t121 x6_l1 true t135 t136 t137 t138) = some r := by rw [if_neg (show ¬ (false = true) by decide)] at H; exact H
                  clear H
                  have H := H1
                  clear H1
                  exact absurd H (by rw [hr_.out]; cases k1 <;> simp [polyglotlaw03_TagLess.j1])
              case rest =>
                clear HC20
                try clear c1
                try clear c2
                try clear p2
                try clear c3
                try clear c4
                try clear c4b0
                try clear c4b1
                try clear c5
                try clear p6
                try clear c7
                try clear c14
                try clear c15
                try clear c17
                try clear c18
                try clear c18b0
                try clear c19
                try clear c20
                try clear c25
                try clear c28
                try clear c30
                try clear c33
                try clear c33b0
                try clear c33b1
                try clear hcz13_0
                try clear hcz13_1
                try clear hcz13_2
                try clear hcz13_3
                try clear hcz21_0
                try clear hcz21_1
                try clear hcz21_2
                try clear hcz21_3
                try clear hcz26_0
                try clear hcz26_1
                try clear hcz26_2
                try clear hcz26_3
                try clear hfz13_0
                try clear hfz13_1
                try clear hfz13_2
                try clear hfz13_3
                try clear hfz21_0
                try clear hfz21_1
                try clear hfz21_2
                try clear hfz21_3
                try clear hfz26_0
                try clear hfz26_1
                try clear hfz26_2
                try clear hfz26_3
                try clear p2
                obtain ⟨kq, x64_19, rfl, HA, HJ19, HO_5, HO_120003, HO_143003, BK119, BK142, HB⟩ := hcut
                cases kq with
                | zero => exact absurd HA.out (by simp [polyglotlaw03_TagLess.j1])
                | succ kj19 =>
                  have H := HA.out
                  clear HA
                  simp only [polyglotlaw03_TagLess.j1] at H
                  by_cases c44 : x64_19 = true
                  · subst c44
                    have H1 : (some false) = some r := by rw [if_pos rfl] at H; exact H
                    clear H
                    have H := H1
                    clear H1
                    exact absurd ((Option.some.inj H).trans hr_.out) (by decide)
                  · replace c44 := Bool.eq_false_iff.mpr c44
                    subst c44
                    have H1 : ((tag_Str.f t135 t136 t137 t138).bind fun t150 => ((tag_Parse.f t150).bind fun bt151 => (if bt151.2.2.2.2 = true then ((tag_Str.f bt151.1 bt151.2.1 bt151.2.2.1 bt151.2.2.2.1).bind fun t159 => ((tag_Str.f t135 t136 t137 t138).bind fun t160 => (if t159.toList = t160.toList then (polyglotlaw03_TagLess.l0 kj19 t121 (wrap64 (x6_l1 - 1)) t135 t136 t137 t138) else (some false)))) else (some false)))) = some r := by rw [if_neg (show ¬ (false = true) by decide)] at H; exact H
                    clear H
                    have H := H1
                    clear H1
                    replace H := Option.bind_eq_some_iff.mp H
                    obtain ⟨t150, A450, H⟩ := H
                    replace H : ((tag_Parse.f t150).bind fun bt151 => (if bt151.2.2.2.2 = true then ((tag_Str.f bt151.1 bt151.2.1 bt151.2.2.1 bt151.2.2.2.1).bind fun t159 => ((tag_Str.f t135 t136 t137 t138).bind fun t160 => (if t159.toList = t160.toList then (polyglotlaw03_TagLess.l0 kj19 t121 (wrap64 (x6_l1 - 1)) t135 t136 t137 t138) else (some false)))) else (some false))) = some r := H
                    have A45 := Aside0.mk A450
                    clear A450
                    replace H := Option.bind_eq_some_iff.mp H
                    obtain ⟨⟨t151, t152, t153, t154, t157⟩, A460, H⟩ := H
                    replace H : (if t157 = true then ((tag_Str.f t151 t152 t153 t154).bind fun t159 => ((tag_Str.f t135 t136 t137 t138).bind fun t160 => (if t159.toList = t160.toList then (polyglotlaw03_TagLess.l0 kj19 t121 (wrap64 (x6_l1 - 1)) t135 t136 t137 t138) else (some false)))) else (some false)) = some r := H
                    have A46 := Aside0.mk A460
                    clear A460
                    by_cases c47 : t157 = true
                    · subst c47
                      have H1 : ((tag_Str.f t151 t152 t153 t154).bind fun t159 => ((tag_Str.f t135 t136 t137 t138).bind fun t160 => (if t159.toList = t160.toList then (polyglotlaw03_TagLess.l0 kj19 t121 (wrap64 (x6_l1 - 1)) t135 t136 t137 t138) else (some false)))) = some r := by rw [if_pos rfl] at H; exact H
                      clear H
                      have H := H1
                      clear H1
                      replace H := Option.bind_eq_some_iff.mp H
                      obtain ⟨t159, A480, H⟩ := H
                      replace H : ((tag_Str.f t135 t136 t137 t138).bind fun t160 => (if t159.toList = t160.toList then (polyglotlaw03_TagLess.l0 kj19 t121 (wrap64 (x6_l1 - 1)) t135 t136 t137 t138) else (some false))) = some r := H
                      have A48 := Aside0.mk A480
                      clear A480
                      replace H := Option.bind_eq_some_iff.mp H
                      obtain ⟨t160, A490, H⟩ := H
                      replace H : (if t159.toList = t160.toList then (polyglotlaw03_TagLess.l0 kj19 t121 (wrap64 (x6_l1 - 1)) t135 t136 t137 t138) else (some false)) = some r := H
                      have A49 := Aside0.mk A490
                      clear A490
                      by_cases c50 : t159.toList = t160.toList
                      · rw [if_pos c50] at H
                        have c50b0 : (t159.toList == t160.toList) = true := beq_iff_eq.mpr c50
                        have c50b1 : (t159.toList != t160.toList) = false := bne_eq_false_iff_eq.mpr c50
                        clear c50
                        have H' := Aside0.mk H
                        clear H
                        have hnb51 := NB142_119.out
                        have hnc51 := NB119_142.out
                        have hcz52_0 : wc.cell? ⟨gb142, 0, none⟩ = some (.string t135) := (blk_cell BK142.out 0).trans rfl
                        have hcz52_1 : wc.cell? ⟨gb142, 1, none⟩ = some (.string t136) := (blk_cell BK142.out 1).trans rfl
                        have hcz52_2 : wc.cell? ⟨gb142, 2, none⟩ = some (.string t137) := (blk_cell BK142.out 2).trans rfl
                        have hcz52_3 : wc.cell? ⟨gb142, 3, none⟩ = some (.slice Ao27 t138.length co27) := (blk_cell BK142.out 3).trans rfl
                        have hfz52_0 := blk_frozen BK142.out 0
                        have hfz52_1 := blk_frozen BK142.out 1
                        have hfz52_2 := blk_frozen BK142.out 2
                        have hfz52_3 := blk_frozen BK142.out 3
                        try go_wp2_with (first | ((with_reducible refine gate_callee (f := 17) rfl ?_); refine goesL_ (some 67) rfl rfl Tryd.func17 (by kernel_rfl) rfl #[.agg #[.string t135, .string t136, .string t137, .slice Ao27 t138.length co27]] rfl (by (try simp only [List.map_toArray, List.map_cons, List.map_nil]); first | done | rfl | (simp only [List.length_drop, List.length_take]; rfl)) ?_; (with_reducible refine (tag_Str.calls t135 t136 t137 _ _ t138 t150 _ ?side1 ?side2 A45.out).mono ?_); (case side1 => repeat (first | exact (Kd.V_reads' HO_143003.out).2.2 | (with_reducible refine Kd.C_alloc ?_ _) | (with_reducible refine Kd.C_drewN ?_ _) | (with_reducible refine Kd.C_drew ?_))); (case side2 => exact (Kd.V_reads' HO_143003.out).2.1); rintro e w53 ⟨rfl, hb⟩; refine ⟨_, rfl, ?_⟩; have n0_ := Aside0.mk (Kd.R_below (by (with_reducible repeat (first | apply Kd.R_alloc | apply Kd.R_drewN | apply Kd.R_drew)); exact HO_5.out) hb); have n1_ := Aside0.mk (Kd.V_below (by (with_reducible repeat (first | apply Kd.V_alloc | apply Kd.V_drewN | apply Kd.V_drew)); exact HO_120003.out) hb); have n2_ := Aside0.mk (Kd.V_below (by (with_reducible repeat (first | apply Kd.V_alloc | apply Kd.V_drewN | apply Kd.V_drew)); exact HO_143003.out) hb); have n3_ := Aside0.mk (blk_below (g := gb119) (o := .cells #[.string x120000_l1, .string x120001_l1, .string x120002_l1, .slice Ao22 x120003_l1.length co22] 25 (0, 0)) (by (with_reducible repeat (first | refine blk_drewN ?_ _ | refine blk_drew ?_ | refine blk_alloc ?_ _)); exact BK119.out) hb); have n4_ := Aside0.mk (blk_below (g := gb142) (o := .cells #[.string t135, .string t136, .string t137, .slice Ao27 t138.length co27] 25 (0, 0)) (by (with_reducible repeat (first | refine blk_drewN ?_ _ | refine blk_drew ?_ | refine blk_alloc ?_ _)); exact BK142.out) hb); have n5_ := Aside0.mk (below_step (by repeat (first | (with_reducible first | exact HB.out | apply below_alloc | apply pw_below_drewN | apply below_drew1 | refine below_set ?_ GE119.out | refine below_set ?_ GE142.out) | exact HB.out)) hb); clear HO_5; clear HO_120003; clear HO_143003; clear BK119; clear BK142; clear HB; have HO_5 := n0_; have HO_120003 := n1_; have HO_143003 := n2_; have BK119 := n3_; have BK142 := n4_; have HB := n5_; clear n0_ n1_ n2_ n3_ n4_ n5_; (try clear hb); (try clear hb2); (try clear hk); (try clear hi)) | ((with_reducible refine gate_callee (f := 15) rfl ?_); refine goesL_ (some 68) rfl rfl Tryd.func15 (by kernel_rfl) rfl #[.string t150] rfl (by (try simp only [List.map_toArray, List.map_cons, List.map_nil]); first | done | rfl | (simp only [List.length_drop, List.length_take]; rfl)) ?_; (with_reducible refine (tag_Parse.calls t150 t151 t152 t153 t154 true _ A46.out).mono ?_); rintro e w54 ⟨v155, rfl, ho0, hb⟩; refine ⟨_, rfl, ?_⟩; have n0_ := Aside0.mk (Kd.R_elder' (by (with_reducible repeat (first | apply Kd.R_alloc | apply Kd.R_drewN | apply Kd.R_drew)); exact HO_5.out) (Kd.R_base ho0) hb); have n1_ := Aside0.mk (Kd.V_elder' (by (with_reducible repeat (first | apply Kd.V_alloc | apply Kd.V_drewN | apply Kd.V_drew)); exact HO_120003.out) (Kd.R_base ho0) hb); have n2_ := Aside0.mk (Kd.V_elder' (by (with_reducible repeat (first | apply Kd.V_alloc | apply Kd.V_drewN | apply Kd.V_drew)); exact HO_143003.out) (Kd.R_base ho0) hb); have n3_ := Aside0.mk (Kd.R_lower (Kd.R_new' ho0 (Kd.R_lt (by (with_reducible repeat (first | apply Kd.R_alloc | apply Kd.R_drewN | apply Kd.R_drew)); exact HO_5.out))) (below_size (by repeat (first | (with_reducible first | exact HB.out | apply below_alloc | apply pw_below_drewN | apply below_drew1 | refine below_set ?_ GE119.out | refine below_set ?_ GE142.out) | exact HB.out)))); have n4_ := Aside0.mk (blk_below (g := gb119) (o := .cells #[.string x120000_l1, .string x120001_l1, .string x120002_l1, .slice Ao22 x120003_l1.length co22] 25 (0, 0)) (by (with_reducible repeat (first | refine blk_drewN ?_ _ | refine blk_drew ?_ | refine blk_alloc ?_ _)); exact BK119.out) hb); have n5_ := Aside0.mk (blk_below (g := gb142) (o := .cells #[.string t135, .string t136, .string t137, .slice Ao27 t138.length co27] 25 (0, 0)) (by (with_reducible repeat (first | refine blk_drewN ?_ _ | refine blk_drew ?_ | refine blk_alloc ?_ _)); exact BK142.out) hb); have n6_ := Aside0.mk (below_step (by repeat (first | (with_reducible first | exact HB.out | apply below_alloc | apply pw_below_drewN | apply below_drew1 | refine below_set ?_ GE119.out | refine below_set ?_ GE142.out) | exact HB.out)) hb); clear HO_5; clear HO_120003; clear HO_143003; clear BK119; clear BK142; clear HB; have HO_5 := n0_; have HO_120003 := n1_; have HO_143003 := n2_; have HO156 := n3_; have BK119 := n4_; have BK142 := n5_; have HB := n6_; clear n0_ n1_ n2_ n3_ n4_ n5_ n6_; (try clear hb); (try clear hb2); (try clear hk); (try clear hi); (try clear ho0)) | ((with_reducible refine gate_dst (N := 9) rfl ?_); (try (refine gate_guard (by rfl) ?_; dsimp only)); refine box_event ?hg (N := 9) ?hd (cs := #[.string (⟨#[]⟩ : ByteArray), .string (⟨#[]⟩ : ByteArray), .string (⟨#[]⟩ : ByteArray), .slice none 0 0]) (t := 25) ?hr ?_; (case hd => rfl); (case hg => rfl); (case hr => first | (go_simp; done) | (go_simp; rfl)); intro gb158 hg w55 hbox hb; have n0_ := Aside0.mk (Kd.R_below (by (with_reducible repeat (first | apply Kd.R_alloc | apply Kd.R_drewN | apply Kd.R_drew)); exact HO_5.out) hb); have n1_ := Aside0.mk (Kd.V_below (Kd.V_elderB (by (with_reducible repeat (first | apply Kd.V_alloc | apply Kd.V_drewN | apply Kd.V_drew)); exact HO_120003.out) gb158 (Nat.le_of_eq hg.symm)) hb); have n2_ := Aside0.mk (Kd.V_below (Kd.V_elderB (by (with_reducible repeat (first | apply Kd.V_alloc | apply Kd.V_drewN | apply Kd.V_drew)); exact HO_143003.out) gb158 (Nat.le_of_eq hg.symm)) hb); have n3_ := Aside0.mk (Kd.R_below (by (with_reducible repeat (first | apply Kd.R_alloc | apply Kd.R_drewN | apply Kd.R_drew)); exact HO156.out) hb); have n4_ := Aside0.mk (blk_below (g := gb119) (o := .cells #[.string x120000_l1, .string x120001_l1, .string x120002_l1, .slice Ao22 x120003_l1.length co22] 25 (0, 0)) (by (with_reducible repeat (first | refine blk_drewN ?_ _ | refine blk_drew ?_ | refine blk_alloc ?_ _)); exact BK119.out) hb); have n5_ := Aside0.mk (blk_below (g := gb142) (o := .cells #[.string t135, .string t136, .string t137, .slice Ao27 t138.length co27] 25 (0, 0)) (by (with_reducible repeat (first | refine blk_drewN ?_ _ | refine blk_drew ?_ | refine blk_alloc ?_ _)); exact BK142.out) hb); have n6_ := Aside0.mk (below_step (by repeat (first | (with_reducible first | exact HB.out | apply below_alloc | apply pw_below_drewN | apply below_drew1 | refine below_set ?_ GE119.out | refine below_set ?_ GE142.out) | exact HB.out)) hb); have n7_ := Aside0.mk (hbox); have n8_ := Aside0.mk ((by rw [hg]; exact (below_size (by repeat (first | (with_reducible first | exact HB.out | apply below_alloc | apply pw_below_drewN | apply below_drew1 | refine below_set ?_ GE119.out | refine below_set ?_ GE142.out) | exact HB.out))) : w.heap.size ≤ gb158)); have n9_ := Aside0.mk ((by rw [hg]; exact (below_size (by repeat (first | (with_reducible first | exact HB.out | apply below_alloc | apply pw_below_drewN | apply below_drew1 | refine below_set ?_ GE119.out | refine below_set ?_ GE142.out) | exact HB.out))) : w.heap.size ≤ gb158)); have n10_ := Aside0.mk ((by rw [hg]; exact Nat.ne_of_lt (blk_lt (g := gb119) (o := .cells #[.string x120000_l1, .string x120001_l1, .string x120002_l1, .slice Ao22 x120003_l1.length co22] 25 (0, 0)) (by (with_reducible repeat (first | refine blk_drewN ?_ _ | refine blk_drew ?_ | refine blk_alloc ?_ _)); exact BK119.out)) : gb119 ≠ gb158)); have n11_ := Aside0.mk ((by rw [hg]; exact Nat.ne_of_gt (blk_lt (g := gb119) (o := .cells #[.string x120000_l1, .string x120001_l1, .string x120002_l1, .slice Ao22 x120003_l1.length co22] 25 (0, 0)) (by (with_reducible repeat (first | refine blk_drewN ?_ _ | refine blk_drew ?_ | refine blk_alloc ?_ _)); exact BK119.out)) : gb158 ≠ gb119)); have n12_ := Aside0.mk ((by rw [hg]; exact Nat.ne_of_lt (blk_lt (g := gb142) (o := .cells #[.string t135, .string t136, .string t137, .slice Ao27 t138.length co27] 25 (0, 0)) (by (with_reducible repeat (first | refine blk_drewN ?_ _ | refine blk_drew ?_ | refine blk_alloc ?_ _)); exact BK142.out)) : gb142 ≠ gb158)); have n13_ := Aside0.mk ((by rw [hg]; exact Nat.ne_of_gt (blk_lt (g := gb142) (o := .cells #[.string t135, .string t136, .string t137, .slice Ao27 t138.length co27] 25 (0, 0)) (by (with_reducible repeat (first | refine blk_drewN ?_ _ | refine blk_drew ?_ | refine blk_alloc ?_ _)); exact BK142.out)) : gb158 ≠ gb142)); clear HO_5; clear HO_120003; clear HO_143003; clear HO156; clear BK119; clear BK142; clear HB; have HO_5 := n0_; have HO_120003 := n1_; have HO_143003 := n2_; have HO156 := n3_; have BK119 := n4_; have BK142 := n5_; have HB := n6_; have BK158 := n7_; have GW158 := n8_; have GE158 := n9_; have NB119_158 := n10_; have NB158_119 := n11_; have NB142_158 := n12_; have NB158_142 := n13_; clear n0_ n1_ n2_ n3_ n4_ n5_ n6_ n7_ n8_ n9_ n10_ n11_ n12_ n13_; clear hb hbox hg; have hnb56 := NB158_119.out; have hnc56 := NB119_158.out; have hnb57 := NB158_142.out; have hnc57 := NB142_158.out; have hcz58_0 : w55.cell? ⟨gb158, 0, none⟩ = some (.string (⟨#[]⟩ : ByteArray)) := (blk_cell BK158.out 0).trans rfl; have hcz58_1 : w55.cell? ⟨gb158, 1, none⟩ = some (.string (⟨#[]⟩ : ByteArray)) := (blk_cell BK158.out 1).trans rfl; have hcz58_2 : w55.cell? ⟨gb158, 2, none⟩ = some (.string (⟨#[]⟩ : ByteArray)) := (blk_cell BK158.out 2).trans rfl; have hcz58_3 : w55.cell? ⟨gb158, 3, none⟩ = some (.slice none 0 0) := (blk_cell BK158.out 3).trans rfl; have hfz58_0 := blk_frozen BK158.out 0; have hfz58_1 := blk_frozen BK158.out 1; have hfz58_2 := blk_frozen BK158.out 2; have hfz58_3 := blk_frozen BK158.out 3; obtain ⟨Ao59, co59, eo59⟩ := Kd.R_slice HO156.out; subst eo59))
                        have n0_ : Aside0 (Kd.R Kd.string 9 ((((w55.setCell ⟨gb158, 0, none⟩ (.string t151)).setCell ⟨gb158, 1, none⟩ (.string t152)).setCell ⟨gb158, 2, none⟩ (.string t153)).setCell ⟨gb158, 3, none⟩ (.slice Ao59 t154.length co59)) w.heap.size (fun k_ => some k_ ≠ (.slice Ao59 t154.length co59 : Value).ownBlock) (.slice Ao17 t121.length co17) t121) := ⟨by (with_reducible repeat (first | apply Kd.R_alloc | apply Kd.R_drewN | apply Kd.R_drew)); exact Kd.R_mono (Kd.R_far (p := ⟨gb158, 3, none⟩) (Kd.R_far (p := ⟨gb158, 2, none⟩) (Kd.R_far (p := ⟨gb158, 1, none⟩) (Kd.R_far (p := ⟨gb158, 0, none⟩) (Kd.R_types HO_5.out BK158.out (by decide)) (fun _ hk => hk.2) (.string t151)) (fun _ hk => hk.2) (.string t152)) (fun _ hk => hk.2) (.string t153)) (fun _ hk => hk.2) (.slice Ao59 t154.length co59)) (fun _ hk => hk.1.2)⟩
                        have n1_ : Aside0 (Kd.V Kd.string 9 ((((w55.setCell ⟨gb158, 0, none⟩ (.string t151)).setCell ⟨gb158, 1, none⟩ (.string t152)).setCell ⟨gb158, 2, none⟩ (.string t153)).setCell ⟨gb158, 3, none⟩ (.slice Ao59 t154.length co59)) w.heap.size (fun k_ => some k_ ≠ (.slice Ao17 t121.length co17 : Value).ownBlock ∧ some k_ ≠ (.slice Ao59 t154.length co59 : Value).ownBlock ∧ k_ ≠ gb119 ∧ k_ ≠ gb142 ∧ k_ ≠ gb158) (.slice Ao22 x120003_l1.length co22) x120003_l1) := ⟨by (with_reducible repeat (first | apply Kd.V_alloc | apply Kd.V_drewN | apply Kd.V_drew)); exact Kd.V_mono (Kd.V_far (p := ⟨gb158, 3, none⟩) (Kd.V_far (p := ⟨gb158, 2, none⟩) (Kd.V_far (p := ⟨gb158, 1, none⟩) (Kd.V_far (p := ⟨gb158, 0, none⟩) (Kd.V_mono HO_120003.out (fun k_ hk => (⟨hk, hk.2⟩ : _ ∧ k_ ≠ gb158))) (fun _ hk => hk.2) (.string t151)) (fun _ hk => hk.2) (.string t152)) (fun _ hk => hk.2) (.string t153)) (fun _ hk => hk.2) (.slice Ao59 t154.length co59)) (fun _ hk => ⟨hk.1.1.1.1, ⟨hk.1.1.2, ⟨hk.1.1.1.2.1, ⟨hk.1.1.1.2.2, hk.1.2⟩⟩⟩⟩)⟩
                        have n2_ : Aside0 (Kd.V Kd.string 9 ((((w55.setCell ⟨gb158, 0, none⟩ (.string t151)).setCell ⟨gb158, 1, none⟩ (.string t152)).setCell ⟨gb158, 2, none⟩ (.string t153)).setCell ⟨gb158, 3, none⟩ (.slice Ao59 t154.length co59)) w.heap.size (fun k_ => some k_ ≠ (.slice Ao17 t121.length co17 : Value).ownBlock ∧ some k_ ≠ (.slice Ao59 t154.length co59 : Value).ownBlock ∧ k_ ≠ gb119 ∧ k_ ≠ gb142 ∧ k_ ≠ gb158) (.slice Ao27 t138.length co27) t138) := ⟨by (with_reducible repeat (first | apply Kd.V_alloc | apply Kd.V_drewN | apply Kd.V_drew)); exact Kd.V_mono (Kd.V_far (p := ⟨gb158, 3, none⟩) (Kd.V_far (p := ⟨gb158, 2, none⟩) (Kd.V_far (p := ⟨gb158, 1, none⟩) (Kd.V_far (p := ⟨gb158, 0, none⟩) (Kd.V_mono HO_143003.out (fun k_ hk => (⟨hk, hk.2⟩ : _ ∧ k_ ≠ gb158))) (fun _ hk => hk.2) (.string t151)) (fun _ hk => hk.2) (.string t152)) (fun _ hk => hk.2) (.string t153)) (fun _ hk => hk.2) (.slice Ao59 t154.length co59)) (fun _ hk => ⟨hk.1.1.1.1, ⟨hk.1.1.2, ⟨hk.1.1.1.2.1, ⟨hk.1.1.1.2.2, hk.1.2⟩⟩⟩⟩)⟩
                        have n3_ : Aside0 (Kd.R Kd.string 9 ((((w55.setCell ⟨gb158, 0, none⟩ (.string t151)).setCell ⟨gb158, 1, none⟩ (.string t152)).setCell ⟨gb158, 2, none⟩ (.string t153)).setCell ⟨gb158, 3, none⟩ (.slice Ao59 t154.length co59)) w.heap.size (fun k_ => some k_ ≠ (.slice Ao17 t121.length co17 : Value).ownBlock) (.slice Ao59 t154.length co59) t154) := ⟨by (with_reducible repeat (first | apply Kd.R_alloc | apply Kd.R_drewN | apply Kd.R_drew)); exact Kd.R_mono (Kd.R_far (p := ⟨gb158, 3, none⟩) (Kd.R_far (p := ⟨gb158, 2, none⟩) (Kd.R_far (p := ⟨gb158, 1, none⟩) (Kd.R_far (p := ⟨gb158, 0, none⟩) (Kd.R_types HO156.out BK158.out (by decide)) (fun _ hk => hk.2) (.string t151)) (fun _ hk => hk.2) (.string t152)) (fun _ hk => hk.2) (.string t153)) (fun _ hk => hk.2) (.slice Ao59 t154.length co59)) (fun _ hk => hk.1.2)⟩
                        have n4_ : Aside0 (((((w55.setCell ⟨gb158, 0, none⟩ (.string t151)).setCell ⟨gb158, 1, none⟩ (.string t152)).setCell ⟨gb158, 2, none⟩ (.string t153)).setCell ⟨gb158, 3, none⟩ (.slice Ao59 t154.length co59)).heap[gb119]? = some (.cells #[.string x120000_l1, .string x120001_l1, .string x120002_l1, .slice Ao22 x120003_l1.length co22] 25 (0, 0))) := ⟨by (with_reducible repeat (first | refine blk_drewN ?_ _ | refine blk_drew ?_ | refine blk_alloc ?_ _)); refine blk_far ?_ NB119_158.out _; (with_reducible repeat (first | refine blk_drewN ?_ _ | refine blk_drew ?_ | refine blk_alloc ?_ _)); refine blk_far ?_ NB119_158.out _; (with_reducible repeat (first | refine blk_drewN ?_ _ | refine blk_drew ?_ | refine blk_alloc ?_ _)); refine blk_far ?_ NB119_158.out _; (with_reducible repeat (first | refine blk_drewN ?_ _ | refine blk_drew ?_ | refine blk_alloc ?_ _)); refine blk_far ?_ NB119_158.out _; (with_reducible repeat (first | refine blk_drewN ?_ _ | refine blk_drew ?_ | refine blk_alloc ?_ _)); exact BK119.out⟩
                        have n5_ : Aside0 (((((w55.setCell ⟨gb158, 0, none⟩ (.string t151)).setCell ⟨gb158, 1, none⟩ (.string t152)).setCell ⟨gb158, 2, none⟩ (.string t153)).setCell ⟨gb158, 3, none⟩ (.slice Ao59 t154.length co59)).heap[gb142]? = some (.cells #[.string t135, .string t136, .string t137, .slice Ao27 t138.length co27] 25 (0, 0))) := ⟨by (with_reducible repeat (first | refine blk_drewN ?_ _ | refine blk_drew ?_ | refine blk_alloc ?_ _)); refine blk_far ?_ NB142_158.out _; (with_reducible repeat (first | refine blk_drewN ?_ _ | refine blk_drew ?_ | refine blk_alloc ?_ _)); refine blk_far ?_ NB142_158.out _; (with_reducible repeat (first | refine blk_drewN ?_ _ | refine blk_drew ?_ | refine blk_alloc ?_ _)); refine blk_far ?_ NB142_158.out _; (with_reducible repeat (first | refine blk_drewN ?_ _ | refine blk_drew ?_ | refine blk_alloc ?_ _)); refine blk_far ?_ NB142_158.out _; (with_reducible repeat (first | refine blk_drewN ?_ _ | refine blk_drew ?_ | refine blk_alloc ?_ _)); exact BK142.out⟩
                        have n6_ : Aside0 (((((w55.setCell ⟨gb158, 0, none⟩ (.string t151)).setCell ⟨gb158, 1, none⟩ (.string t152)).setCell ⟨gb158, 2, none⟩ (.string t153)).setCell ⟨gb158, 3, none⟩ (.slice Ao59 t154.length co59)).heap[gb158]? = some (.cells #[.string t151, .string t152, .string t153, .slice Ao59 t154.length co59] 25 (0, 0))) := ⟨by (with_reducible repeat (first | refine blk_drewN ?_ _ | refine blk_drew ?_ | refine blk_alloc ?_ _)); refine blk_put (cs := #[.string t151, .string t152, .string t153, .slice none 0 0]) ?_ 3 _ rfl; (with_reducible repeat (first | refine blk_drewN ?_ _ | refine blk_drew ?_ | refine blk_alloc ?_ _)); refine blk_put (cs := #[.string t151, .string t152, .string (⟨#[]⟩ : ByteArray), .slice none 0 0]) ?_ 2 _ rfl; (with_reducible repeat (first | refine blk_drewN ?_ _ | refine blk_drew ?_ | refine blk_alloc ?_ _)); refine blk_put (cs := #[.string t151, .string (⟨#[]⟩ : ByteArray), .string (⟨#[]⟩ : ByteArray), .slice none 0 0]) ?_ 1 _ rfl; (with_reducible repeat (first | refine blk_drewN ?_ _ | refine blk_drew ?_ | refine blk_alloc ?_ _)); refine blk_put (cs := #[.string (⟨#[]⟩ : ByteArray), .string (⟨#[]⟩ : ByteArray), .string (⟨#[]⟩ : ByteArray), .slice none 0 0]) ?_ 0 _ rfl; (with_reducible repeat (first | refine blk_drewN ?_ _ | refine blk_drew ?_ | refine blk_alloc ?_ _)); exact BK158.out⟩
                        have n7_ : Aside0 (Below w.heap.size w ((((w55.setCell ⟨gb158, 0, none⟩ (.string t151)).setCell ⟨gb158, 1, none⟩ (.string t152)).setCell ⟨gb158, 2, none⟩ (.string t153)).setCell ⟨gb158, 3, none⟩ (.slice Ao59 t154.length co59))) := ⟨by repeat (first | (with_reducible first | exact HB.out | apply below_alloc | apply pw_below_drewN | apply below_drew1 | refine below_set ?_ GE119.out | refine below_set ?_ GE142.out | refine below_set ?_ GE158.out) | exact HB.out)⟩
                        (try clear HO_5)
                        (try clear HO_120003)
                        (try clear HO_143003)
                        (try clear HO156)
                        (try clear BK119)
                        (try clear BK142)
                        (try clear BK158)
                        (try clear HB)
                        generalize ((((w55.setCell ⟨gb158, 0, none⟩ (.string t151)).setCell ⟨gb158, 1, none⟩ (.string t152)).setCell ⟨gb158, 2, none⟩ (.string t153)).setCell ⟨gb158, 3, none⟩ (.slice Ao59 t154.length co59)) = w60 at n0_ n1_ n2_ n3_ n4_ n5_ n6_ n7_ ⊢
                        have HO_5 := n0_
                        have HO_120003 := n1_
                        have HO_143003 := n2_
                        have HO156 := n3_
                        have BK119 := n4_
                        have BK142 := n5_
                        have BK158 := n6_
                        have HB := n7_
                        clear n0_ n1_ n2_ n3_ n4_ n5_ n6_ n7_
                        have n0_ := Aside0.mk (Kd.R_drew HO_5.out)
                        have n1_ := Aside0.mk (Kd.V_drew HO_120003.out)
                        have n2_ := Aside0.mk (Kd.V_drew HO_143003.out)
                        have n3_ := Aside0.mk (Kd.R_drew HO156.out)
                        have n4_ := Aside0.mk (blk_drew BK119.out)
                        have n5_ := Aside0.mk (blk_drew BK142.out)
                        have n6_ := Aside0.mk (blk_drew BK158.out)
                        have n7_ := Aside0.mk (below_drew1 HB.out)
                        clear HO_5
                        clear HO_120003
                        clear HO_143003
                        clear HO156
                        clear BK119
                        clear BK142
                        clear BK158
                        clear HB
                        have HO_5 := n0_
                        have HO_120003 := n1_
                        have HO_143003 := n2_
                        have HO156 := n3_
                        have BK119 := n4_
                        have BK142 := n5_
                        have BK158 := n6_
                        have HB := n7_
                        clear n0_ n1_ n2_ n3_ n4_ n5_ n6_ n7_
                        refine start_ (n := 9) (S := fun w' => w'.cell? ⟨gb158, 0, none⟩ = some (.string t151) ∧ w'.cell? ⟨gb158, 1, none⟩ = some (.string t152) ∧ w'.cell? ⟨gb158, 2, none⟩ = some (.string t153) ∧ w'.cell? ⟨gb158, 3, none⟩ = some (.slice Ao59 t154.length co59) ∧ w'.cell? ⟨gb142, 0, none⟩ = some (.string t135) ∧ w'.cell? ⟨gb142, 1, none⟩ = some (.string t136) ∧ w'.cell? ⟨gb142, 2, none⟩ = some (.string t137) ∧ w'.cell? ⟨gb142, 3, none⟩ = some (.slice Ao27 t138.length co27)) (ds := []) #[false, false, false, false, false, false, false, false, false] (by kernel_rfl) rfl rfl ⟨(blk_cell BK158.out 0).trans rfl, (blk_cell BK158.out 1).trans rfl, (blk_cell BK158.out 2).trans rfl, (blk_cell BK158.out 3).trans rfl, (blk_cell BK142.out 0).trans rfl, (blk_cell BK142.out 1).trans rfl, (blk_cell BK142.out 2).trans rfl, (blk_cell BK142.out 3).trans rfl⟩ (fun hHeld => ?_); refine with_tabW polyglotlaw03_TagLess.tab16 polyglotlaw03_TagLess.bits16 (fun HT_ HW_ => ?_)
                        generalize w60.drew = w61 at HO_5 HO_120003 HO_143003 HO156 BK119 BK142 BK158 HB hHeld ⊢
                        refine pure_ (i := 0) (N := some 71) (v := ?_) (a' := ?_) #[true, false, false, false, false, false, false, false, false] rfl rfl (any_of HT_.out (by kernel_rfl)) (fun _ _ _ h => h) (Or.inl ⟨by rfl, ?_⟩) ?_ ?_
                        rotate_left
                        · intro w'
                          go_simp
                          with_reducible rfl
                        rotate_left
                        · simp only [Act.put, List.setIfInBounds_toArray, List.set_cons_zero, List.set_cons_succ, i64_w, i32_w]
                          rfl
                        refine pure_ (i := 1) (N := some 72) (v := ?_) (a' := ?_) #[true, true, false, false, false, false, false, false, false] rfl rfl (any_of HT_.out (by kernel_rfl)) (fun _ _ _ h => h) (Or.inl ⟨by rfl, ?_⟩) ?_ ?_
                        rotate_left
                        · intro w'
                          go_simp
                          with_reducible rfl
                        rotate_left
                        · simp only [Act.put, List.setIfInBounds_toArray, List.set_cons_zero, List.set_cons_succ, i64_w, i32_w]
                          rfl
                        refine pure_ (i := 2) (N := some 73) (v := ?_) (a' := ?_) #[true, true, true, false, false, false, false, false, false] rfl rfl (any_of HT_.out (by kernel_rfl)) (fun _ _ _ h => h) (Or.inl ⟨by rfl, ?_⟩) ?_ ?_
                        rotate_left
                        · intro w'
                          go_simp
                          with_reducible rfl
                        rotate_left
                        · simp only [Act.put, List.setIfInBounds_toArray, List.set_cons_zero, List.set_cons_succ, i64_w, i32_w]
                          rfl
                        refine take_ (i := 3) (N := some 74) (v := ?_) (a' := ?_) #[true, true, true, true, false, false, false, false, false] rfl rfl (take_ofW HT_.out HW_.out (by kernel_rfl)) (fun _ _ _ h => h) (Or.inl ⟨by rfl, ?_⟩) hHeld ?_ ?_
                        rotate_left
                        · rintro w' ⟨s0, s1, s2, s3, s4, s5, s6, s7⟩
                          go_simp
                          with_reducible rfl
                        rotate_left
                        · simp only [Act.put, List.setIfInBounds_toArray, List.set_cons_zero, List.set_cons_succ, i64_w, i32_w]
                          rfl
                        refine take_ (i := 5) (N := some 76) (v := ?_) (a' := ?_) #[true, true, true, true, false, true, false, false, false] rfl rfl (take_ofW HT_.out HW_.out (by kernel_rfl)) (fun _ _ _ h => h) (Or.inl ⟨by rfl, ?_⟩) hHeld ?_ ?_
                        rotate_left
                        · rintro w' ⟨s0, s1, s2, s3, s4, s5, s6, s7⟩
                          go_simp
                          with_reducible rfl
                        rotate_left
                        · simp only [Act.put, List.setIfInBounds_toArray, List.set_cons_zero, List.set_cons_succ, i64_w, i32_w]
                          rfl
                        refine one_ (i := 4) (N := some 75) #[true, true, true, true, true, true, false, false, false] rfl rfl (one_of HT_.out (by kernel_rfl)) (by decide) (fun K hK => ?_)
                        refine goes_ Tryd.func17 (by kernel_rfl) rfl #[.agg #[.string t151, .string t152, .string t153, .slice Ao59 t154.length co59]] (by rfl) rfl rfl (by (try simp only [List.map_toArray, List.map_cons, List.map_nil]); first | done | rfl | (simp only [List.length_drop, List.length_take]; rfl)) ?_
                        with_reducible refine (tag_Str.calls t151 t152 t153 _ _ t154 t159 _ ?side1 ?side2 A48.out).mono ?_
                        (case side1 => repeat (first | exact (Kd.R_reads' HO156.out).2.2 | (with_reducible refine Kd.C_alloc ?_ _) | (with_reducible refine Kd.C_drewN ?_ _) | (with_reducible refine Kd.C_drew ?_)))
                        (case side2 => exact (Kd.R_reads' HO156.out).2.1)
                        rintro e w62 ⟨rfl, hb⟩
                        refine ⟨_, rfl, ?_⟩
                        have n0_ := Aside0.mk (Kd.R_below (by (with_reducible repeat (first | apply Kd.R_alloc | apply Kd.R_drewN | apply Kd.R_drew)); exact HO_5.out) hb)
                        have n1_ := Aside0.mk (Kd.V_below (by (with_reducible repeat (first | apply Kd.V_alloc | apply Kd.V_drewN | apply Kd.V_drew)); exact HO_120003.out) hb)
                        have n2_ := Aside0.mk (Kd.V_below (by (with_reducible repeat (first | apply Kd.V_alloc | apply Kd.V_drewN | apply Kd.V_drew)); exact HO_143003.out) hb)
                        have n3_ := Aside0.mk (Kd.R_below (by (with_reducible repeat (first | apply Kd.R_alloc | apply Kd.R_drewN | apply Kd.R_drew)); exact HO156.out) hb)
                        have n4_ := Aside0.mk (blk_below (g := gb119) (o := .cells #[.string x120000_l1, .string x120001_l1, .string x120002_l1, .slice Ao22 x120003_l1.length co22] 25 (0, 0)) (by (with_reducible repeat (first | refine blk_drewN ?_ _ | refine blk_drew ?_ | refine blk_alloc ?_ _)); exact BK119.out) hb)
                        have n5_ := Aside0.mk (blk_below (g := gb142) (o := .cells #[.string t135, .string t136, .string t137, .slice Ao27 t138.length co27] 25 (0, 0)) (by (with_reducible repeat (first | refine blk_drewN ?_ _ | refine blk_drew ?_ | refine blk_alloc ?_ _)); exact BK142.out) hb)
                        have n6_ := Aside0.mk (blk_below (g := gb158) (o := .cells #[.string t151, .string t152, .string t153, .slice Ao59 t154.length co59] 25 (0, 0)) (by (with_reducible repeat (first | refine blk_drewN ?_ _ | refine blk_drew ?_ | refine blk_alloc ?_ _)); exact BK158.out) hb)
                        have n7_ := Aside0.mk (below_step (by repeat (first | (with_reducible first | exact HB.out | apply below_alloc | apply pw_below_drewN | apply below_drew1 | refine below_set ?_ GE119.out | refine below_set ?_ GE142.out | refine below_set ?_ GE158.out) | exact HB.out)) hb)
                        clear HO_5
                        clear HO_120003
                        clear HO_143003
                        clear HO156
                        clear BK119
                        clear BK142
                        clear BK158
                        clear HB
                        have HO_5 := n0_
                        have HO_120003 := n1_
                        have HO_143003 := n2_
                        have HO156 := n3_
                        have BK119 := n4_
                        have BK142 := n5_
                        have BK158 := n6_
                        have HB := n7_
                        clear n0_ n1_ n2_ n3_ n4_ n5_ n6_ n7_
                        (try clear hb)
                        (try clear hb2)
                        (try clear hk)
                        (try clear hi)
                        refine hK.out _ _ ⟨(blk_cell BK158.out 0).trans rfl, (blk_cell BK158.out 1).trans rfl, (blk_cell BK158.out 2).trans rfl, (blk_cell BK158.out 3).trans rfl, (blk_cell BK142.out 0).trans rfl, (blk_cell BK142.out 1).trans rfl, (blk_cell BK142.out 2).trans rfl, (blk_cell BK142.out 3).trans rfl⟩ (fun hHeld => ?_)
                        clear hK K
                        refine norm_ (a' := ?_) ?_ ?_
                        rotate_left
                        · show Act.put _ (some 75) _ = _
                          simp only [Act.put, List.setIfInBounds_toArray, List.set_cons_zero, List.set_cons_succ, i64_w, i32_w]
                          rfl
                        refine one_ (i := 6) (N := some 77) #[true, true, true, true, true, true, true, false, false] rfl rfl (one_of HT_.out (by kernel_rfl)) (by decide) (fun K hK => ?_)
                        refine goes_ Tryd.func17 (by kernel_rfl) rfl #[.agg #[.string t135, .string t136, .string t137, .slice Ao27 t138.length co27]] (by rfl) rfl rfl (by (try simp only [List.map_toArray, List.map_cons, List.map_nil]); first | done | rfl | (simp only [List.length_drop, List.length_take]; rfl)) ?_
                        with_reducible refine (tag_Str.calls t135 t136 t137 _ _ t138 t160 _ ?side1 ?side2 A49.out).mono ?_
                        (case side1 => repeat (first | exact (Kd.V_reads' HO_143003.out).2.2 | (with_reducible refine Kd.C_alloc ?_ _) | (with_reducible refine Kd.C_drewN ?_ _) | (with_reducible refine Kd.C_drew ?_)))
                        (case side2 => exact (Kd.V_reads' HO_143003.out).2.1)
                        rintro e w63 ⟨rfl, hb⟩
                        refine ⟨_, rfl, ?_⟩
                        have n0_ := Aside0.mk (Kd.R_below (by (with_reducible repeat (first | apply Kd.R_alloc | apply Kd.R_drewN | apply Kd.R_drew)); exact HO_5.out) hb)
                        have n1_ := Aside0.mk (Kd.V_below (by (with_reducible repeat (first | apply Kd.V_alloc | apply Kd.V_drewN | apply Kd.V_drew)); exact HO_120003.out) hb)
                        have n2_ := Aside0.mk (Kd.V_below (by (with_reducible repeat (first | apply Kd.V_alloc | apply Kd.V_drewN | apply Kd.V_drew)); exact HO_143003.out) hb)
                        have n3_ := Aside0.mk (Kd.R_below (by (with_reducible repeat (first | apply Kd.R_alloc | apply Kd.R_drewN | apply Kd.R_drew)); exact HO156.out) hb)
                        have n4_ := Aside0.mk (blk_below (g := gb119) (o := .cells #[.string x120000_l1, .string x120001_l1, .string x120002_l1, .slice Ao22 x120003_l1.length co22] 25 (0, 0)) (by (with_reducible repeat (first | refine blk_drewN ?_ _ | refine blk_drew ?_ | refine blk_alloc ?_ _)); exact BK119.out) hb)
                        have n5_ := Aside0.mk (blk_below (g := gb142) (o := .cells #[.string t135, .string t136, .string t137, .slice Ao27 t138.length co27] 25 (0, 0)) (by (with_reducible repeat (first | refine blk_drewN ?_ _ | refine blk_drew ?_ | refine blk_alloc ?_ _)); exact BK142.out) hb)
                        have n6_ := Aside0.mk (blk_below (g := gb158) (o := .cells #[.string t151, .string t152, .string t153, .slice Ao59 t154.length co59] 25 (0, 0)) (by (with_reducible repeat (first | refine blk_drewN ?_ _ | refine blk_drew ?_ | refine blk_alloc ?_ _)); exact BK158.out) hb)
                        have n7_ := Aside0.mk (below_step (by repeat (first | (with_reducible first | exact HB.out | apply below_alloc | apply pw_below_drewN | apply below_drew1 | refine below_set ?_ GE119.out | refine below_set ?_ GE142.out | refine below_set ?_ GE158.out) | exact HB.out)) hb)
                        clear HO_5
                        clear HO_120003
                        clear HO_143003
                        clear HO156
                        clear BK119
                        clear BK142
                        clear BK158
                        clear HB
                        have HO_5 := n0_
                        have HO_120003 := n1_
                        have HO_143003 := n2_
                        have HO156 := n3_
                        have BK119 := n4_
                        have BK142 := n5_
                        have BK158 := n6_
                        have HB := n7_
                        clear n0_ n1_ n2_ n3_ n4_ n5_ n6_ n7_
                        (try clear hb)
                        (try clear hb2)
                        (try clear hk)
                        (try clear hi)
                        refine hK.out _ _ ⟨(blk_cell BK158.out 0).trans rfl, (blk_cell BK158.out 1).trans rfl, (blk_cell BK158.out 2).trans rfl, (blk_cell BK158.out 3).trans rfl, (blk_cell BK142.out 0).trans rfl, (blk_cell BK142.out 1).trans rfl, (blk_cell BK142.out 2).trans rfl, (blk_cell BK142.out 3).trans rfl⟩ (fun hHeld => ?_)
                        clear hK K
                        refine norm_ (a' := ?_) ?_ ?_
                        rotate_left
                        · show Act.put _ (some 77) _ = _
                          simp only [Act.put, List.setIfInBounds_toArray, List.set_cons_zero, List.set_cons_succ, i64_w, i32_w]
                          rfl
                        refine pure_ (i := 7) (N := some 78) (v := ?_) (a' := ?_) #[true, true, true, true, true, true, true, true, false] rfl rfl (any_of HT_.out (by kernel_rfl)) (fun _ _ _ h => h) (Or.inl ⟨by rfl, ?_⟩) ?_ ?_
                        rotate_left
                        · intro w'
                          go_simp
                          with_reducible rfl
                        rotate_left
                        · simp only [Act.put, List.setIfInBounds_toArray, List.set_cons_zero, List.set_cons_succ, i64_w, i32_w]
                          rfl
                        refine pure_ (i := 8) (N := some 79) (v := ?_) (a' := ?_) #[true, true, true, true, true, true, true, true, true] rfl rfl (any_of HT_.out (by kernel_rfl)) (fun _ _ _ h => h) (Or.inl ⟨by rfl, ?_⟩) ?_ ?_
                        rotate_left
                        · intro w'
                          go_simp
                          with_reducible rfl
                        rotate_left
                        · simp only [Act.put, List.setIfInBounds_toArray, List.set_cons_zero, List.set_cons_succ, i64_w, i32_w]
                          rfl
                        refine done_ (done_of HT_.out (by kernel_rfl)) ?_
                        have hcz64_0 : w63.cell? ⟨gb142, 0, none⟩ = some (.string t135) := (blk_cell BK142.out 0).trans rfl
                        have hcz64_1 : w63.cell? ⟨gb142, 1, none⟩ = some (.string t136) := (blk_cell BK142.out 1).trans rfl
                        have hcz64_2 : w63.cell? ⟨gb142, 2, none⟩ = some (.string t137) := (blk_cell BK142.out 2).trans rfl
                        have hcz64_3 : w63.cell? ⟨gb142, 3, none⟩ = some (.slice Ao27 t138.length co27) := (blk_cell BK142.out 3).trans rfl
                        have hfz64_0 := blk_frozen BK142.out 0
                        have hfz64_1 := blk_frozen BK142.out 1
                        have hfz64_2 := blk_frozen BK142.out 2
                        have hfz64_3 := blk_frozen BK142.out 3
                        have hcz65_0 : w63.cell? ⟨gb119, 0, none⟩ = some (.string x120000_l1) := (blk_cell BK119.out 0).trans rfl
                        have hcz65_1 : w63.cell? ⟨gb119, 1, none⟩ = some (.string x120001_l1) := (blk_cell BK119.out 1).trans rfl
                        have hcz65_2 : w63.cell? ⟨gb119, 2, none⟩ = some (.string x120002_l1) := (blk_cell BK119.out 2).trans rfl
                        have hcz65_3 : w63.cell? ⟨gb119, 3, none⟩ = some (.slice Ao22 x120003_l1.length co22) := (blk_cell BK119.out 3).trans rfl
                        have hfz65_0 := blk_frozen BK119.out 0
                        have hfz65_1 := blk_frozen BK119.out 1
                        have hfz65_2 := blk_frozen BK119.out 2
                        have hfz65_3 := blk_frozen BK119.out 3
                        try go_wp2
                        go_roundg kj19
                        case measure => have := HK1.out; have := HJ19.out; omega
                        case rel => exact ⟨(wrap64 (x6_l1 - 1)), (t135), (t136), (t137), (t138), (.slice Ao27 t138.length co27), (by first | rfl | (simp; done) | (simp [*]; done)), H', ⟨by have := HK1.out; have := HJ19.out; omega⟩, ⟨by (with_reducible repeat (first | apply Kd.R_alloc | apply Kd.R_drewN | apply Kd.R_drew)); exact Kd.R_mono (Kd.R_far (p := ⟨gb119, 3, none⟩) (Kd.R_far (p := ⟨gb119, 2, none⟩) (Kd.R_far (p := ⟨gb119, 1, none⟩) (Kd.R_far (p := ⟨gb119, 0, none⟩) (Kd.R_types HO_5.out BK119.out (by decide)) (fun _ hk => hk.2) (.string t135)) (fun _ hk => hk.2) (.string t136)) (fun _ hk => hk.2) (.string t137)) (fun _ hk => hk.2) (.slice Ao27 t138.length co27)) (fun _ hk => trivial)⟩, ⟨by (with_reducible repeat (first | apply Kd.V_alloc | apply Kd.V_drewN | apply Kd.V_drew)); exact Kd.V_mono (Kd.V_far (p := ⟨gb119, 3, none⟩) (Kd.V_far (p := ⟨gb119, 2, none⟩) (Kd.V_far (p := ⟨gb119, 1, none⟩) (Kd.V_far (p := ⟨gb119, 0, none⟩) (Kd.V_mono HO_143003.out (fun k_ hk => (⟨hk, hk.2.2.1⟩ : _ ∧ k_ ≠ gb119))) (fun _ hk => hk.2) (.string t135)) (fun _ hk => hk.2) (.string t136)) (fun _ hk => hk.2) (.string t137)) (fun _ hk => hk.2) (.slice Ao27 t138.length co27)) (fun _ hk => ⟨hk.1.1, hk.1.2.2.1⟩)⟩, ⟨by (with_reducible repeat (first | refine blk_drewN ?_ _ | refine blk_drew ?_ | refine blk_alloc ?_ _)); refine blk_put (cs := #[.string t135, .string t136, .string t137, .slice Ao22 x120003_l1.length co22]) ?_ 3 _ rfl; (with_reducible repeat (first | refine blk_drewN ?_ _ | refine blk_drew ?_ | refine blk_alloc ?_ _)); refine blk_put (cs := #[.string t135, .string t136, .string x120002_l1, .slice Ao22 x120003_l1.length co22]) ?_ 2 _ rfl; (with_reducible repeat (first | refine blk_drewN ?_ _ | refine blk_drew ?_ | refine blk_alloc ?_ _)); refine blk_put (cs := #[.string t135, .string x120001_l1, .string x120002_l1, .slice Ao22 x120003_l1.length co22]) ?_ 1 _ rfl; (with_reducible repeat (first | refine blk_drewN ?_ _ | refine blk_drew ?_ | refine blk_alloc ?_ _)); refine blk_put (cs := #[.string x120000_l1, .string x120001_l1, .string x120002_l1, .slice Ao22 x120003_l1.length co22]) ?_ 0 _ rfl; (with_reducible repeat (first | refine blk_drewN ?_ _ | refine blk_drew ?_ | refine blk_alloc ?_ _)); exact BK119.out⟩, ⟨by repeat (first | (with_reducible first | exact HB.out | apply below_alloc | apply pw_below_drewN | apply below_drew1 | refine below_set ?_ GE119.out | refine below_set ?_ GE142.out | refine below_set ?_ GE158.out) | exact HB.out)⟩⟩
                      · rw [if_neg c50] at H
                        have c50b0 : (t159.toList == t160.toList) = false := beq_eq_false_iff_ne.mpr c50
                        have c50b1 : (t159.toList != t160.toList) = true := bne_iff_ne.mpr c50
                        exact absurd ((Option.some.inj H).trans hr_.out) (by decide)
                    · replace c47 := Bool.eq_false_iff.mpr c47
                      subst c47
                      have H1 : (some false) = some r := by rw [if_neg (show ¬ (false = true) by decide)] at H; exact H
                      clear H
                      have H := H1
                      clear H1
                      exact absurd ((Option.some.inj H).trans hr_.out) (by decide)
            · rw [if_neg c18] at H
              have c18b0 : decide (1 < x6_l1) = false := decide_eq_false c18
              clear c18
              replace H := Option.bind_eq_some_iff.mp H
              obtain ⟨⟨t124, t125, t126, t127, t130⟩, A660, H⟩ := H
              replace H : (if t130 = true then (some false) else (if t124.toList = ([] : List UInt8) then ((tag_Str.f x120000_l1 x120001_l1 x120002_l1 x120003_l1).bind fun t132 => (if 0 < (t121.length : Int) then (if t132.toList = (rdOf ByteArray.empty t121 0).toList then (some (x120000_l1.toList == (rdOf ByteArray.empty t121 0).toList)) else (some false)) else (none))) else (some false))) = some r := H
              have A66 := Aside0.mk A660
              clear A660
              by_cases c67 : t130 = true
              · subst c67
                have H1 : (some false) = some r := by rw [if_pos rfl] at H; exact H
                clear H
                have H := H1
                clear H1
                exact absurd ((Option.some.inj H).trans hr_.out) (by decide)
              · replace c67 := Bool.eq_false_iff.mpr c67
                subst c67
                have H1 : (if t124.toList = ([] : List UInt8) then ((tag_Str.f x120000_l1 x120001_l1 x120002_l1 x120003_l1).bind fun t132 => (if 0 < (t121.length : Int) then (if t132.toList = (rdOf ByteArray.empty t121 0).toList then (some (x120000_l1.toList == (rdOf ByteArray.empty t121 0).toList)) else (some false)) else (none))) else (some false)) = some r := by rw [if_neg (show ¬ (false = true) by decide)] at H; exact H
                clear H
                have H := H1
                clear H1
                by_cases c68 : t124.toList = ([] : List UInt8)
                · rw [if_pos c68] at H
                  have c68b0 : (t124.toList == ([] : List UInt8)) = true := beq_iff_eq.mpr c68
                  have c68b1 : (t124.toList != ([] : List UInt8)) = false := bne_eq_false_iff_eq.mpr c68
                  clear c68
                  replace H := Option.bind_eq_some_iff.mp H
                  obtain ⟨t132, A690, H⟩ := H
                  replace H : (if 0 < (t121.length : Int) then (if t132.toList = (rdOf ByteArray.empty t121 0).toList then (some (x120000_l1.toList == (rdOf ByteArray.empty t121 0).toList)) else (some false)) else (none)) = some r := H
                  have A69 := Aside0.mk A690
                  clear A690
                  by_cases c70 : 0 < (t121.length : Int)
                  · rw [if_pos c70] at H
                    have c70b0 : decide (0 < (t121.length : Int)) = true := decide_eq_true c70
                    have c70b1 : decide (0 < t121.length) = true := decide_eq_true (by omega)
                    clear c70
                    by_cases c71 : t132.toList = (rdOf ByteArray.empty t121 0).toList
                    · rw [if_pos c71] at H
                      have c71b0 : (t132.toList == (rdOf ByteArray.empty t121 0).toList) = true := beq_iff_eq.mpr c71
                      have c71b1 : (t132.toList != (rdOf ByteArray.empty t121 0).toList) = false := bne_eq_false_iff_eq.mpr c71
                      clear c71
                      obtain rfl := Option.some.inj H
                      have hcz72_0 : wr.cell? ⟨gb119, 0, none⟩ = some (.string x120000_l1) := (blk_cell BK119.out 0).trans rfl
                      have hcz72_1 : wr.cell? ⟨gb119, 1, none⟩ = some (.string x120001_l1) := (blk_cell BK119.out 1).trans rfl
                      have hcz72_2 : wr.cell? ⟨gb119, 2, none⟩ = some (.string x120002_l1) := (blk_cell BK119.out 2).trans rfl
                      have hcz72_3 : wr.cell? ⟨gb119, 3, none⟩ = some (u120003) := (blk_cell BK119.out 3).trans rfl
                      have hfz72_0 := blk_frozen BK119.out 0
                      have hfz72_1 := blk_frozen BK119.out 1
                      have hfz72_2 := blk_frozen BK119.out 2
                      have hfz72_3 := blk_frozen BK119.out 3
                      obtain ⟨Ao73, co73, eo73⟩ := Kd.V_slice HO_120003.out
                      subst eo73
                      try go_wp2_with (first | ((with_reducible refine gate_callee (f := 20) rfl ?_); refine goesL_ (some 83) rfl rfl Tryd.func20 (by kernel_rfl) rfl #[.agg #[.string x120000_l1, .string x120001_l1, .string x120002_l1, .slice Ao73 x120003_l1.length co73]] rfl (by (try simp only [List.map_toArray, List.map_cons, List.map_nil]); first | done | rfl | (simp only [List.length_drop, List.length_take]; rfl)) ?_; (with_reducible refine (tag_Tag_Less.calls x120000_l1 x120001_l1 x120002_l1 (fun k_ => (some k_ ≠ (.slice Ao17 t121.length co17 : Value).ownBlock ∧ k_ ≠ gb119)) _ _ x120003_l1 t124 t125 t126 t127 false _ ?side1 A66.out).mono ?_); (case side1 => exact HO_120003.out); rintro e w74 ⟨v128, rfl, ho0, hb⟩; refine ⟨_, rfl, ?_⟩; have n0_ := Aside0.mk (Kd.R_below (by (with_reducible repeat (first | apply Kd.R_alloc | apply Kd.R_drewN | apply Kd.R_drew)); exact HO_5.out) hb); have n1_ := Aside0.mk (Kd.V_below (by (with_reducible repeat (first | apply Kd.V_alloc | apply Kd.V_drewN | apply Kd.V_drew)); exact HO_120003.out) hb); have n2_ := Aside0.mk (Kd.V_lower (Kd.V_mono (ok' := fun k_ => some k_ ≠ (.slice Ao17 t121.length co17 : Value).ownBlock ∧ k_ ≠ gb119) ho0 (fun k_ hk_ => ⟨Or.elim hk_ (fun hs_ => hs_.1) (fun hn_ => (Kd.fresh' (Kd.R_lt (by (with_reducible repeat (first | apply Kd.R_alloc | apply Kd.R_drewN | apply Kd.R_drew)); exact HO_5.out)) k_ hn_)), Or.elim hk_ (fun hs_ => hs_.2) (fun hn_ => (Kd.freshB (g := gb119) (o := .cells #[.string x120000_l1, .string x120001_l1, .string x120002_l1, .slice Ao73 x120003_l1.length co73] 25 (0, 0)) (by (with_reducible repeat (first | refine blk_drewN ?_ _ | refine blk_drew ?_ | refine blk_alloc ?_ _)); exact BK119.out) k_ hn_))⟩)) (below_size (by repeat (first | (with_reducible first | exact HB.out | apply below_alloc | apply pw_below_drewN | apply below_drew1 | refine below_set ?_ GE119.out) | exact HB.out)))); have n3_ := Aside0.mk (blk_below (g := gb119) (o := .cells #[.string x120000_l1, .string x120001_l1, .string x120002_l1, .slice Ao73 x120003_l1.length co73] 25 (0, 0)) (by (with_reducible repeat (first | refine blk_drewN ?_ _ | refine blk_drew ?_ | refine blk_alloc ?_ _)); exact BK119.out) hb); have n4_ := Aside0.mk (below_step (by repeat (first | (with_reducible first | exact HB.out | apply below_alloc | apply pw_below_drewN | apply below_drew1 | refine below_set ?_ GE119.out) | exact HB.out)) hb); clear HO_5; clear HO_120003; clear BK119; clear HB; have HO_5 := n0_; have HO_120003 := n1_; have HO129 := n2_; have BK119 := n3_; have HB := n4_; clear n0_ n1_ n2_ n3_ n4_; (try clear hb); (try clear hb2); (try clear hk); (try clear hi); (try clear ho0)) | ((with_reducible refine gate_dst (N := 11) rfl ?_); (try (refine gate_guard (by rfl) ?_; dsimp only)); refine box_event ?hg (N := 11) ?hd (cs := #[.string (⟨#[]⟩ : ByteArray), .string (⟨#[]⟩ : ByteArray), .string (⟨#[]⟩ : ByteArray), .slice none 0 0]) (t := 25) ?hr ?_; (case hd => rfl); (case hg => rfl); (case hr => first | (go_simp; done) | (go_simp; rfl)); intro gb131 hg w75 hbox hb; have n0_ := Aside0.mk (Kd.R_below (by (with_reducible repeat (first | apply Kd.R_alloc | apply Kd.R_drewN | apply Kd.R_drew)); exact HO_5.out) hb); have n1_ := Aside0.mk (Kd.V_below (Kd.V_elderB (by (with_reducible repeat (first | apply Kd.V_alloc | apply Kd.V_drewN | apply Kd.V_drew)); exact HO_120003.out) gb131 (Nat.le_of_eq hg.symm)) hb); have n2_ := Aside0.mk (Kd.V_below (Kd.V_elderB (by (with_reducible repeat (first | apply Kd.V_alloc | apply Kd.V_drewN | apply Kd.V_drew)); exact HO129.out) gb131 (Nat.le_of_eq hg.symm)) hb); have n3_ := Aside0.mk (blk_below (g := gb119) (o := .cells #[.string x120000_l1, .string x120001_l1, .string x120002_l1, .slice Ao73 x120003_l1.length co73] 25 (0, 0)) (by (with_reducible repeat (first | refine blk_drewN ?_ _ | refine blk_drew ?_ | refine blk_alloc ?_ _)); exact BK119.out) hb); have n4_ := Aside0.mk (below_step (by repeat (first | (with_reducible first | exact HB.out | apply below_alloc | apply pw_below_drewN | apply below_drew1 | refine below_set ?_ GE119.out) | exact HB.out)) hb); have n5_ := Aside0.mk (hbox); have n6_ := Aside0.mk ((by rw [hg]; exact (below_size (by repeat (first | (with_reducible first | exact HB.out | apply below_alloc | apply pw_below_drewN | apply below_drew1 | refine below_set ?_ GE119.out) | exact HB.out))) : w.heap.size ≤ gb131)); have n7_ := Aside0.mk ((by rw [hg]; exact (below_size (by repeat (first | (with_reducible first | exact HB.out | apply below_alloc | apply pw_below_drewN | apply below_drew1 | refine below_set ?_ GE119.out) | exact HB.out))) : w.heap.size ≤ gb131)); have n8_ := Aside0.mk ((by rw [hg]; exact Nat.ne_of_lt (blk_lt (g := gb119) (o := .cells #[.string x120000_l1, .string x120001_l1, .string x120002_l1, .slice Ao73 x120003_l1.length co73] 25 (0, 0)) (by (with_reducible repeat (first | refine blk_drewN ?_ _ | refine blk_drew ?_ | refine blk_alloc ?_ _)); exact BK119.out)) : gb119 ≠ gb131)); have n9_ := Aside0.mk ((by rw [hg]; exact Nat.ne_of_gt (blk_lt (g := gb119) (o := .cells #[.string x120000_l1, .string x120001_l1, .string x120002_l1, .slice Ao73 x120003_l1.length co73] 25 (0, 0)) (by (with_reducible repeat (first | refine blk_drewN ?_ _ | refine blk_drew ?_ | refine blk_alloc ?_ _)); exact BK119.out)) : gb131 ≠ gb119)); clear HO_5; clear HO_120003; clear HO129; clear BK119; clear HB; have HO_5 := n0_; have HO_120003 := n1_; have HO129 := n2_; have BK119 := n3_; have HB := n4_; have BK131 := n5_; have GW131 := n6_; have GE131 := n7_; have NB119_131 := n8_; have NB131_119 := n9_; clear n0_ n1_ n2_ n3_ n4_ n5_ n6_ n7_ n8_ n9_; clear hb hbox hg; have hnb76 := NB131_119.out; have hnc76 := NB119_131.out; have hcz77_0 : w75.cell? ⟨gb131, 0, none⟩ = some (.string (⟨#[]⟩ : ByteArray)) := (blk_cell BK131.out 0).trans rfl; have hcz77_1 : w75.cell? ⟨gb131, 1, none⟩ = some (.string (⟨#[]⟩ : ByteArray)) := (blk_cell BK131.out 1).trans rfl; have hcz77_2 : w75.cell? ⟨gb131, 2, none⟩ = some (.string (⟨#[]⟩ : ByteArray)) := (blk_cell BK131.out 2).trans rfl; have hcz77_3 : w75.cell? ⟨gb131, 3, none⟩ = some (.slice none 0 0) := (blk_cell BK131.out 3).trans rfl; have hfz77_0 := blk_frozen BK131.out 0; have hfz77_1 := blk_frozen BK131.out 1; have hfz77_2 := blk_frozen BK131.out 2; have hfz77_3 := blk_frozen BK131.out 3; obtain ⟨Ao78, co78, eo78⟩ := Kd.V_slice HO129.out; subst eo78))
                      have n0_ : Aside0 (Kd.R Kd.string 9 ((((w75.setCell ⟨gb131, 0, none⟩ (.string t124)).setCell ⟨gb131, 1, none⟩ (.string t125)).setCell ⟨gb131, 2, none⟩ (.string t126)).setCell ⟨gb131, 3, none⟩ (.slice Ao78 t127.length co78)) w.heap.size (fun _ => True) (.slice Ao17 t121.length co17) t121) := ⟨by (with_reducible repeat (first | apply Kd.R_alloc | apply Kd.R_drewN | apply Kd.R_drew)); exact Kd.R_mono (Kd.R_far (p := ⟨gb131, 3, none⟩) (Kd.R_far (p := ⟨gb131, 2, none⟩) (Kd.R_far (p := ⟨gb131, 1, none⟩) (Kd.R_far (p := ⟨gb131, 0, none⟩) (Kd.R_types HO_5.out BK131.out (by decide)) (fun _ hk => hk.2) (.string t124)) (fun _ hk => hk.2) (.string t125)) (fun _ hk => hk.2) (.string t126)) (fun _ hk => hk.2) (.slice Ao78 t127.length co78)) (fun _ hk => trivial)⟩
                      have n1_ : Aside0 (Kd.V Kd.string 9 ((((w75.setCell ⟨gb131, 0, none⟩ (.string t124)).setCell ⟨gb131, 1, none⟩ (.string t125)).setCell ⟨gb131, 2, none⟩ (.string t126)).setCell ⟨gb131, 3, none⟩ (.slice Ao78 t127.length co78)) w.heap.size (fun k_ => some k_ ≠ (.slice Ao17 t121.length co17 : Value).ownBlock ∧ k_ ≠ gb119 ∧ k_ ≠ gb131) (.slice Ao73 x120003_l1.length co73) x120003_l1) := ⟨by (with_reducible repeat (first | apply Kd.V_alloc | apply Kd.V_drewN | apply Kd.V_drew)); exact Kd.V_mono (Kd.V_far (p := ⟨gb131, 3, none⟩) (Kd.V_far (p := ⟨gb131, 2, none⟩) (Kd.V_far (p := ⟨gb131, 1, none⟩) (Kd.V_far (p := ⟨gb131, 0, none⟩) (Kd.V_mono HO_120003.out (fun k_ hk => (⟨hk, hk.2⟩ : _ ∧ k_ ≠ gb131))) (fun _ hk => hk.2) (.string t124)) (fun _ hk => hk.2) (.string t125)) (fun _ hk => hk.2) (.string t126)) (fun _ hk => hk.2) (.slice Ao78 t127.length co78)) (fun _ hk => ⟨hk.1.1.1, ⟨hk.1.1.2, hk.1.2⟩⟩)⟩
                      have n2_ : Aside0 (Kd.V Kd.string 9 ((((w75.setCell ⟨gb131, 0, none⟩ (.string t124)).setCell ⟨gb131, 1, none⟩ (.string t125)).setCell ⟨gb131, 2, none⟩ (.string t126)).setCell ⟨gb131, 3, none⟩ (.slice Ao78 t127.length co78)) w.heap.size (fun k_ => some k_ ≠ (.slice Ao17 t121.length co17 : Value).ownBlock ∧ k_ ≠ gb119 ∧ k_ ≠ gb131) (.slice Ao78 t127.length co78) t127) := ⟨by (with_reducible repeat (first | apply Kd.V_alloc | apply Kd.V_drewN | apply Kd.V_drew)); exact Kd.V_mono (Kd.V_far (p := ⟨gb131, 3, none⟩) (Kd.V_far (p := ⟨gb131, 2, none⟩) (Kd.V_far (p := ⟨gb131, 1, none⟩) (Kd.V_far (p := ⟨gb131, 0, none⟩) (Kd.V_mono HO129.out (fun k_ hk => (⟨hk, hk.2⟩ : _ ∧ k_ ≠ gb131))) (fun _ hk => hk.2) (.string t124)) (fun _ hk => hk.2) (.string t125)) (fun _ hk => hk.2) (.string t126)) (fun _ hk => hk.2) (.slice Ao78 t127.length co78)) (fun _ hk => ⟨hk.1.1.1, ⟨hk.1.1.2, hk.1.2⟩⟩)⟩
                      have n3_ : Aside0 (((((w75.setCell ⟨gb131, 0, none⟩ (.string t124)).setCell ⟨gb131, 1, none⟩ (.string t125)).setCell ⟨gb131, 2, none⟩ (.string t126)).setCell ⟨gb131, 3, none⟩ (.slice Ao78 t127.length co78)).heap[gb119]? = some (.cells #[.string x120000_l1, .string x120001_l1, .string x120002_l1, .slice Ao73 x120003_l1.length co73] 25 (0, 0))) := ⟨by (with_reducible repeat (first | refine blk_drewN ?_ _ | refine blk_drew ?_ | refine blk_alloc ?_ _)); refine blk_far ?_ NB119_131.out _; (with_reducible repeat (first | refine blk_drewN ?_ _ | refine blk_drew ?_ | refine blk_alloc ?_ _)); refine blk_far ?_ NB119_131.out _; (with_reducible repeat (first | refine blk_drewN ?_ _ | refine blk_drew ?_ | refine blk_alloc ?_ _)); refine blk_far ?_ NB119_131.out _; (with_reducible repeat (first | refine blk_drewN ?_ _ | refine blk_drew ?_ | refine blk_alloc ?_ _)); refine blk_far ?_ NB119_131.out _; (with_reducible repeat (first | refine blk_drewN ?_ _ | refine blk_drew ?_ | refine blk_alloc ?_ _)); exact BK119.out⟩
                      have n4_ : Aside0 (((((w75.setCell ⟨gb131, 0, none⟩ (.string t124)).setCell ⟨gb131, 1, none⟩ (.string t125)).setCell ⟨gb131, 2, none⟩ (.string t126)).setCell ⟨gb131, 3, none⟩ (.slice Ao78 t127.length co78)).heap[gb131]? = some (.cells #[.string t124, .string t125, .string t126, .slice Ao78 t127.length co78] 25 (0, 0))) := ⟨by (with_reducible repeat (first | refine blk_drewN ?_ _ | refine blk_drew ?_ | refine blk_alloc ?_ _)); refine blk_put (cs := #[.string t124, .string t125, .string t126, .slice none 0 0]) ?_ 3 _ rfl; (with_reducible repeat (first | refine blk_drewN ?_ _ | refine blk_drew ?_ | refine blk_alloc ?_ _)); refine blk_put (cs := #[.string t124, .string t125, .string (⟨#[]⟩ : ByteArray), .slice none 0 0]) ?_ 2 _ rfl; (with_reducible repeat (first | refine blk_drewN ?_ _ | refine blk_drew ?_ | refine blk_alloc ?_ _)); refine blk_put (cs := #[.string t124, .string (⟨#[]⟩ : ByteArray), .string (⟨#[]⟩ : ByteArray), .slice none 0 0]) ?_ 1 _ rfl; (with_reducible repeat (first | refine blk_drewN ?_ _ | refine blk_drew ?_ | refine blk_alloc ?_ _)); refine blk_put (cs := #[.string (⟨#[]⟩ : ByteArray), .string (⟨#[]⟩ : ByteArray), .string (⟨#[]⟩ : ByteArray), .slice none 0 0]) ?_ 0 _ rfl; (with_reducible repeat (first | refine blk_drewN ?_ _ | refine blk_drew ?_ | refine blk_alloc ?_ _)); exact BK131.out⟩
                      have n5_ : Aside0 (Below w.heap.size w ((((w75.setCell ⟨gb131, 0, none⟩ (.string t124)).setCell ⟨gb131, 1, none⟩ (.string t125)).setCell ⟨gb131, 2, none⟩ (.string t126)).setCell ⟨gb131, 3, none⟩ (.slice Ao78 t127.length co78))) := ⟨by repeat (first | (with_reducible first | exact HB.out | apply below_alloc | apply pw_below_drewN | apply below_drew1 | refine below_set ?_ GE119.out | refine below_set ?_ GE131.out) | exact HB.out)⟩
                      (try clear HO_5)
                      (try clear HO_120003)
                      (try clear HO129)
                      (try clear BK119)
                      (try clear BK131)
                      (try clear HB)
                      generalize ((((w75.setCell ⟨gb131, 0, none⟩ (.string t124)).setCell ⟨gb131, 1, none⟩ (.string t125)).setCell ⟨gb131, 2, none⟩ (.string t126)).setCell ⟨gb131, 3, none⟩ (.slice Ao78 t127.length co78)) = w79 at n0_ n1_ n2_ n3_ n4_ n5_ ⊢
                      have HO_5 := n0_
                      have HO_120003 := n1_
                      have HO129 := n2_
                      have BK119 := n3_
                      have BK131 := n4_
                      have HB := n5_
                      clear n0_ n1_ n2_ n3_ n4_ n5_
                      have n0_ := Aside0.mk (Kd.R_drew HO_5.out)
                      have n1_ := Aside0.mk (Kd.V_drew HO_120003.out)
                      have n2_ := Aside0.mk (Kd.V_drew HO129.out)
                      have n3_ := Aside0.mk (blk_drew BK119.out)
                      have n4_ := Aside0.mk (blk_drew BK131.out)
                      have n5_ := Aside0.mk (below_drew1 HB.out)
                      clear HO_5
                      clear HO_120003
                      clear HO129
                      clear BK119
                      clear BK131
                      clear HB
                      have HO_5 := n0_
                      have HO_120003 := n1_
                      have HO129 := n2_
                      have BK119 := n3_
                      have BK131 := n4_
                      have HB := n5_
                      clear n0_ n1_ n2_ n3_ n4_ n5_
                      have p133 : 0 ≤ (0 : Int) := (by omega)
                      have q133 : 0 < (t121.length : Int) := of_decide_eq_true (by first | (with_reducible assumption) | assumption)
                      obtain ⟨ad133, e133, hx133_0⟩ := Kd.at_string (Kd.R_reads' HO_5.out).2.2 0 p133 q133
                      cases e133
                      have qi133 : (0 < t121.length) = True := eq_true (by omega)
                      (try rw [show ((0 : Int)).toNat = 0 from rfl] at hx133_0)
                      (try rw [Addr.add_zero'] at hx133_0)
                      replace p133 := eq_true p133
                      replace q133 := eq_true q133
                      have p134 : 0 ≤ (0 : Int) := (by omega)
                      have q134 : 0 < (t121.length : Int) := of_decide_eq_true (by first | (with_reducible assumption) | assumption)
                      obtain ⟨ad134, e134, hx134_0⟩ := Kd.at_string (Kd.R_reads' HO_5.out).2.2 0 p134 q134
                      obtain rfl : ad133 = ad134 := (by injection e134)
                      have qi134 : (0 < t121.length) = True := eq_true (by omega)
                      (try rw [show ((0 : Int)).toNat = 0 from rfl] at hx134_0)
                      (try rw [Addr.add_zero'] at hx134_0)
                      replace p134 := eq_true p134
                      replace q134 := eq_true q134
                      refine start_ (n := 24) (S := fun w' => w'.cell? ⟨gb131, 0, none⟩ = some (.string t124) ∧ w'.cell? ⟨gb131, 1, none⟩ = some (.string t125) ∧ w'.cell? ⟨gb131, 2, none⟩ = some (.string t126) ∧ w'.cell? ⟨gb131, 3, none⟩ = some (.slice Ao78 t127.length co78) ∧ w'.cell? ⟨gb119, 0, none⟩ = some (.string x120000_l1) ∧ w'.cell? ⟨gb119, 1, none⟩ = some (.string x120001_l1) ∧ w'.cell? ⟨gb119, 2, none⟩ = some (.string x120002_l1) ∧ w'.cell? ⟨gb119, 3, none⟩ = some (.slice Ao73 x120003_l1.length co73) ∧ w'.cell? ad133 = some (.string (rdOf ByteArray.empty t121 0)) ∧ w'.cell? ad133 = some (.string (rdOf ByteArray.empty t121 0))) (ds := []) #[false, false, false, false, false, false, false, false, false, false, false, false, false, false, false, false, false, false, false, false, false, false, false, false] (by kernel_rfl) rfl rfl ⟨(blk_cell BK131.out 0).trans rfl, (blk_cell BK131.out 1).trans rfl, (blk_cell BK131.out 2).trans rfl, (blk_cell BK131.out 3).trans rfl, (blk_cell BK119.out 0).trans rfl, (blk_cell BK119.out 1).trans rfl, (blk_cell BK119.out 2).trans rfl, (blk_cell BK119.out 3).trans rfl, hx133_0, hx134_0⟩ (fun hHeld => ?_); refine with_tabW polyglotlaw03_TagLess.tab20 polyglotlaw03_TagLess.bits20 (fun HT_ HW_ => ?_)
                      generalize w79.drew = w80 at HO_5 HO_120003 HO129 BK119 BK131 HB hx133_0 hx134_0 hHeld ⊢
                      refine pure_ (i := 0) (N := some 86) (v := ?_) (a' := ?_) #[true, false, false, false, false, false, false, false, false, false, false, false, false, false, false, false, false, false, false, false, false, false, false, false] rfl rfl (any_of HT_.out (by kernel_rfl)) (fun _ _ _ h => h) (Or.inl ⟨by rfl, ?_⟩) ?_ ?_
                      rotate_left
                      · intro w'
                        go_simp
                        with_reducible rfl
                      rotate_left
                      · simp only [Act.put, List.setIfInBounds_toArray, List.set_cons_zero, List.set_cons_succ, i64_w, i32_w]
                        rfl
                      refine pure_ (i := 1) (N := some 87) (v := ?_) (a' := ?_) #[true, true, false, false, false, false, false, false, false, false, false, false, false, false, false, false, false, false, false, false, false, false, false, false] rfl rfl (any_of HT_.out (by kernel_rfl)) (fun _ _ _ h => h) (Or.inl ⟨by rfl, ?_⟩) ?_ ?_
                      rotate_left
                      · intro w'
                        go_simp
                        with_reducible rfl
                      rotate_left
                      · simp only [Act.put, List.setIfInBounds_toArray, List.set_cons_zero, List.set_cons_succ, i64_w, i32_w]
                        rfl
                      refine pure_ (i := 2) (N := some 88) (v := ?_) (a' := ?_) #[true, true, true, false, false, false, false, false, false, false, false, false, false, false, false, false, false, false, false, false, false, false, false, false] rfl rfl (any_of HT_.out (by kernel_rfl)) (fun _ _ _ h => h) (Or.inl ⟨by rfl, ?_⟩) ?_ ?_
                      rotate_left
                      · intro w'
                        go_simp
                        with_reducible rfl
                      rotate_left
                      · simp only [Act.put, List.setIfInBounds_toArray, List.set_cons_zero, List.set_cons_succ, i64_w, i32_w]
                        rfl
                      refine pure_ (i := 3) (N := some 89) (v := ?_) (a' := ?_) #[true, true, true, true, false, false, false, false, false, false, false, false, false, false, false, false, false, false, false, false, false, false, false, false] rfl rfl (any_of HT_.out (by kernel_rfl)) (fun _ _ _ h => h) (Or.inl ⟨by rfl, ?_⟩) ?_ ?_
                      rotate_left
                      · intro w'
                        go_simp
                        with_reducible rfl
                      rotate_left
                      · simp only [Act.put, List.setIfInBounds_toArray, List.set_cons_zero, List.set_cons_succ, i64_w, i32_w]
                        rfl
                      refine take_ (i := 4) (N := some 90) (v := ?_) (a' := ?_) #[true, true, true, true, true, false, false, false, false, false, false, false, false, false, false, false, false, false, false, false, false, false, false, false] rfl rfl (take_ofW HT_.out HW_.out (by kernel_rfl)) (fun _ _ _ h => h) (Or.inl ⟨by rfl, ?_⟩) hHeld ?_ ?_
                      rotate_left
                      · rintro w' ⟨s0, s1, s2, s3, s4, s5, s6, s7, s8, s9⟩
                        go_simp
                        with_reducible rfl
                      rotate_left
                      · simp only [Act.put, List.setIfInBounds_toArray, List.set_cons_zero, List.set_cons_succ, i64_w, i32_w]
                        rfl
                      refine pure_ (i := 5) (N := some 91) (v := ?_) (a' := ?_) #[true, true, true, true, true, true, false, false, false, false, false, false, false, false, false, false, false, false, false, false, false, false, false, false] rfl rfl (any_of HT_.out (by kernel_rfl)) (fun _ _ _ h => h) (Or.inl ⟨by rfl, ?_⟩) ?_ ?_
                      rotate_left
                      · intro w'
                        go_simp
                        with_reducible rfl
                      rotate_left
                      · simp only [Act.put, List.setIfInBounds_toArray, List.set_cons_zero, List.set_cons_succ, i64_w, i32_w]
                        rfl
                      refine pure_ (i := 6) (N := some 92) (v := ?_) (a' := ?_) #[true, true, true, true, true, true, true, false, false, false, false, false, false, false, false, false, false, false, false, false, false, false, false, false] rfl rfl (any_of HT_.out (by kernel_rfl)) (fun _ _ _ h => h) (Or.inl ⟨by rfl, ?_⟩) ?_ ?_
                      rotate_left
                      · intro w'
                        go_simp
                        with_reducible rfl
                      rotate_left
                      · simp only [Act.put, List.setIfInBounds_toArray, List.set_cons_zero, List.set_cons_succ, i64_w, i32_w]
                        rfl
                      refine pure_ (i := 7) (N := some 93) (v := ?_) (a' := ?_) #[true, true, true, true, true, true, true, true, false, false, false, false, false, false, false, false, false, false, false, false, false, false, false, false] rfl rfl (any_of HT_.out (by kernel_rfl)) (fun _ _ _ h => h) (Or.inl ⟨by rfl, ?_⟩) ?_ ?_
                      rotate_left
                      · intro w'
                        go_simp
                        with_reducible rfl
                      rotate_left
                      · simp only [Act.put, List.setIfInBounds_toArray, List.set_cons_zero, List.set_cons_succ, i64_w, i32_w]
                        rfl
                      refine pure_ (i := 10) (N := some 96) (v := ?_) (a' := ?_) #[true, true, true, true, true, true, true, true, false, false, true, false, false, false, false, false, false, false, false, false, false, false, false, false] rfl rfl (any_of HT_.out (by kernel_rfl)) (fun _ _ _ h => h) (Or.inl ⟨by rfl, ?_⟩) ?_ ?_
                      rotate_left
                      · intro w'
                        go_simp
                        with_reducible rfl
                      rotate_left
                      · simp only [Act.put, List.setIfInBounds_toArray, List.set_cons_zero, List.set_cons_succ, i64_w, i32_w]
                        rfl
                      refine pure_ (i := 11) (N := some 97) (v := ?_) (a' := ?_) #[true, true, true, true, true, true, true, true, false, false, true, true, false, false, false, false, false, false, false, false, false, false, false, false] rfl rfl (any_of HT_.out (by kernel_rfl)) (fun _ _ _ h => h) (Or.inl ⟨by rfl, ?_⟩) ?_ ?_
                      rotate_left
                      · intro w'
                        go_simp
                        with_reducible rfl
                      rotate_left
                      · simp only [Act.put, List.setIfInBounds_toArray, List.set_cons_zero, List.set_cons_succ, i64_w, i32_w]
                        rfl
                      refine take_ (i := 8) (N := some 94) (v := ?_) (a' := ?_) #[true, true, true, true, true, true, true, true, true, false, true, true, false, false, false, false, false, false, false, false, false, false, false, false] rfl rfl (take_ofW HT_.out HW_.out (by kernel_rfl)) (fun _ _ _ h => h) (Or.inl ⟨by rfl, ?_⟩) hHeld ?_ ?_
                      rotate_left
                      · rintro w' ⟨s0, s1, s2, s3, s4, s5, s6, s7, s8, s9⟩
                        go_simp
                        with_reducible rfl
                      rotate_left
                      · simp only [Act.put, List.setIfInBounds_toArray, List.set_cons_zero, List.set_cons_succ, i64_w, i32_w]
                        rfl
                      refine take_ (i := 12) (N := some 98) (v := ?_) (a' := ?_) #[true, true, true, true, true, true, true, true, true, false, true, true, true, false, false, false, false, false, false, false, false, false, false, false] rfl rfl (take_ofW HT_.out HW_.out (by kernel_rfl)) (fun _ _ _ h => h) (Or.inl ⟨by rfl, ?_⟩) hHeld ?_ ?_
                      rotate_left
                      · rintro w' ⟨s0, s1, s2, s3, s4, s5, s6, s7, s8, s9⟩
                        go_simp
                        with_reducible rfl
                      rotate_left
                      · simp only [Act.put, List.setIfInBounds_toArray, List.set_cons_zero, List.set_cons_succ, i64_w, i32_w]
                        rfl
                      refine one_ (i := 9) (N := some 95) #[true, true, true, true, true, true, true, true, true, true, true, true, true, false, false, false, false, false, false, false, false, false, false, false] rfl rfl (one_of HT_.out (by kernel_rfl)) (by decide) (fun K hK => ?_)
                      refine goes_ Tryd.func17 (by kernel_rfl) rfl #[.agg #[.string x120000_l1, .string x120001_l1, .string x120002_l1, .slice Ao73 x120003_l1.length co73]] (by rfl) rfl rfl (by (try simp only [List.map_toArray, List.map_cons, List.map_nil]); first | done | rfl | (simp only [List.length_drop, List.length_take]; rfl)) ?_
                      with_reducible refine (tag_Str.calls x120000_l1 x120001_l1 x120002_l1 _ _ x120003_l1 t132 _ ?side1 ?side2 A69.out).mono ?_
                      (case side1 => repeat (first | exact (Kd.V_reads' HO_120003.out).2.2 | (with_reducible refine Kd.C_alloc ?_ _) | (with_reducible refine Kd.C_drewN ?_ _) | (with_reducible refine Kd.C_drew ?_)))
                      (case side2 => exact (Kd.V_reads' HO_120003.out).2.1)
                      rintro e w81 ⟨rfl, hb⟩
                      have HS8_ := (hb.cell (World.block_lt_of_cell? _ _ (hHeld.2.2.2.2.2.2.2.2.1))).trans (hHeld.2.2.2.2.2.2.2.2.1)
                      have HS9_ := (hb.cell (World.block_lt_of_cell? _ _ (hHeld.2.2.2.2.2.2.2.2.2))).trans (hHeld.2.2.2.2.2.2.2.2.2)
                      refine ⟨_, rfl, ?_⟩
                      have n0_ := Aside0.mk (Kd.R_below (by (with_reducible repeat (first | apply Kd.R_alloc | apply Kd.R_drewN | apply Kd.R_drew)); exact HO_5.out) hb)
                      have n1_ := Aside0.mk (Kd.V_below (by (with_reducible repeat (first | apply Kd.V_alloc | apply Kd.V_drewN | apply Kd.V_drew)); exact HO_120003.out) hb)
                      have n2_ := Aside0.mk (Kd.V_below (by (with_reducible repeat (first | apply Kd.V_alloc | apply Kd.V_drewN | apply Kd.V_drew)); exact HO129.out) hb)
                      have n3_ := Aside0.mk (blk_below (g := gb119) (o := .cells #[.string x120000_l1, .string x120001_l1, .string x120002_l1, .slice Ao73 x120003_l1.length co73] 25 (0, 0)) (by (with_reducible repeat (first | refine blk_drewN ?_ _ | refine blk_drew ?_ | refine blk_alloc ?_ _)); exact BK119.out) hb)
                      have n4_ := Aside0.mk (blk_below (g := gb131) (o := .cells #[.string t124, .string t125, .string t126, .slice Ao78 t127.length co78] 25 (0, 0)) (by (with_reducible repeat (first | refine blk_drewN ?_ _ | refine blk_drew ?_ | refine blk_alloc ?_ _)); exact BK131.out) hb)
                      have n5_ := Aside0.mk (below_step (by repeat (first | (with_reducible first | exact HB.out | apply below_alloc | apply pw_below_drewN | apply below_drew1 | refine below_set ?_ GE119.out | refine below_set ?_ GE131.out) | exact HB.out)) hb)
                      clear HO_5
                      clear HO_120003
                      clear HO129
                      clear BK119
                      clear BK131
                      clear HB
                      have HO_5 := n0_
                      have HO_120003 := n1_
                      have HO129 := n2_
                      have BK119 := n3_
                      have BK131 := n4_
                      have HB := n5_
                      clear n0_ n1_ n2_ n3_ n4_ n5_
                      (try clear hb)
                      (try clear hb2)
                      (try clear hk)
                      (try clear hi)
                      refine hK.out _ _ ⟨(blk_cell BK131.out 0).trans rfl, (blk_cell BK131.out 1).trans rfl, (blk_cell BK131.out 2).trans rfl, (blk_cell BK131.out 3).trans rfl, (blk_cell BK119.out 0).trans rfl, (blk_cell BK119.out 1).trans rfl, (blk_cell BK119.out 2).trans rfl, (blk_cell BK119.out 3).trans rfl, HS8_, HS9_⟩ (fun hHeld => ?_)
                      clear hK K
                      refine norm_ (a' := ?_) ?_ ?_
                      rotate_left
                      · show Act.put _ (some 95) _ = _
                        simp only [Act.put, List.setIfInBounds_toArray, List.set_cons_zero, List.set_cons_succ, i64_w, i32_w]
                        rfl
                      refine pure_ (i := 13) (N := some 99) (v := ?_) (a' := ?_) #[true, true, true, true, true, true, true, true, true, true, true, true, true, true, false, false, false, false, false, false, false, false, false, false] rfl rfl (any_of HT_.out (by kernel_rfl)) (fun _ _ _ h => h) (Or.inl ⟨by rfl, ?_⟩) ?_ ?_
                      rotate_left
                      · intro w'
                        go_simp
                        with_reducible rfl
                      rotate_left
                      · simp only [Act.put, List.setIfInBounds_toArray, List.set_cons_zero, List.set_cons_succ, i64_w, i32_w]
                        rfl
                      refine pure_ (i := 14) (N := some 100) (v := ?_) (a' := ?_) #[true, true, true, true, true, true, true, true, true, true, true, true, true, true, true, false, false, false, false, false, false, false, false, false] rfl rfl (any_of HT_.out (by kernel_rfl)) (fun _ _ _ h => h) (Or.inl ⟨by rfl, ?_⟩) ?_ ?_
                      rotate_left
                      · intro w'
                        go_simp
                        with_reducible rfl
                      rotate_left
                      · simp only [Act.put, List.setIfInBounds_toArray, List.set_cons_zero, List.set_cons_succ, i64_w, i32_w]
                        rfl
                      refine pure_ (i := 15) (N := some 101) (v := ?_) (a' := ?_) #[true, true, true, true, true, true, true, true, true, true, true, true, true, true, true, true, false, false, false, false, false, false, false, false] rfl rfl (any_of HT_.out (by kernel_rfl)) (fun _ _ _ h => h) (Or.inl ⟨by rfl, ?_⟩) ?_ ?_
                      rotate_left
                      · intro w'
                        go_simp
                        with_reducible rfl
                      rotate_left
                      · simp only [Act.put, List.setIfInBounds_toArray, List.set_cons_zero, List.set_cons_succ, i64_w, i32_w]
                        rfl
                      refine pure_ (i := 16) (N := some 102) (v := ?_) (a' := ?_) #[true, true, true, true, true, true, true, true, true, true, true, true, true, true, true, true, true, false, false, false, false, false, false, false] rfl rfl (any_of HT_.out (by kernel_rfl)) (fun _ _ _ h => h) (Or.inl ⟨by rfl, ?_⟩) ?_ ?_
                      rotate_left
                      · intro w'
                        go_simp
                        with_reducible rfl
                      rotate_left
                      · simp only [Act.put, List.setIfInBounds_toArray, List.set_cons_zero, List.set_cons_succ, i64_w, i32_w]
                        rfl
                      refine pure_ (i := 18) (N := some 104) (v := ?_) (a' := ?_) #[true, true, true, true, true, true, true, true, true, true, true, true, true, true, true, true, true, false, true, false, false, false, false, false] rfl rfl (any_of HT_.out (by kernel_rfl)) (fun _ _ _ h => h) (Or.inl ⟨by rfl, ?_⟩) ?_ ?_
                      rotate_left
                      · intro w'
                        go_simp
                        with_reducible rfl
                      rotate_left
                      · simp only [Act.put, List.setIfInBounds_toArray, List.set_cons_zero, List.set_cons_succ, i64_w, i32_w]
                        rfl
                      refine pure_ (i := 19) (N := some 105) (v := ?_) (a' := ?_) #[true, true, true, true, true, true, true, true, true, true, true, true, true, true, true, true, true, false, true, true, false, false, false, false] rfl rfl (any_of HT_.out (by kernel_rfl)) (fun _ _ _ h => h) (Or.inl ⟨by rfl, ?_⟩) ?_ ?_
                      rotate_left
                      · intro w'
                        go_simp
                        with_reducible rfl
                      rotate_left
                      · simp only [Act.put, List.setIfInBounds_toArray, List.set_cons_zero, List.set_cons_succ, i64_w, i32_w]
                        rfl
                      refine take_ (i := 17) (N := some 103) (v := ?_) (a' := ?_) #[true, true, true, true, true, true, true, true, true, true, true, true, true, true, true, true, true, true, true, true, false, false, false, false] rfl rfl (take_ofW HT_.out HW_.out (by kernel_rfl)) (fun _ _ _ h => h) (Or.inl ⟨by rfl, ?_⟩) hHeld ?_ ?_
                      rotate_left
                      · rintro w' ⟨s0, s1, s2, s3, s4, s5, s6, s7, s8, s9⟩
                        go_simp
                        with_reducible rfl
                      rotate_left
                      · simp only [Act.put, List.setIfInBounds_toArray, List.set_cons_zero, List.set_cons_succ, i64_w, i32_w]
                        rfl
                      refine take_ (i := 20) (N := some 106) (v := ?_) (a' := ?_) #[true, true, true, true, true, true, true, true, true, true, true, true, true, true, true, true, true, true, true, true, true, false, false, false] rfl rfl (take_ofW HT_.out HW_.out (by kernel_rfl)) (fun _ _ _ h => h) (Or.inl ⟨by rfl, ?_⟩) hHeld ?_ ?_
                      rotate_left
                      · rintro w' ⟨s0, s1, s2, s3, s4, s5, s6, s7, s8, s9⟩
                        go_simp
                        with_reducible rfl
                      rotate_left
                      · simp only [Act.put, List.setIfInBounds_toArray, List.set_cons_zero, List.set_cons_succ, i64_w, i32_w]
                        rfl
                      refine pure_ (i := 21) (N := some 107) (v := ?_) (a' := ?_) #[true, true, true, true, true, true, true, true, true, true, true, true, true, true, true, true, true, true, true, true, true, true, false, false] rfl rfl (any_of HT_.out (by kernel_rfl)) (fun _ _ _ h => h) (Or.inl ⟨by rfl, ?_⟩) ?_ ?_
                      rotate_left
                      · intro w'
                        go_simp
                        with_reducible rfl
                      rotate_left
                      · simp only [Act.put, List.setIfInBounds_toArray, List.set_cons_zero, List.set_cons_succ, i64_w, i32_w]
                        rfl
                      refine pure_ (i := 22) (N := some 108) (v := ?_) (a' := ?_) #[true, true, true, true, true, true, true, true, true, true, true, true, true, true, true, true, true, true, true, true, true, true, true, false] rfl rfl (any_of HT_.out (by kernel_rfl)) (fun _ _ _ h => h) (Or.inl ⟨by rfl, ?_⟩) ?_ ?_
                      rotate_left
                      · intro w'
                        go_simp
                        with_reducible rfl
                      rotate_left
                      · simp only [Act.put, List.setIfInBounds_toArray, List.set_cons_zero, List.set_cons_succ, i64_w, i32_w]
                        rfl
                      refine pure_ (i := 23) (N := some 2) (v := ?_) (a' := ?_) #[true, true, true, true, true, true, true, true, true, true, true, true, true, true, true, true, true, true, true, true, true, true, true, true] rfl rfl (any_of HT_.out (by kernel_rfl)) (fun _ _ _ h => h) (Or.inl ⟨by rfl, ?_⟩) ?_ ?_
                      rotate_left
                      · intro w'
                        go_simp
                        with_reducible rfl
                      rotate_left
                      · simp only [Act.put, List.setIfInBounds_toArray, List.set_cons_zero, List.set_cons_succ, i64_w, i32_w]
                        rfl
                      refine done_ (done_of HT_.out (by kernel_rfl)) ?_
                      try go_wp2
                      go_ret
                      exact ⟨by first | rfl | (simp [errW_none, errW_some] <;> rfl) | (simp [*, errW_none, errW_some] <;> rfl), by repeat (first | (with_reducible first | exact HB.out | apply below_alloc | apply pw_below_drewN | apply below_drew1 | refine below_set ?_ GE119.out | refine below_set ?_ GE131.out) | exact HB.out)⟩
                    · rw [if_neg c71] at H
                      have c71b0 : (t132.toList == (rdOf ByteArray.empty t121 0).toList) = false := beq_eq_false_iff_ne.mpr c71
                      have c71b1 : (t132.toList != (rdOf ByteArray.empty t121 0).toList) = true := bne_iff_ne.mpr c71
                      exact absurd ((Option.some.inj H).trans hr_.out) (by decide)
                  · rw [if_neg c70] at H
                    exact absurd H (by simp)
                · rw [if_neg c68] at H
                  have c68b0 : (t124.toList == ([] : List UInt8)) = false := beq_eq_false_iff_ne.mpr c68
                  have c68b1 : (t124.toList != ([] : List UInt8)) = true := bne_iff_ne.mpr c68
                  exact absurd ((Option.some.inj H).trans hr_.out) (by decide)
      · replace c7 := Bool.eq_false_iff.mpr c7
        subst c7
        have H1 : (some true) = some r := by rw [if_neg (show ¬ (false = true) by decide)] at H; exact H
        clear H
        have H := H1
        clear H1
        obtain rfl := Option.some.inj H
        go_enter Tryd.func5, Tryd.ntmps5
        go_wp2_with (first | ((with_reducible refine gate_callee (f := 14) rfl ?_); refine goesL_ (some 13) rfl rfl Tryd.func14 (by kernel_rfl) rfl #[] rfl (by (try simp only [List.map_toArray, List.map_cons, List.map_nil]); first | done | rfl | (simp only [List.length_drop, List.length_take]; rfl)) ?_; (with_reducible refine (law03_head.calls  true _ A2.out).mono ?_); rintro e w82 ⟨rfl, hb⟩; refine ⟨_, rfl, ?_⟩; have n0_ := Aside0.mk (below_step (by repeat (first | (with_reducible first | exact HB.out | apply below_alloc | apply pw_below_drewN | apply below_drew1) | exact HB.out)) hb); clear HB; have HB := n0_; clear n0_; (try clear hb); (try clear hb2); (try clear hk); (try clear hi)) | ((with_reducible refine gate_callee (f := 15) rfl ?_); refine goesL_ (some 20) rfl rfl Tryd.func15 (by kernel_rfl) rfl #[.string a0] rfl (by (try simp only [List.map_toArray, List.map_cons, List.map_nil]); first | done | rfl | (simp only [List.length_drop, List.length_take]; rfl)) ?_; (with_reducible refine (tag_Parse.calls a0 t112 t113 t114 t115 false _ A6.out).mono ?_); rintro e w83 ⟨v116, rfl, ho0, hb⟩; refine ⟨_, rfl, ?_⟩; have n0_ := Aside0.mk (Kd.R_lower ho0 (below_size (by repeat (first | (with_reducible first | exact HB.out | apply below_alloc | apply pw_below_drewN | apply below_drew1) | exact HB.out)))); have n1_ := Aside0.mk (below_step (by repeat (first | (with_reducible first | exact HB.out | apply below_alloc | apply pw_below_drewN | apply below_drew1) | exact HB.out)) hb); clear HB; have HO117 := n0_; have HB := n1_; clear n0_ n1_; (try clear hb); (try clear hb2); (try clear hk); (try clear hi); (try clear ho0)) | ((with_reducible refine gate_dst (N := 3) rfl ?_); (try (refine gate_guard (by rfl) ?_; dsimp only)); refine box_event ?hg (N := 3) ?hd (cs := #[.string (⟨#[]⟩ : ByteArray), .string (⟨#[]⟩ : ByteArray), .string (⟨#[]⟩ : ByteArray), .slice none 0 0]) (t := 25) ?hr ?_; (case hd => rfl); (case hg => rfl); (case hr => first | (go_simp; done) | (go_simp; rfl)); intro gb119 hg w84 hbox hb; have n0_ := Aside0.mk (Kd.R_below (by (with_reducible repeat (first | apply Kd.R_alloc | apply Kd.R_drewN | apply Kd.R_drew)); exact HO117.out) hb); have n1_ := Aside0.mk (below_step (by repeat (first | (with_reducible first | exact HB.out | apply below_alloc | apply pw_below_drewN | apply below_drew1) | exact HB.out)) hb); have n2_ := Aside0.mk (hbox); have n3_ := Aside0.mk ((by rw [hg]; exact (below_size (by repeat (first | (with_reducible first | exact HB.out | apply below_alloc | apply pw_below_drewN | apply below_drew1) | exact HB.out))) : w.heap.size ≤ gb119)); have n4_ := Aside0.mk ((by rw [hg]; exact (below_size (by repeat (first | (with_reducible first | exact HB.out | apply below_alloc | apply pw_below_drewN | apply below_drew1) | exact HB.out))) : w.heap.size ≤ gb119)); clear HO117; clear HB; have HO117 := n0_; have HB := n1_; have BK119 := n2_; have GW119 := n3_; have GE119 := n4_; clear n0_ n1_ n2_ n3_ n4_; clear hb hbox hg; have hcz85_0 : w84.cell? ⟨gb119, 0, none⟩ = some (.string (⟨#[]⟩ : ByteArray)) := (blk_cell BK119.out 0).trans rfl; have hcz85_1 : w84.cell? ⟨gb119, 1, none⟩ = some (.string (⟨#[]⟩ : ByteArray)) := (blk_cell BK119.out 1).trans rfl; have hcz85_2 : w84.cell? ⟨gb119, 2, none⟩ = some (.string (⟨#[]⟩ : ByteArray)) := (blk_cell BK119.out 2).trans rfl; have hcz85_3 : w84.cell? ⟨gb119, 3, none⟩ = some (.slice none 0 0) := (blk_cell BK119.out 3).trans rfl; have hfz85_0 := blk_frozen BK119.out 0; have hfz85_1 := blk_frozen BK119.out 1; have hfz85_2 := blk_frozen BK119.out 2; have hfz85_3 := blk_frozen BK119.out 3; obtain ⟨Ao86, co86, eo86⟩ := Kd.R_slice HO117.out; subst eo86))
        go_ret
        exact ⟨by first | rfl | (simp [errW_none, errW_some] <;> rfl) | (simp [*, errW_none, errW_some] <;> rfl), by repeat (first | (with_reducible first | exact HB.out | apply below_alloc | apply pw_below_drewN | apply below_drew1 | refine below_set ?_ GE119.out) | exact HB.out)⟩
  · replace c3 := Bool.eq_false_iff.mpr c3
    subst c3
    have H1 : (some false) = some r := by rw [if_neg (show ¬ (false = true) by decide)] at H; exact H
    clear H
    have H := H1
    clear H1
    exact absurd ((Option.some.inj H).trans hr_.out) (by decide)

/-- THE ONE PURE STATEMENT of polyglotlaw03_TagLess: yours. -/
def polyglotlaw03_TagLess.Pure : Prop := ∀ (a0 : ByteArray), a0.size ≤ 140737488351232 → ∃ k, polyglotlaw03_TagLess.f k a0 = some true
theorem polyglotlaw03_TagLess.walk (P : polyglotlaw03_TagLess.Pure) (a0 : ByteArray) (w : World) (w0 : a0.size ≤ 140737488351232) (hG : GW w) :
    Calls Tryd.prog 5 #[.string a0] w fun e w' => e = .returned (.bool true) ∧ Below w.heap.size w w' := by
  obtain ⟨k, h⟩ := P a0 w0
  refine (polyglotlaw03_TagLess.calls k a0 true w h).mono ?_
  rintro e w' ⟨rfl, hd⟩
  exact ⟨rfl, hd⟩

end Go.Proofs.YtpedajhcfkohlaaDoor.PTLess
