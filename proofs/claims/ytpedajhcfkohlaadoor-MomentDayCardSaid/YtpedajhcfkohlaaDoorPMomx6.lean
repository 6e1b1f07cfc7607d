-- Written by this session's own program (wip/drive.py) over the kit's printer: not the printer's own text.
import Derived.Test.YtpedajhcfkohlaaDoorPMomx0
import Derived.Test.YtpedajhcfkohlaaDoorPMomx3
import Derived.Test.YtpedajhcfkohlaaDoorPMomx5
namespace Go.Proofs.YtpedajhcfkohlaaDoor.PMom
open Go.RowKit Go.Proofs.YtpedajhcfkohlaaDoorHand Go.Proofs.YtpedajhcfkohlaaDoorW.PrintWords Go.Proofs.YtpedajhcfkohlaaDoorW.PrintLast Go.Proofs.YtpedajhcfkohlaaDoorW.PrintMore
attribute [local go_sem] max2_int min2_int max_two min_two max_three min_three max_four min_four   -- for this text's walks alone
set_option linter.unusedVariables false
set_option linter.unusedSimpArgs false

/-! ### polyglotlaw13_MomentFormats: function 7 -/
def polyglotlaw13_MomentFormats.f (k : Nat) (a0 : ByteArray) (a1 : Int) (a2 : Int) : Option (Bool) := (polyglotlaw13_head.f k).bind fun t240 => (if t240 = true then ((moment_Format.f k a0 a1 a2).bind fun t241 => ((polyglotlaw13_Format.f k a0 a1 a2).bind fun t242 => (some (t241.toList == t242.toList)))) else (some false))
theorem polyglotlaw13_MomentFormats.mono : ∀ a0 a1 a2 k, LeO (polyglotlaw13_MomentFormats.f k a0 a1 a2) (polyglotlaw13_MomentFormats.f (k + 1) a0 a1 a2) := by
  intro a0 a1 a2 k
  unfold polyglotlaw13_MomentFormats.f
  repeat' first
      | (with_reducible exact moment_Format.mono _ _ _ _)
      | (with_reducible exact polyglotlaw13_Format.mono _ _ _ _)
      | (with_reducible exact polyglotlaw13_head.mono _)
      | (with_reducible exact LeO.refl _)
      | (with_reducible exact LeO.none _)
      | (with_reducible refine LeO.ite ?_ ?_)
      | (with_reducible refine LeO.bind ?_ (fun _ => ?_))
      | exact moment_Format.mono _ _ _ _
      | exact polyglotlaw13_Format.mono _ _ _ _
      | exact polyglotlaw13_head.mono _
      | exact LeO.none _
      | refine LeO.ite ?_ ?_
      | refine LeO.bind ?_ (fun _ => ?_)
set_option maxHeartbeats 8000000 in
set_option maxRecDepth 100000 in
theorem polyglotlaw13_MomentFormats.calls (k : Nat) (a0 : ByteArray) (a1 : Int) (a2 : Int) (r : Bool) (w : World) (h : polyglotlaw13_MomentFormats.f k a0 a1 a2 = some r) (hG : GW w := by first | exact hG | exact GW.drewN hG _ | exact GW.below hG (by first | exact HB.out | (with_reducible exact HB.out) | (repeat (first | (with_reducible first | exact HB.out | apply below_alloc | apply pw_below_drewN | apply below_drew1) | (refine below_setA ?_ (by assumption)) | exact HB.out)))) :
    Calls Tryd.prog 7 #[.string a0, .int .i64 a1, .int .i64 a2] w fun e w' => e = .returned (.bool r) ∧ Below w.heap.size w w' := by
  have HB := Aside0.mk (Below.refl w.heap.size w)
  have H : ((polyglotlaw13_head.f k).bind fun t240 => (if t240 = true then ((moment_Format.f k a0 a1 a2).bind fun t241 => ((polyglotlaw13_Format.f k a0 a1 a2).bind fun t242 => (some (t241.toList == t242.toList)))) else (some false))) = some r := h
  clear h
  replace H := Option.bind_eq_some_iff.mp H
  obtain ⟨t240, A40, H⟩ := H
  replace H : (if t240 = true then ((moment_Format.f k a0 a1 a2).bind fun t241 => ((polyglotlaw13_Format.f k a0 a1 a2).bind fun t242 => (some (t241.toList == t242.toList)))) else (some false)) = some r := H
  have A4 := Aside0.mk A40
  clear A40
  by_cases c5 : t240 = true
  · subst c5
    have H1 : ((moment_Format.f k a0 a1 a2).bind fun t241 => ((polyglotlaw13_Format.f k a0 a1 a2).bind fun t242 => (some (t241.toList == t242.toList)))) = some r := by rw [if_pos rfl] at H; exact H
    clear H
    have H := H1
    clear H1
    replace H := Option.bind_eq_some_iff.mp H
    obtain ⟨t241, A60, H⟩ := H
    replace H : ((polyglotlaw13_Format.f k a0 a1 a2).bind fun t242 => (some (t241.toList == t242.toList))) = some r := H
    have A6 := Aside0.mk A60
    clear A60
    replace H := Option.bind_eq_some_iff.mp H
    obtain ⟨t242, A70, H⟩ := H
    replace H : (some (t241.toList == t242.toList)) = some r := H
    have A7 := Aside0.mk A70
    clear A70
    obtain rfl := Option.some.inj H
    go_enter Tryd.func7, Tryd.ntmps7
    go_wp2_with (first | ((with_reducible refine gate_callee (f := 23) rfl ?_); refine goesL_ (some 7) rfl rfl Tryd.func23 (by kernel_rfl) rfl #[] rfl (by (try simp only [List.map_toArray, List.map_cons, List.map_nil]); first | done | rfl | (simp only [List.length_drop, List.length_take]; rfl)) ?_; (with_reducible refine (polyglotlaw13_head.calls k  true _ A4.out).mono ?_); rintro e w8 ⟨rfl, hb⟩; refine ⟨_, rfl, ?_⟩; have n0_ := Aside0.mk (below_step (by repeat (first | (with_reducible first | exact HB.out | apply below_alloc | apply pw_below_drewN | apply below_drew1) | exact HB.out)) hb); clear HB; have HB := n0_; clear n0_; (try clear hb); (try clear hb2); (try clear hk); (try clear hi)) | ((with_reducible refine gate_callee (f := 24) rfl ?_); refine goesL_ (some 12) rfl rfl Tryd.func24 (by kernel_rfl) rfl #[.string a0, .int .i64 a1, .int .i64 a2] rfl (by (try simp only [List.map_toArray, List.map_cons, List.map_nil]); first | done | rfl | (simp only [List.length_drop, List.length_take]; rfl)) ?_; (with_reducible refine (moment_Format.calls k a0 a1 a2 t241 _ A6.out).mono ?_); rintro e w9 ⟨rfl, hb⟩; refine ⟨_, rfl, ?_⟩; have n0_ := Aside0.mk (below_step (by repeat (first | (with_reducible first | exact HB.out | apply below_alloc | apply pw_below_drewN | apply below_drew1) | exact HB.out)) hb); clear HB; have HB := n0_; clear n0_; (try clear hb); (try clear hb2); (try clear hk); (try clear hi)) | ((with_reducible refine gate_callee (f := 25) rfl ?_); refine goesL_ (some 16) rfl rfl Tryd.func25 (by kernel_rfl) rfl #[.string a0, .int .i64 a1, .int .i64 a2] rfl (by (try simp only [List.map_toArray, List.map_cons, List.map_nil]); first | done | rfl | (simp only [List.length_drop, List.length_take]; rfl)) ?_; (with_reducible refine (polyglotlaw13_Format.calls k a0 a1 a2 t242 _ A7.out).mono ?_); rintro e w10 ⟨rfl, hb⟩; refine ⟨_, rfl, ?_⟩; have n0_ := Aside0.mk (below_step (by repeat (first | (with_reducible first | exact HB.out | apply below_alloc | apply pw_below_drewN | apply below_drew1) | exact HB.out)) hb); clear HB; have HB := n0_; clear n0_; (try clear hb); (try clear hb2); (try clear hk); (try clear hi)))
    go_ret
    exact ⟨by first | rfl | (simp [errW_none, errW_some] <;> rfl) | (simp [*, errW_none, errW_some] <;> rfl), by repeat (first | (with_reducible first | exact HB.out | apply below_alloc | apply pw_below_drewN | apply below_drew1) | exact HB.out)⟩
  · replace c5 := Bool.eq_false_iff.mpr c5
    subst c5
    have H1 : (some false) = some r := by rw [if_neg (show ¬ (false = true) by decide)] at H; exact H
    clear H
    have H := H1
    clear H1
    obtain rfl := Option.some.inj H
    go_enter Tryd.func7, Tryd.ntmps7
    go_wp2_with (first | ((with_reducible refine gate_callee (f := 23) rfl ?_); refine goesL_ (some 7) rfl rfl Tryd.func23 (by kernel_rfl) rfl #[] rfl (by (try simp only [List.map_toArray, List.map_cons, List.map_nil]); first | done | rfl | (simp only [List.length_drop, List.length_take]; rfl)) ?_; (with_reducible refine (polyglotlaw13_head.calls k  false _ A4.out).mono ?_); rintro e w11 ⟨rfl, hb⟩; refine ⟨_, rfl, ?_⟩; have n0_ := Aside0.mk (below_step (by repeat (first | (with_reducible first | exact HB.out | apply below_alloc | apply pw_below_drewN | apply below_drew1) | exact HB.out)) hb); clear HB; have HB := n0_; clear n0_; (try clear hb); (try clear hb2); (try clear hk); (try clear hi)))
    go_ret
    exact ⟨by first | rfl | (simp [errW_none, errW_some] <;> rfl) | (simp [*, errW_none, errW_some] <;> rfl), by repeat (first | (with_reducible first | exact HB.out | apply below_alloc | apply pw_below_drewN | apply below_drew1) | exact HB.out)⟩

/-- THE ONE PURE STATEMENT of polyglotlaw13_MomentFormats: yours. -/
def polyglotlaw13_MomentFormats.Pure : Prop := ∀ (a0 : ByteArray) (a1 : Int) (a2 : Int), a0.size ≤ 140737488351232 → (Lit.int .i64 a1).wf = true → (Lit.int .i64 a2).wf = true → ∃ k, polyglotlaw13_MomentFormats.f k a0 a1 a2 = some true
theorem polyglotlaw13_MomentFormats.walk (P : polyglotlaw13_MomentFormats.Pure) (a0 : ByteArray) (a1 : Int) (a2 : Int) (w : World) (w0 : a0.size ≤ 140737488351232) (w1 : (Lit.int .i64 a1).wf = true) (w2 : (Lit.int .i64 a2).wf = true) (hG : GW w) :
    Calls Tryd.prog 7 #[.string a0, .int .i64 a1, .int .i64 a2] w fun e w' => e = .returned (.bool true) ∧ Below w.heap.size w w' := by
  obtain ⟨k, h⟩ := P a0 a1 a2 w0 w1 w2
  refine (polyglotlaw13_MomentFormats.calls k a0 a1 a2 true w h).mono ?_
  rintro e w' ⟨rfl, hd⟩
  exact ⟨rfl, hd⟩

/-! ### polyglotlaw13_MomentDay: function 8 -/
def polyglotlaw13_MomentDay.l0 : Nat → Int → ByteArray → ByteArray → ByteArray → Int → Option (Bool)
  | 0, _, _, _, _, _ => none
  | k + 1, x0, x1, x5, x6, x7 => if x7 < 1440 then ((moment_Format.f k x1 (wrap64 ((wrap64 (x0 + (wrap64 (60 * x7)))) + (Int.tmod x7 60))) 1).bind fun t246 => (if t246.toList = x6.toList then (some false) else ((moment_Format.f k x1 (wrap64 (x0 + (wrap64 (60 * x7)))) 0).bind fun t247 => (if t247.toList = x5.toList then ((polyglotlaw13_Format.f k x1 (wrap64 (x0 + (wrap64 (60 * x7)))) 1).bind fun t248 => (if t246.toList = t248.toList then (polyglotlaw13_MomentDay.l0 k x0 x1 x5 t246 (wrap64 (x7 + 1))) else (some false))) else (some false))))) else ((moment_Format.f k x1 (wrap64 (x0 + 86400)) 0).bind fun t245 => (some (t245.toList != x5.toList)))
def polyglotlaw13_MomentDay.f (k : Nat) (a0 : Int) (a1 : ByteArray) : Option (Bool) := (polyglotlaw13_head.f k).bind fun t243 => (if t243 = true then ((moment_Format.f k a1 (wrap64 ((Int.tmod a0 1125899906842624) - (Int.tmod (Int.tmod a0 1125899906842624) 86400))) 0).bind fun t244 => (polyglotlaw13_MomentDay.l0 k (wrap64 ((Int.tmod a0 1125899906842624) - (Int.tmod (Int.tmod a0 1125899906842624) 86400))) a1 t244 (⟨#[]⟩ : ByteArray) 0)) else (some false))
theorem polyglotlaw13_MomentDay.mono_l : ∀ k, (∀ y0 y1 y2 y3 y4, LeO (polyglotlaw13_MomentDay.l0 k y0 y1 y2 y3 y4) (polyglotlaw13_MomentDay.l0 (k + 1) y0 y1 y2 y3 y4))
  | 0 => fun _ _ _ _ _ r h => by simp [polyglotlaw13_MomentDay.l0] at h
  | k + 1 => by
    have ih0 := polyglotlaw13_MomentDay.mono_l k
    · intro y0 y1 y2 y3 y4
      unfold polyglotlaw13_MomentDay.l0
      repeat' first
      | (with_reducible exact ih0 _ _ _ _ _)
      | (with_reducible exact moment_Format.mono _ _ _ _)
      | (with_reducible exact polyglotlaw13_Format.mono _ _ _ _)
      | (with_reducible exact polyglotlaw13_head.mono _)
      | (with_reducible exact LeO.refl _)
      | (with_reducible exact LeO.none _)
      | (with_reducible refine LeO.ite ?_ ?_)
      | (with_reducible refine LeO.bind ?_ (fun _ => ?_))
      | exact ih0 _ _ _ _ _
      | exact moment_Format.mono _ _ _ _
      | exact polyglotlaw13_Format.mono _ _ _ _
      | exact polyglotlaw13_head.mono _
      | exact LeO.none _
      | refine LeO.ite ?_ ?_
      | refine LeO.bind ?_ (fun _ => ?_)
theorem polyglotlaw13_MomentDay.mono : ∀ a0 a1 k, LeO (polyglotlaw13_MomentDay.f k a0 a1) (polyglotlaw13_MomentDay.f (k + 1) a0 a1) := by
  intro a0 a1 k
  have ih0 := polyglotlaw13_MomentDay.mono_l k
  unfold polyglotlaw13_MomentDay.f
  repeat' first
      | (with_reducible exact ih0 _ _ _ _ _)
      | (with_reducible exact moment_Format.mono _ _ _ _)
      | (with_reducible exact polyglotlaw13_Format.mono _ _ _ _)
      | (with_reducible exact polyglotlaw13_head.mono _)
      | (with_reducible exact LeO.refl _)
      | (with_reducible exact LeO.none _)
      | (with_reducible refine LeO.ite ?_ ?_)
      | (with_reducible refine LeO.bind ?_ (fun _ => ?_))
      | exact ih0 _ _ _ _ _
      | exact moment_Format.mono _ _ _ _
      | exact polyglotlaw13_Format.mono _ _ _ _
      | exact polyglotlaw13_head.mono _
      | exact LeO.none _
      | refine LeO.ite ?_ ?_
      | refine LeO.bind ?_ (fun _ => ?_)
set_option maxHeartbeats 8000000 in
set_option maxRecDepth 100000 in
theorem polyglotlaw13_MomentDay.calls (k : Nat) (a0 : Int) (a1 : ByteArray) (r : Bool) (w : World) (h : polyglotlaw13_MomentDay.f k a0 a1 = some r) (hG : GW w := by first | exact hG | exact GW.drewN hG _ | exact GW.below hG (by first | exact HB.out | (with_reducible exact HB.out) | (repeat (first | (with_reducible first | exact HB.out | apply below_alloc | apply pw_below_drewN | apply below_drew1) | (refine below_setA ?_ (by assumption)) | exact HB.out)))) :
    Calls Tryd.prog 8 #[.int .i64 a0, .string a1] w fun e w' => e = .returned (.bool r) ∧ Below w.heap.size w w' := by
  have HB := Aside0.mk (Below.refl w.heap.size w)
  have H : ((polyglotlaw13_head.f k).bind fun t243 => (if t243 = true then ((moment_Format.f k a1 (wrap64 ((Int.tmod a0 1125899906842624) - (Int.tmod (Int.tmod a0 1125899906842624) 86400))) 0).bind fun t244 => (polyglotlaw13_MomentDay.l0 k (wrap64 ((Int.tmod a0 1125899906842624) - (Int.tmod (Int.tmod a0 1125899906842624) 86400))) a1 t244 (⟨#[]⟩ : ByteArray) 0)) else (some false))) = some r := h
  clear h
  replace H := Option.bind_eq_some_iff.mp H
  obtain ⟨t243, A30, H⟩ := H
  replace H : (if t243 = true then ((moment_Format.f k a1 (wrap64 ((Int.tmod a0 1125899906842624) - (Int.tmod (Int.tmod a0 1125899906842624) 86400))) 0).bind fun t244 => (polyglotlaw13_MomentDay.l0 k (wrap64 ((Int.tmod a0 1125899906842624) - (Int.tmod (Int.tmod a0 1125899906842624) 86400))) a1 t244 (⟨#[]⟩ : ByteArray) 0)) else (some false)) = some r := H
  have A3 := Aside0.mk A30
  clear A30
  by_cases c4 : t243 = true
  · subst c4
    have H1 : ((moment_Format.f k a1 (wrap64 ((Int.tmod a0 1125899906842624) - (Int.tmod (Int.tmod a0 1125899906842624) 86400))) 0).bind fun t244 => (polyglotlaw13_MomentDay.l0 k (wrap64 ((Int.tmod a0 1125899906842624) - (Int.tmod (Int.tmod a0 1125899906842624) 86400))) a1 t244 (⟨#[]⟩ : ByteArray) 0)) = some r := by rw [if_pos rfl] at H; exact H
    clear H
    have H := H1
    clear H1
    replace H := Option.bind_eq_some_iff.mp H
    obtain ⟨t244, A50, H⟩ := H
    replace H : (polyglotlaw13_MomentDay.l0 k (wrap64 ((Int.tmod a0 1125899906842624) - (Int.tmod (Int.tmod a0 1125899906842624) 86400))) a1 t244 (⟨#[]⟩ : ByteArray) 0) = some r := H
    have A5 := Aside0.mk A50
    clear A50
    have H' := Aside0.mk H
    clear H
    go_enter Tryd.func8, Tryd.ntmps8
    go_wp2_with (first | ((with_reducible refine gate_callee (f := 23) rfl ?_); refine goesL_ (some 9) rfl rfl Tryd.func23 (by kernel_rfl) rfl #[] rfl (by (try simp only [List.map_toArray, List.map_cons, List.map_nil]); first | done | rfl | (simp only [List.length_drop, List.length_take]; rfl)) ?_; (with_reducible refine (polyglotlaw13_head.calls k  true _ A3.out).mono ?_); rintro e w6 ⟨rfl, hb⟩; refine ⟨_, rfl, ?_⟩; have n0_ := Aside0.mk (below_step (by repeat (first | (with_reducible first | exact HB.out | apply below_alloc | apply pw_below_drewN | apply below_drew1) | exact HB.out)) hb); clear HB; have HB := n0_; clear n0_; (try clear hb); (try clear hb2); (try clear hk); (try clear hi)) | ((with_reducible refine gate_callee (f := 24) rfl ?_); refine goesL_ (some 19) rfl rfl Tryd.func24 (by kernel_rfl) rfl #[.string a1, .int .i64 (wrap64 ((Int.tmod a0 1125899906842624) - (Int.tmod (Int.tmod a0 1125899906842624) 86400))), .int .i64 0] rfl (by (try simp only [List.map_toArray, List.map_cons, List.map_nil]); first | done | rfl | (simp only [List.length_drop, List.length_take]; rfl)) ?_; (with_reducible refine (moment_Format.calls k a1 (wrap64 ((Int.tmod a0 1125899906842624) - (Int.tmod (Int.tmod a0 1125899906842624) 86400))) 0 t244 _ A5.out).mono ?_); rintro e w7 ⟨rfl, hb⟩; refine ⟨_, rfl, ?_⟩; have n0_ := Aside0.mk (below_step (by repeat (first | (with_reducible first | exact HB.out | apply below_alloc | apply pw_below_drewN | apply below_drew1) | exact HB.out)) hb); clear HB; have HB := n0_; clear n0_; (try clear hb); (try clear hb2); (try clear hk); (try clear hi)))
    go_loopg [6, 7] k (fun kq v6 v7 w' => ∃ (x6_l1 : ByteArray) (x7_l1 : Int), v6 = .string x6_l1 ∧ v7 = .int .i64 x7_l1 ∧ Aside0 (polyglotlaw13_MomentDay.l0 kq (wrap64 ((Int.tmod a0 1125899906842624) - (Int.tmod (Int.tmod a0 1125899906842624) 86400))) a1 t244 x6_l1 x7_l1 = some r) ∧ Aside0 (kq ≤ k) ∧ Aside0 (Below w.heap.size w w'))
    case atStart => exact ⟨((⟨#[]⟩ : ByteArray)), (0), (by first | rfl | (simp; done) | (simp [*]; done)), (by first | rfl | (simp; done) | (simp [*]; done)), H', ⟨Nat.le_refl _⟩, ⟨by repeat (first | (with_reducible first | exact HB.out | apply below_alloc | apply pw_below_drewN | apply below_drew1) | exact HB.out)⟩⟩
    case round =>
      clear H'
      try clear c2
      try clear p2
      try clear c4
      try clear p6
      obtain ⟨x6_l1, x7_l1, rfl, rfl, HA, HK1, HB⟩ := hrel
      cases gk with
      | zero => exact absurd HA.out (by simp [polyglotlaw13_MomentDay.l0])
      | succ k1 =>
        have H := HA.out
        clear HA
        simp only [polyglotlaw13_MomentDay.l0] at H
        by_cases c8 : x7_l1 < 1440
        · rw [if_pos c8] at H
          have c8b0 : decide (x7_l1 < 1440) = true := decide_eq_true c8
          clear c8
          replace H := Option.bind_eq_some_iff.mp H
          obtain ⟨t246, A90, H⟩ := H
          replace H : (if t246.toList = x6_l1.toList then (some false) else ((moment_Format.f k1 a1 (wrap64 ((wrap64 ((Int.tmod a0 1125899906842624) - (Int.tmod (Int.tmod a0 1125899906842624) 86400))) + (wrap64 (60 * x7_l1)))) 0).bind fun t247 => (if t247.toList = t244.toList then ((polyglotlaw13_Format.f k1 a1 (wrap64 ((wrap64 ((Int.tmod a0 1125899906842624) - (Int.tmod (Int.tmod a0 1125899906842624) 86400))) + (wrap64 (60 * x7_l1)))) 1).bind fun t248 => (if t246.toList = t248.toList then (polyglotlaw13_MomentDay.l0 k1 (wrap64 ((Int.tmod a0 1125899906842624) - (Int.tmod (Int.tmod a0 1125899906842624) 86400))) a1 t244 t246 (wrap64 (x7_l1 + 1))) else (some false))) else (some false)))) = some r := H
          have A9 := Aside0.mk A90
          clear A90
          by_cases c10 : t246.toList = x6_l1.toList
          · rw [if_pos c10] at H
            have c10b0 : (t246.toList == x6_l1.toList) = true := beq_iff_eq.mpr c10
            have c10b1 : (t246.toList != x6_l1.toList) = false := bne_eq_false_iff_eq.mpr c10
            clear c10
            obtain rfl := Option.some.inj H
            go_wp2_with (first | ((with_reducible refine gate_callee (f := 24) rfl ?_); refine goesL_ (some 32) rfl rfl Tryd.func24 (by kernel_rfl) rfl #[.string a1, .int .i64 (wrap64 ((wrap64 ((wrap64 ((Int.tmod a0 1125899906842624) - (Int.tmod (Int.tmod a0 1125899906842624) 86400))) + (wrap64 (60 * x7_l1)))) + (Int.tmod x7_l1 60))), .int .i64 1] rfl (by (try simp only [List.map_toArray, List.map_cons, List.map_nil]); first | done | rfl | (simp only [List.length_drop, List.length_take]; rfl)) ?_; (with_reducible refine (moment_Format.calls k1 a1 (wrap64 ((wrap64 ((wrap64 ((Int.tmod a0 1125899906842624) - (Int.tmod (Int.tmod a0 1125899906842624) 86400))) + (wrap64 (60 * x7_l1)))) + (Int.tmod x7_l1 60))) 1 t246 _ A9.out).mono ?_); rintro e w11 ⟨rfl, hb⟩; refine ⟨_, rfl, ?_⟩; have n0_ := Aside0.mk (below_step (by repeat (first | (with_reducible first | exact HB.out | apply below_alloc | apply pw_below_drewN | apply below_drew1) | exact HB.out)) hb); clear HB; have HB := n0_; clear n0_; (try clear hb); (try clear hb2); (try clear hk); (try clear hi)))
            go_ret
            exact ⟨by first | rfl | (simp [errW_none, errW_some] <;> rfl) | (simp [*, errW_none, errW_some] <;> rfl), by repeat (first | (with_reducible first | exact HB.out | apply below_alloc | apply pw_below_drewN | apply below_drew1) | exact HB.out)⟩
          · rw [if_neg c10] at H
            have c10b0 : (t246.toList == x6_l1.toList) = false := beq_eq_false_iff_ne.mpr c10
            have c10b1 : (t246.toList != x6_l1.toList) = true := bne_iff_ne.mpr c10
            replace H := Option.bind_eq_some_iff.mp H
            obtain ⟨t247, A120, H⟩ := H
            replace H : (if t247.toList = t244.toList then ((polyglotlaw13_Format.f k1 a1 (wrap64 ((wrap64 ((Int.tmod a0 1125899906842624) - (Int.tmod (Int.tmod a0 1125899906842624) 86400))) + (wrap64 (60 * x7_l1)))) 1).bind fun t248 => (if t246.toList = t248.toList then (polyglotlaw13_MomentDay.l0 k1 (wrap64 ((Int.tmod a0 1125899906842624) - (Int.tmod (Int.tmod a0 1125899906842624) 86400))) a1 t244 t246 (wrap64 (x7_l1 + 1))) else (some false))) else (some false)) = some r := H
            have A12 := Aside0.mk A120
            clear A120
            by_cases c13 : t247.toList = t244.toList
            · rw [if_pos c13] at H
              have c13b0 : (t247.toList == t244.toList) = true := beq_iff_eq.mpr c13
              have c13b1 : (t247.toList != t244.toList) = false := bne_eq_false_iff_eq.mpr c13
              clear c13
              replace H := Option.bind_eq_some_iff.mp H
              obtain ⟨t248, A140, H⟩ := H
              replace H : (if t246.toList = t248.toList then (polyglotlaw13_MomentDay.l0 k1 (wrap64 ((Int.tmod a0 1125899906842624) - (Int.tmod (Int.tmod a0 1125899906842624) 86400))) a1 t244 t246 (wrap64 (x7_l1 + 1))) else (some false)) = some r := H
              have A14 := Aside0.mk A140
              clear A140
              by_cases c15 : t246.toList = t248.toList
              · rw [if_pos c15] at H
                have c15b0 : (t246.toList == t248.toList) = true := beq_iff_eq.mpr c15
                have c15b1 : (t246.toList != t248.toList) = false := bne_eq_false_iff_eq.mpr c15
                clear c15
                have H' := Aside0.mk H
                clear H
                go_wp2_with (first | ((with_reducible refine gate_callee (f := 24) rfl ?_); refine goesL_ (some 32) rfl rfl Tryd.func24 (by kernel_rfl) rfl #[.string a1, .int .i64 (wrap64 ((wrap64 ((wrap64 ((Int.tmod a0 1125899906842624) - (Int.tmod (Int.tmod a0 1125899906842624) 86400))) + (wrap64 (60 * x7_l1)))) + (Int.tmod x7_l1 60))), .int .i64 1] rfl (by (try simp only [List.map_toArray, List.map_cons, List.map_nil]); first | done | rfl | (simp only [List.length_drop, List.length_take]; rfl)) ?_; (with_reducible refine (moment_Format.calls k1 a1 (wrap64 ((wrap64 ((wrap64 ((Int.tmod a0 1125899906842624) - (Int.tmod (Int.tmod a0 1125899906842624) 86400))) + (wrap64 (60 * x7_l1)))) + (Int.tmod x7_l1 60))) 1 t246 _ A9.out).mono ?_); rintro e w16 ⟨rfl, hb⟩; refine ⟨_, rfl, ?_⟩; have n0_ := Aside0.mk (below_step (by repeat (first | (with_reducible first | exact HB.out | apply below_alloc | apply pw_below_drewN | apply below_drew1) | exact HB.out)) hb); clear HB; have HB := n0_; clear n0_; (try clear hb); (try clear hb2); (try clear hk); (try clear hi)) | (go_at_call 24; (with_reducible refine (moment_Format.calls k1 a1 (wrap64 ((wrap64 ((Int.tmod a0 1125899906842624) - (Int.tmod (Int.tmod a0 1125899906842624) 86400))) + (wrap64 (60 * x7_l1)))) 0 t247 _ A12.out).mono ?_); rintro e w17 ⟨rfl, hb⟩; have n0_ := Aside0.mk (below_step (by repeat (first | (with_reducible first | exact HB.out | apply below_alloc | apply pw_below_drewN | apply below_drew1) | exact HB.out)) hb); clear HB; have HB := n0_; clear n0_; (try clear hb); (try clear hb2); (try clear hk); (try clear hi)) | (go_at_call 25; (with_reducible refine (polyglotlaw13_Format.calls k1 a1 (wrap64 ((wrap64 ((Int.tmod a0 1125899906842624) - (Int.tmod (Int.tmod a0 1125899906842624) 86400))) + (wrap64 (60 * x7_l1)))) 1 t248 _ A14.out).mono ?_); rintro e w18 ⟨rfl, hb⟩; have n0_ := Aside0.mk (below_step (by repeat (first | (with_reducible first | exact HB.out | apply below_alloc | apply pw_below_drewN | apply below_drew1) | exact HB.out)) hb); clear HB; have HB := n0_; clear n0_; (try clear hb); (try clear hb2); (try clear hk); (try clear hi)))
                go_roundg k1
                case measure => have := HK1.out; omega
                case rel => exact ⟨(t246), (wrap64 (x7_l1 + 1)), (by first | rfl | (simp; done) | (simp [*]; done)), (by first | rfl | (simp; done) | (simp [*]; done)), H', ⟨by have := HK1.out; omega⟩, ⟨by repeat (first | (with_reducible first | exact HB.out | apply below_alloc | apply pw_below_drewN | apply below_drew1) | exact HB.out)⟩⟩
              · rw [if_neg c15] at H
                have c15b0 : (t246.toList == t248.toList) = false := beq_eq_false_iff_ne.mpr c15
                have c15b1 : (t246.toList != t248.toList) = true := bne_iff_ne.mpr c15
                obtain rfl := Option.some.inj H
                go_wp2_with (first | ((with_reducible refine gate_callee (f := 24) rfl ?_); refine goesL_ (some 32) rfl rfl Tryd.func24 (by kernel_rfl) rfl #[.string a1, .int .i64 (wrap64 ((wrap64 ((wrap64 ((Int.tmod a0 1125899906842624) - (Int.tmod (Int.tmod a0 1125899906842624) 86400))) + (wrap64 (60 * x7_l1)))) + (Int.tmod x7_l1 60))), .int .i64 1] rfl (by (try simp only [List.map_toArray, List.map_cons, List.map_nil]); first | done | rfl | (simp only [List.length_drop, List.length_take]; rfl)) ?_; (with_reducible refine (moment_Format.calls k1 a1 (wrap64 ((wrap64 ((wrap64 ((Int.tmod a0 1125899906842624) - (Int.tmod (Int.tmod a0 1125899906842624) 86400))) + (wrap64 (60 * x7_l1)))) + (Int.tmod x7_l1 60))) 1 t246 _ A9.out).mono ?_); rintro e w19 ⟨rfl, hb⟩; refine ⟨_, rfl, ?_⟩; have n0_ := Aside0.mk (below_step (by repeat (first | (with_reducible first | exact HB.out | apply below_alloc | apply pw_below_drewN | apply below_drew1) | exact HB.out)) hb); clear HB; have HB := n0_; clear n0_; (try clear hb); (try clear hb2); (try clear hk); (try clear hi)) | (go_at_call 24; (with_reducible refine (moment_Format.calls k1 a1 (wrap64 ((wrap64 ((Int.tmod a0 1125899906842624) - (Int.tmod (Int.tmod a0 1125899906842624) 86400))) + (wrap64 (60 * x7_l1)))) 0 t247 _ A12.out).mono ?_); rintro e w20 ⟨rfl, hb⟩; have n0_ := Aside0.mk (below_step (by repeat (first | (with_reducible first | exact HB.out | apply below_alloc | apply pw_below_drewN | apply below_drew1) | exact HB.out)) hb); clear HB; have HB := n0_; clear n0_; (try clear hb); (try clear hb2); (try clear hk); (try clear hi)) | (go_at_call 25; (with_reducible refine (polyglotlaw13_Format.calls k1 a1 (wrap64 ((wrap64 ((Int.tmod a0 1125899906842624) - (Int.tmod (Int.tmod a0 1125899906842624) 86400))) + (wrap64 (60 * x7_l1)))) 1 t248 _ A14.out).mono ?_); rintro e w21 ⟨rfl, hb⟩; have n0_ := Aside0.mk (below_step (by repeat (first | (with_reducible first | exact HB.out | apply below_alloc | apply pw_below_drewN | apply below_drew1) | exact HB.out)) hb); clear HB; have HB := n0_; clear n0_; (try clear hb); (try clear hb2); (try clear hk); (try clear hi)))
                go_ret
                exact ⟨by first | rfl | (simp [errW_none, errW_some] <;> rfl) | (simp [*, errW_none, errW_some] <;> rfl), by repeat (first | (with_reducible first | exact HB.out | apply below_alloc | apply pw_below_drewN | apply below_drew1) | exact HB.out)⟩
            · rw [if_neg c13] at H
              have c13b0 : (t247.toList == t244.toList) = false := beq_eq_false_iff_ne.mpr c13
              have c13b1 : (t247.toList != t244.toList) = true := bne_iff_ne.mpr c13
              obtain rfl := Option.some.inj H
              go_wp2_with (first | ((with_reducible refine gate_callee (f := 24) rfl ?_); refine goesL_ (some 32) rfl rfl Tryd.func24 (by kernel_rfl) rfl #[.string a1, .int .i64 (wrap64 ((wrap64 ((wrap64 ((Int.tmod a0 1125899906842624) - (Int.tmod (Int.tmod a0 1125899906842624) 86400))) + (wrap64 (60 * x7_l1)))) + (Int.tmod x7_l1 60))), .int .i64 1] rfl (by (try simp only [List.map_toArray, List.map_cons, List.map_nil]); first | done | rfl | (simp only [List.length_drop, List.length_take]; rfl)) ?_; (with_reducible refine (moment_Format.calls k1 a1 (wrap64 ((wrap64 ((wrap64 ((Int.tmod a0 1125899906842624) - (Int.tmod (Int.tmod a0 1125899906842624) 86400))) + (wrap64 (60 * x7_l1)))) + (Int.tmod x7_l1 60))) 1 t246 _ A9.out).mono ?_); rintro e w22 ⟨rfl, hb⟩; refine ⟨_, rfl, ?_⟩; have n0_ := Aside0.mk (below_step (by repeat (first | (with_reducible first | exact HB.out | apply below_alloc | apply pw_below_drewN | apply below_drew1) | exact HB.out)) hb); clear HB; have HB := n0_; clear n0_; (try clear hb); (try clear hb2); (try clear hk); (try clear hi)) | (go_at_call 24; (with_reducible refine (moment_Format.calls k1 a1 (wrap64 ((wrap64 ((Int.tmod a0 1125899906842624) - (Int.tmod (Int.tmod a0 1125899906842624) 86400))) + (wrap64 (60 * x7_l1)))) 0 t247 _ A12.out).mono ?_); rintro e w23 ⟨rfl, hb⟩; have n0_ := Aside0.mk (below_step (by repeat (first | (with_reducible first | exact HB.out | apply below_alloc | apply pw_below_drewN | apply below_drew1) | exact HB.out)) hb); clear HB; have HB := n0_; clear n0_; (try clear hb); (try clear hb2); (try clear hk); (try clear hi)))
              go_ret
              exact ⟨by first | rfl | (simp [errW_none, errW_some] <;> rfl) | (simp [*, errW_none, errW_some] <;> rfl), by repeat (first | (with_reducible first | exact HB.out | apply below_alloc | apply pw_below_drewN | apply below_drew1) | exact HB.out)⟩
        · rw [if_neg c8] at H
          have c8b0 : decide (x7_l1 < 1440) = false := decide_eq_false c8
          clear c8
          replace H := Option.bind_eq_some_iff.mp H
          obtain ⟨t245, A240, H⟩ := H
          replace H : (some (t245.toList != t244.toList)) = some r := H
          have A24 := Aside0.mk A240
          clear A240
          obtain rfl := Option.some.inj H
          go_wp2_with (first | ((with_reducible refine gate_callee (f := 24) rfl ?_); refine goesL_ (some 60) rfl rfl Tryd.func24 (by kernel_rfl) rfl #[.string a1, .int .i64 (wrap64 ((wrap64 ((Int.tmod a0 1125899906842624) - (Int.tmod (Int.tmod a0 1125899906842624) 86400))) + 86400)), .int .i64 0] rfl (by (try simp only [List.map_toArray, List.map_cons, List.map_nil]); first | done | rfl | (simp only [List.length_drop, List.length_take]; rfl)) ?_; (with_reducible refine (moment_Format.calls k1 a1 (wrap64 ((wrap64 ((Int.tmod a0 1125899906842624) - (Int.tmod (Int.tmod a0 1125899906842624) 86400))) + 86400)) 0 t245 _ A24.out).mono ?_); rintro e w25 ⟨rfl, hb⟩; refine ⟨_, rfl, ?_⟩; have n0_ := Aside0.mk (below_step (by repeat (first | (with_reducible first | exact HB.out | apply below_alloc | apply pw_below_drewN | apply below_drew1) | exact HB.out)) hb); clear HB; have HB := n0_; clear n0_; (try clear hb); (try clear hb2); (try clear hk); (try clear hi)))
          go_ret
          exact ⟨by first | rfl | (simp [errW_none, errW_some] <;> rfl) | (simp [*, errW_none, errW_some] <;> rfl), by repeat (first | (with_reducible first | exact HB.out | apply below_alloc | apply pw_below_drewN | apply below_drew1) | exact HB.out)⟩
  · replace c4 := Bool.eq_false_iff.mpr c4
    subst c4
    have H1 : (some false) = some r := by rw [if_neg (show ¬ (false = true) by decide)] at H; exact H
    clear H
    have H := H1
    clear H1
    obtain rfl := Option.some.inj H
    go_enter Tryd.func8, Tryd.ntmps8
    go_wp2_with (first | ((with_reducible refine gate_callee (f := 23) rfl ?_); refine goesL_ (some 9) rfl rfl Tryd.func23 (by kernel_rfl) rfl #[] rfl (by (try simp only [List.map_toArray, List.map_cons, List.map_nil]); first | done | rfl | (simp only [List.length_drop, List.length_take]; rfl)) ?_; (with_reducible refine (polyglotlaw13_head.calls k  false _ A3.out).mono ?_); rintro e w26 ⟨rfl, hb⟩; refine ⟨_, rfl, ?_⟩; have n0_ := Aside0.mk (below_step (by repeat (first | (with_reducible first | exact HB.out | apply below_alloc | apply pw_below_drewN | apply below_drew1) | exact HB.out)) hb); clear HB; have HB := n0_; clear n0_; (try clear hb); (try clear hb2); (try clear hk); (try clear hi)))
    go_ret
    exact ⟨by first | rfl | (simp [errW_none, errW_some] <;> rfl) | (simp [*, errW_none, errW_some] <;> rfl), by repeat (first | (with_reducible first | exact HB.out | apply below_alloc | apply pw_below_drewN | apply below_drew1) | exact HB.out)⟩

/-- THE ONE PURE STATEMENT of polyglotlaw13_MomentDay: yours. -/
def polyglotlaw13_MomentDay.Pure : Prop := ∀ (a0 : Int) (a1 : ByteArray), (Lit.int .i64 a0).wf = true → a1.size ≤ 140737488351232 → ∃ k, polyglotlaw13_MomentDay.f k a0 a1 = some true
theorem polyglotlaw13_MomentDay.walk (P : polyglotlaw13_MomentDay.Pure) (a0 : Int) (a1 : ByteArray) (w : World) (w0 : (Lit.int .i64 a0).wf = true) (w1 : a1.size ≤ 140737488351232) (hG : GW w) :
    Calls Tryd.prog 8 #[.int .i64 a0, .string a1] w fun e w' => e = .returned (.bool true) ∧ Below w.heap.size w w' := by
  obtain ⟨k, h⟩ := P a0 a1 w0 w1
  refine (polyglotlaw13_MomentDay.calls k a0 a1 true w h).mono ?_
  rintro e w' ⟨rfl, hd⟩
  exact ⟨rfl, hd⟩

/-! ### polyglotlaw13_MomentParts: function 9 -/
mutual
def polyglotlaw13_MomentParts.j0 : Nat → ByteArray → Int → Int → ByteArray → ByteArray → ByteArray → Option (Bool)
  | 0, _, _, _, _, _, _ => none
  | k + 1, x0, x1, x2, x7, x8, x9 => if x2 ≥ 0 then (polyglotlaw13_MomentParts.j1 k x0 x1 x2 x7 x8 x9 (decide (x2 ≤ 2))) else (polyglotlaw13_MomentParts.j1 k x0 x1 x2 x7 x8 x9 false)
def polyglotlaw13_MomentParts.j1 : Nat → ByteArray → Int → Int → ByteArray → ByteArray → ByteArray → Bool → Option (Bool)
  | 0, _, _, _, _, _, _, _ => none
  | k + 1, x0, x1, x2, x7, x8, x9, x25 => if x25 = true then ((moment_Format.f k x0 x1 2).bind fun t252 => (if x7.size + x9.size ≤ 9223372036854775807 then ((some (x7 ++ x9 : ByteArray)).bind fun y253 => (if y253.size + x8.size ≤ 9223372036854775807 then ((some (y253 ++ x8 : ByteArray)).bind fun y254 => (if t252.toList = y254.toList then ((moment_Format.f k x0 x1 (wrap64 (x2 + 3))).bind fun t255 => (some (t255.toList == x7.toList))) else (some false))) else (none))) else (none))) else ((moment_Format.f k x0 x1 2).bind fun t256 => (if x7.size + x9.size ≤ 9223372036854775807 then ((some (x7 ++ x9 : ByteArray)).bind fun y257 => (if y257.size + x8.size ≤ 9223372036854775807 then ((some (y257 ++ x8 : ByteArray)).bind fun y258 => (if t256.toList = y258.toList then ((moment_Format.f k x0 x1 x2).bind fun t259 => (some (t259.toList == x7.toList))) else (some false))) else (none))) else (none)))
end
def polyglotlaw13_MomentParts.f (k : Nat) (a0 : ByteArray) (a1 : Int) (a2 : Int) : Option (Bool) := (polyglotlaw13_head.f k).bind fun t249 => (if t249 = true then ((moment_Format.f k a0 a1 0).bind fun t250 => ((moment_Format.f k a0 a1 1).bind fun t251 => (if a0.toList = ([101, 110] : List UInt8) then (polyglotlaw13_MomentParts.j0 k a0 a1 a2 t250 t251 (⟨#[44, 32]⟩ : ByteArray)) else (polyglotlaw13_MomentParts.j0 k a0 a1 a2 t250 t251 (⟨#[32]⟩ : ByteArray))))) else (some false))
theorem polyglotlaw13_MomentParts.mono_l : ∀ k, (∀ y0 y1 y2 y3 y4 y5, LeO (polyglotlaw13_MomentParts.j0 k y0 y1 y2 y3 y4 y5) (polyglotlaw13_MomentParts.j0 (k + 1) y0 y1 y2 y3 y4 y5)) ∧ (∀ y0 y1 y2 y3 y4 y5 y6, LeO (polyglotlaw13_MomentParts.j1 k y0 y1 y2 y3 y4 y5 y6) (polyglotlaw13_MomentParts.j1 (k + 1) y0 y1 y2 y3 y4 y5 y6))
  | 0 => ⟨fun _ _ _ _ _ _ r h => by simp [polyglotlaw13_MomentParts.j0] at h, fun _ _ _ _ _ _ _ r h => by simp [polyglotlaw13_MomentParts.j1] at h⟩
  | k + 1 => by
    obtain ⟨ih0, ih1⟩ := polyglotlaw13_MomentParts.mono_l k
    refine ⟨?_, ?_⟩
    · intro y0 y1 y2 y3 y4 y5
      unfold polyglotlaw13_MomentParts.j0
      repeat' first
      | (with_reducible exact ih0 _ _ _ _ _ _)
      | (with_reducible exact ih1 _ _ _ _ _ _ _)
      | (with_reducible exact moment_Format.mono _ _ _ _)
      | (with_reducible exact polyglotlaw13_head.mono _)
      | (with_reducible exact LeO.refl _)
      | (with_reducible exact LeO.none _)
      | (with_reducible refine LeO.ite ?_ ?_)
      | (with_reducible refine LeO.bind ?_ (fun _ => ?_))
      | exact ih0 _ _ _ _ _ _
      | exact ih1 _ _ _ _ _ _ _
      | exact moment_Format.mono _ _ _ _
      | exact polyglotlaw13_head.mono _
      | exact LeO.none _
      | refine LeO.ite ?_ ?_
      | refine LeO.bind ?_ (fun _ => ?_)
    · intro y0 y1 y2 y3 y4 y5 y6
      unfold polyglotlaw13_MomentParts.j1
      repeat' first
      | (with_reducible exact ih0 _ _ _ _ _ _)
      | (with_reducible exact ih1 _ _ _ _ _ _ _)
      | (with_reducible exact moment_Format.mono _ _ _ _)
      | (with_reducible exact polyglotlaw13_head.mono _)
      | (with_reducible exact LeO.refl _)
      | (with_reducible exact LeO.none _)
      | (with_reducible refine LeO.ite ?_ ?_)
      | (with_reducible refine LeO.bind ?_ (fun _ => ?_))
      | exact ih0 _ _ _ _ _ _
      | exact ih1 _ _ _ _ _ _ _
      | exact moment_Format.mono _ _ _ _
      | exact polyglotlaw13_head.mono _
      | exact LeO.none _
      | refine LeO.ite ?_ ?_
      | refine LeO.bind ?_ (fun _ => ?_)
theorem polyglotlaw13_MomentParts.mono : ∀ a0 a1 a2 k, LeO (polyglotlaw13_MomentParts.f k a0 a1 a2) (polyglotlaw13_MomentParts.f (k + 1) a0 a1 a2) := by
  intro a0 a1 a2 k
  obtain ⟨ih0, ih1⟩ := polyglotlaw13_MomentParts.mono_l k
  unfold polyglotlaw13_MomentParts.f
  repeat' first
      | (with_reducible exact ih0 _ _ _ _ _ _)
      | (with_reducible exact ih1 _ _ _ _ _ _ _)
      | (with_reducible exact moment_Format.mono _ _ _ _)
      | (with_reducible exact polyglotlaw13_head.mono _)
      | (with_reducible exact LeO.refl _)
      | (with_reducible exact LeO.none _)
      | (with_reducible refine LeO.ite ?_ ?_)
      | (with_reducible refine LeO.bind ?_ (fun _ => ?_))
      | exact ih0 _ _ _ _ _ _
      | exact ih1 _ _ _ _ _ _ _
      | exact moment_Format.mono _ _ _ _
      | exact polyglotlaw13_head.mono _
      | exact LeO.none _
      | refine LeO.ite ?_ ?_
      | refine LeO.bind ?_ (fun _ => ?_)
set_option maxHeartbeats 8000000 in
set_option maxRecDepth 100000 in
theorem polyglotlaw13_MomentParts.calls (k : Nat) (a0 : ByteArray) (a1 : Int) (a2 : Int) (r : Bool) (w : World) (h : polyglotlaw13_MomentParts.f k a0 a1 a2 = some r) (hG : GW w := by first | exact hG | exact GW.drewN hG _ | exact GW.below hG (by first | exact HB.out | (with_reducible exact HB.out) | (repeat (first | (with_reducible first | exact HB.out | apply below_alloc | apply pw_below_drewN | apply below_drew1) | (refine below_setA ?_ (by assumption)) | exact HB.out)))) :
    Calls Tryd.prog 9 #[.string a0, .int .i64 a1, .int .i64 a2] w fun e w' => e = .returned (.bool r) ∧ Below w.heap.size w w' := by
  have HB := Aside0.mk (Below.refl w.heap.size w)
  have H : ((polyglotlaw13_head.f k).bind fun t249 => (if t249 = true then ((moment_Format.f k a0 a1 0).bind fun t250 => ((moment_Format.f k a0 a1 1).bind fun t251 => (if a0.toList = ([101, 110] : List UInt8) then (polyglotlaw13_MomentParts.j0 k a0 a1 a2 t250 t251 (⟨#[44, 32]⟩ : ByteArray)) else (polyglotlaw13_MomentParts.j0 k a0 a1 a2 t250 t251 (⟨#[32]⟩ : ByteArray))))) else (some false))) = some r := h
  clear h
  replace H := Option.bind_eq_some_iff.mp H
  obtain ⟨t249, A40, H⟩ := H
  replace H : (if t249 = true then ((moment_Format.f k a0 a1 0).bind fun t250 => ((moment_Format.f k a0 a1 1).bind fun t251 => (if a0.toList = ([101, 110] : List UInt8) then (polyglotlaw13_MomentParts.j0 k a0 a1 a2 t250 t251 (⟨#[44, 32]⟩ : ByteArray)) else (polyglotlaw13_MomentParts.j0 k a0 a1 a2 t250 t251 (⟨#[32]⟩ : ByteArray))))) else (some false)) = some r := H
  have A4 := Aside0.mk A40
  clear A40
  by_cases c5 : t249 = true
  · subst c5
    have H1 : ((moment_Format.f k a0 a1 0).bind fun t250 => ((moment_Format.f k a0 a1 1).bind fun t251 => (if a0.toList = ([101, 110] : List UInt8) then (polyglotlaw13_MomentParts.j0 k a0 a1 a2 t250 t251 (⟨#[44, 32]⟩ : ByteArray)) else (polyglotlaw13_MomentParts.j0 k a0 a1 a2 t250 t251 (⟨#[32]⟩ : ByteArray))))) = some r := by rw [if_pos rfl] at H; exact H
    clear H
    have H := H1
    clear H1
    replace H := Option.bind_eq_some_iff.mp H
    obtain ⟨t250, A60, H⟩ := H
    replace H : ((moment_Format.f k a0 a1 1).bind fun t251 => (if a0.toList = ([101, 110] : List UInt8) then (polyglotlaw13_MomentParts.j0 k a0 a1 a2 t250 t251 (⟨#[44, 32]⟩ : ByteArray)) else (polyglotlaw13_MomentParts.j0 k a0 a1 a2 t250 t251 (⟨#[32]⟩ : ByteArray)))) = some r := H
    have A6 := Aside0.mk A60
    clear A60
    replace H := Option.bind_eq_some_iff.mp H
    obtain ⟨t251, A70, H⟩ := H
    replace H : (if a0.toList = ([101, 110] : List UInt8) then (polyglotlaw13_MomentParts.j0 k a0 a1 a2 t250 t251 (⟨#[44, 32]⟩ : ByteArray)) else (polyglotlaw13_MomentParts.j0 k a0 a1 a2 t250 t251 (⟨#[32]⟩ : ByteArray))) = some r := H
    have A7 := Aside0.mk A70
    clear A70
    have HC8 := Aside0.mk H
    clear H
    go_enter Tryd.func9, Tryd.ntmps9
    go_upto_if 19 with (first | ((with_reducible refine gate_callee (f := 23) rfl ?_); refine goesL_ (some 10) rfl rfl Tryd.func23 (by kernel_rfl) rfl #[] rfl (by (try simp only [List.map_toArray, List.map_cons, List.map_nil]); first | done | rfl | (simp only [List.length_drop, List.length_take]; rfl)) ?_; (with_reducible refine (polyglotlaw13_head.calls k  true _ A4.out).mono ?_); rintro e w9 ⟨rfl, hb⟩; refine ⟨_, rfl, ?_⟩; have n0_ := Aside0.mk (below_step (by repeat (first | (with_reducible first | exact HB.out | apply below_alloc | apply pw_below_drewN | apply below_drew1) | exact HB.out)) hb); clear HB; have HB := n0_; clear n0_; (try clear hb); (try clear hb2); (try clear hk); (try clear hi)) | ((with_reducible refine gate_callee (f := 24) rfl ?_); refine goesL_ (some 14) rfl rfl Tryd.func24 (by kernel_rfl) rfl #[.string a0, .int .i64 a1, .int .i64 0] rfl (by (try simp only [List.map_toArray, List.map_cons, List.map_nil]); first | done | rfl | (simp only [List.length_drop, List.length_take]; rfl)) ?_; (with_reducible refine (moment_Format.calls k a0 a1 0 t250 _ A6.out).mono ?_); rintro e w10 ⟨rfl, hb⟩; refine ⟨_, rfl, ?_⟩; have n0_ := Aside0.mk (below_step (by repeat (first | (with_reducible first | exact HB.out | apply below_alloc | apply pw_below_drewN | apply below_drew1) | exact HB.out)) hb); clear HB; have HB := n0_; clear n0_; (try clear hb); (try clear hb2); (try clear hk); (try clear hi)) | ((with_reducible refine gate_callee (f := 24) rfl ?_); refine goesL_ (some 17) rfl rfl Tryd.func24 (by kernel_rfl) rfl #[.string a0, .int .i64 a1, .int .i64 1] rfl (by (try simp only [List.map_toArray, List.map_cons, List.map_nil]); first | done | rfl | (simp only [List.length_drop, List.length_take]; rfl)) ?_; (with_reducible refine (moment_Format.calls k a0 a1 1 t251 _ A7.out).mono ?_); rintro e w11 ⟨rfl, hb⟩; refine ⟨_, rfl, ?_⟩; have n0_ := Aside0.mk (below_step (by repeat (first | (with_reducible first | exact HB.out | apply below_alloc | apply pw_below_drewN | apply below_drew1) | exact HB.out)) hb); clear HB; have HB := n0_; clear n0_; (try clear hb); (try clear hb2); (try clear hk); (try clear hi)))
    (try simp only [Act.put, List.setIfInBounds_toArray, List.set_cons_zero, List.set_cons_succ])
    go_cut [9] (fun v9 wc => ∃ (kq : Nat) (x9_7 : ByteArray), v9 = .string x9_7 ∧ Aside0 (polyglotlaw13_MomentParts.j0 kq a0 a1 a2 t250 t251 x9_7 = some r) ∧ Aside0 (kq ≤ k) ∧ Aside0 (Below w.heap.size w wc))
    case first =>
      have H := HC8.out
      clear HC8
      by_cases c12 : a0.toList = ([101, 110] : List UInt8)
      · rw [if_pos c12] at H
        have c12b0 : (a0.toList == ([101, 110] : List UInt8)) = true := beq_iff_eq.mpr c12
        have c12b1 : (a0.toList != ([101, 110] : List UInt8)) = false := bne_eq_false_iff_eq.mpr c12
        clear c12
        (first | rw [c12b0] | (simp only [i64_w, i32_w]; rw [c12b0]) | skip)
        have H' := Aside0.mk H
        clear H
        go_wp2
        go_meet
        case rel => exact ⟨_, ((⟨#[44, 32]⟩ : ByteArray)), (by first | rfl | (simp; done) | (simp [*]; done)), H', ⟨by first | omega | exact Nat.le_refl _⟩, ⟨by repeat (first | (with_reducible first | exact HB.out | apply below_alloc | apply pw_below_drewN | apply below_drew1) | exact HB.out)⟩⟩
      · rw [if_neg c12] at H
        have c12b0 : (a0.toList == ([101, 110] : List UInt8)) = false := beq_eq_false_iff_ne.mpr c12
        have c12b1 : (a0.toList != ([101, 110] : List UInt8)) = true := bne_iff_ne.mpr c12
        (first | rw [c12b0] | (simp only [i64_w, i32_w]; rw [c12b0]) | skip)
        have H' := Aside0.mk H
        clear H
        go_wp2
        go_meet
        case rel => exact ⟨_, ((⟨#[32]⟩ : ByteArray)), (by first | rfl | (simp; done) | (simp [*]; done)), H', ⟨by first | omega | exact Nat.le_refl _⟩, ⟨by repeat (first | (with_reducible first | exact HB.out | apply below_alloc | apply pw_below_drewN | apply below_drew1) | exact HB.out)⟩⟩
    case rest =>
      clear HC8
      try clear c1
      try clear c2
      try clear p2
      try clear c5
      try clear c9
      try clear c12
      try clear c12b0
      try clear c12b1
      obtain ⟨kq, x9_7, rfl, HA, HJ7, HB⟩ := hcut
      cases kq with
      | zero => exact absurd HA.out (by simp [polyglotlaw13_MomentParts.j0])
      | succ kj7 =>
        have H := HA.out
        clear HA
        simp only [polyglotlaw13_MomentParts.j0] at H
        have HC13 := Aside0.mk H
        clear H
        go_upto_region 8 with (fail)
        go_cut [25] (fun v25 wc => ∃ (kq : Nat) (x25_12 : Bool), v25 = .bool x25_12 ∧ Aside0 (polyglotlaw13_MomentParts.j1 kq a0 a1 a2 t250 t251 x9_7 x25_12 = some r) ∧ Aside0 (kq ≤ kj7) ∧ Aside0 (Below w.heap.size w wc))
        case first =>
          have H := HC13.out
          clear HC13
          by_cases c14 : a2 ≥ 0
          · rw [if_pos c14] at H
            have c14b0 : decide (0 ≤ a2) = true := decide_eq_true c14
            clear c14
            (first | rw [c14b0] | (simp only [i64_w, i32_w]; rw [c14b0]) | skip)
            have H' := Aside0.mk H
            clear H
            go_wp2
            go_meet
            case rel => exact ⟨_, (decide (a2 ≤ 2)), (by first | rfl | (simp; done) | (simp [*]; done)), H', ⟨by have := HJ7.out; first | omega | exact Nat.le_refl _⟩, ⟨by repeat (first | (with_reducible first | exact HB.out | apply below_alloc | apply pw_below_drewN | apply below_drew1) | exact HB.out)⟩⟩
          · rw [if_neg c14] at H
            have c14b0 : decide (0 ≤ a2) = false := decide_eq_false c14
            clear c14
            (first | rw [c14b0] | (simp only [i64_w, i32_w]; rw [c14b0]) | skip)
            have H' := Aside0.mk H
            clear H
            go_wp2
            go_meet
            case rel => exact ⟨_, (false), (by first | rfl | (simp; done) | (simp [*]; done)), H', ⟨by have := HJ7.out; first | omega | exact Nat.le_refl _⟩, ⟨by repeat (first | (with_reducible first | exact HB.out | apply below_alloc | apply pw_below_drewN | apply below_drew1) | exact HB.out)⟩⟩
        case rest =>
          clear HC13
          try clear c1
          try clear c2
          try clear p2
          try clear c5
          try clear c9
          try clear c12
          try clear c12b0
          try clear c12b1
          try clear c14
          try clear c14b0
          try clear p2
          obtain ⟨kq, x25_12, rfl, HA, HJ12, HB⟩ := hcut
          cases kq with
          | zero => exact absurd HA.out (by simp [polyglotlaw13_MomentParts.j1])
          | succ kj12 =>
            have H := HA.out
            clear HA
            simp only [polyglotlaw13_MomentParts.j1] at H
            by_cases c15 : x25_12 = true
            · subst c15
              have H1 : ((moment_Format.f kj12 a0 a1 2).bind fun t252 => (if t250.size + x9_7.size ≤ 9223372036854775807 then ((some (t250 ++ x9_7 : ByteArray)).bind fun y253 => (if y253.size + t251.size ≤ 9223372036854775807 then ((some (y253 ++ t251 : ByteArray)).bind fun y254 => (if t252.toList = y254.toList then ((moment_Format.f kj12 a0 a1 (wrap64 (a2 + 3))).bind fun t255 => (some (t255.toList == t250.toList))) else (some false))) else (none))) else (none))) = some r := by rw [if_pos rfl] at H; exact H
              clear H
              have H := H1
              clear H1
              replace H := Option.bind_eq_some_iff.mp H
              obtain ⟨t252, A160, H⟩ := H
              replace H : (if t250.size + x9_7.size ≤ 9223372036854775807 then ((some (t250 ++ x9_7 : ByteArray)).bind fun y253 => (if y253.size + t251.size ≤ 9223372036854775807 then ((some (y253 ++ t251 : ByteArray)).bind fun y254 => (if t252.toList = y254.toList then ((moment_Format.f kj12 a0 a1 (wrap64 (a2 + 3))).bind fun t255 => (some (t255.toList == t250.toList))) else (some false))) else (none))) else (none)) = some r := H
              have A16 := Aside0.mk A160
              clear A160
              by_cases c17 : t250.size + x9_7.size ≤ 9223372036854775807
              · rw [if_pos c17] at H
                have c17b0 := eq_true c17
                have c17b1 : decide (t250.size + x9_7.size ≤ 9223372036854775807) = true := decide_eq_true c17
                try have c17b2 : (9223372036854775807 < t250.size + x9_7.size) = False := eq_false (Nat.not_lt.2 c17)
                replace H := Option.bind_eq_some_iff.mp H
                obtain ⟨y253, hy2530, H⟩ := H
                replace H : (if y253.size + t251.size ≤ 9223372036854775807 then ((some (y253 ++ t251 : ByteArray)).bind fun y254 => (if t252.toList = y254.toList then ((moment_Format.f kj12 a0 a1 (wrap64 (a2 + 3))).bind fun t255 => (some (t255.toList == t250.toList))) else (some false))) else (none)) = some r := H
                have hy253 : t250 ++ x9_7 = y253 := Option.some.inj hy2530
                clear hy2530
                by_cases c18 : y253.size + t251.size ≤ 9223372036854775807
                · rw [if_pos c18] at H
                  have c18b0 := eq_true c18
                  have c18b1 : decide (y253.size + t251.size ≤ 9223372036854775807) = true := decide_eq_true c18
                  try have c18b2 : (9223372036854775807 < y253.size + t251.size) = False := eq_false (Nat.not_lt.2 c18)
                  replace H := Option.bind_eq_some_iff.mp H
                  obtain ⟨y254, hy2540, H⟩ := H
                  replace H : (if t252.toList = y254.toList then ((moment_Format.f kj12 a0 a1 (wrap64 (a2 + 3))).bind fun t255 => (some (t255.toList == t250.toList))) else (some false)) = some r := H
                  have hy254 : y253 ++ t251 = y254 := Option.some.inj hy2540
                  clear hy2540
                  by_cases c19 : t252.toList = y254.toList
                  · rw [if_pos c19] at H
                    have c19b0 : (t252.toList == y254.toList) = true := beq_iff_eq.mpr c19
                    have c19b1 : (t252.toList != y254.toList) = false := bne_eq_false_iff_eq.mpr c19
                    clear c19
                    replace H := Option.bind_eq_some_iff.mp H
                    obtain ⟨t255, A200, H⟩ := H
                    replace H : (some (t255.toList == t250.toList)) = some r := H
                    have A20 := Aside0.mk A200
                    clear A200
                    obtain rfl := Option.some.inj H
                    go_wp2_with (first | ((with_reducible refine gate_callee (f := 24) rfl ?_); refine goesL_ (some 30) rfl rfl Tryd.func24 (by kernel_rfl) rfl #[.string a0, .int .i64 a1, .int .i64 2] rfl (by (try simp only [List.map_toArray, List.map_cons, List.map_nil]); first | done | rfl | (simp only [List.length_drop, List.length_take]; rfl)) ?_; (with_reducible refine (moment_Format.calls kj12 a0 a1 2 t252 _ A16.out).mono ?_); rintro e w21 ⟨rfl, hb⟩; refine ⟨_, rfl, ?_⟩; have n0_ := Aside0.mk (below_step (by repeat (first | (with_reducible first | exact HB.out | apply below_alloc | apply pw_below_drewN | apply below_drew1) | exact HB.out)) hb); clear HB; have HB := n0_; clear n0_; (try clear hb); (try clear hb2); (try clear hk); (try clear hi)) | (go_at_call 24; (with_reducible refine (moment_Format.calls kj12 a0 a1 (wrap64 (a2 + 3)) t255 _ A20.out).mono ?_); rintro e w22 ⟨rfl, hb⟩; have n0_ := Aside0.mk (below_step (by repeat (first | (with_reducible first | exact HB.out | apply below_alloc | apply pw_below_drewN | apply below_drew1) | exact HB.out)) hb); clear HB; have HB := n0_; clear n0_; (try clear hb); (try clear hb2); (try clear hk); (try clear hi)))
                    go_ret
                    exact ⟨by first | rfl | (simp [errW_none, errW_some] <;> rfl) | (simp [*, errW_none, errW_some] <;> rfl), by repeat (first | (with_reducible first | exact HB.out | apply below_alloc | apply pw_below_drewN | apply below_drew1) | exact HB.out)⟩
                  · rw [if_neg c19] at H
                    have c19b0 : (t252.toList == y254.toList) = false := beq_eq_false_iff_ne.mpr c19
                    have c19b1 : (t252.toList != y254.toList) = true := bne_iff_ne.mpr c19
                    obtain rfl := Option.some.inj H
                    go_wp2_with (first | ((with_reducible refine gate_callee (f := 24) rfl ?_); refine goesL_ (some 30) rfl rfl Tryd.func24 (by kernel_rfl) rfl #[.string a0, .int .i64 a1, .int .i64 2] rfl (by (try simp only [List.map_toArray, List.map_cons, List.map_nil]); first | done | rfl | (simp only [List.length_drop, List.length_take]; rfl)) ?_; (with_reducible refine (moment_Format.calls kj12 a0 a1 2 t252 _ A16.out).mono ?_); rintro e w23 ⟨rfl, hb⟩; refine ⟨_, rfl, ?_⟩; have n0_ := Aside0.mk (below_step (by repeat (first | (with_reducible first | exact HB.out | apply below_alloc | apply pw_below_drewN | apply below_drew1) | exact HB.out)) hb); clear HB; have HB := n0_; clear n0_; (try clear hb); (try clear hb2); (try clear hk); (try clear hi)))
                    go_ret
                    exact ⟨by first | rfl | (simp [errW_none, errW_some] <;> rfl) | (simp [*, errW_none, errW_some] <;> rfl), by repeat (first | (with_reducible first | exact HB.out | apply below_alloc | apply pw_below_drewN | apply below_drew1) | exact HB.out)⟩
                · rw [if_neg c18] at H
                  exact absurd H (by simp)
              · rw [if_neg c17] at H
                exact absurd H (by simp)
            · replace c15 := Bool.eq_false_iff.mpr c15
              subst c15
              have H1 : ((moment_Format.f kj12 a0 a1 2).bind fun t256 => (if t250.size + x9_7.size ≤ 9223372036854775807 then ((some (t250 ++ x9_7 : ByteArray)).bind fun y257 => (if y257.size + t251.size ≤ 9223372036854775807 then ((some (y257 ++ t251 : ByteArray)).bind fun y258 => (if t256.toList = y258.toList then ((moment_Format.f kj12 a0 a1 a2).bind fun t259 => (some (t259.toList == t250.toList))) else (some false))) else (none))) else (none))) = some r := by rw [if_neg (show ¬ (false = true) by decide)] at H; exact H
              clear H
              have H := H1
              clear H1
              replace H := Option.bind_eq_some_iff.mp H
              obtain ⟨t256, A240, H⟩ := H
              replace H : (if t250.size + x9_7.size ≤ 9223372036854775807 then ((some (t250 ++ x9_7 : ByteArray)).bind fun y257 => (if y257.size + t251.size ≤ 9223372036854775807 then ((some (y257 ++ t251 : ByteArray)).bind fun y258 => (if t256.toList = y258.toList then ((moment_Format.f kj12 a0 a1 a2).bind fun t259 => (some (t259.toList == t250.toList))) else (some false))) else (none))) else (none)) = some r := H
              have A24 := Aside0.mk A240
              clear A240
              by_cases c25 : t250.size + x9_7.size ≤ 9223372036854775807
              · rw [if_pos c25] at H
                have c25b0 := eq_true c25
                have c25b1 : decide (t250.size + x9_7.size ≤ 9223372036854775807) = true := decide_eq_true c25
                try have c25b2 : (9223372036854775807 < t250.size + x9_7.size) = False := eq_false (Nat.not_lt.2 c25)
                replace H := Option.bind_eq_some_iff.mp H
                obtain ⟨y257, hy2570, H⟩ := H
                replace H : (if y257.size + t251.size ≤ 9223372036854775807 then ((some (y257 ++ t251 : ByteArray)).bind fun y258 => (if t256.toList = y258.toList then ((moment_Format.f kj12 a0 a1 a2).bind fun t259 => (some (t259.toList == t250.toList))) else (some false))) else (none)) = some r := H
                have hy257 : t250 ++ x9_7 = y257 := Option.some.inj hy2570
                clear hy2570
                by_cases c26 : y257.size + t251.size ≤ 9223372036854775807
                · rw [if_pos c26] at H
                  have c26b0 := eq_true c26
                  have c26b1 : decide (y257.size + t251.size ≤ 9223372036854775807) = true := decide_eq_true c26
                  try have c26b2 : (9223372036854775807 < y257.size + t251.size) = False := eq_false (Nat.not_lt.2 c26)
                  replace H := Option.bind_eq_some_iff.mp H
                  obtain ⟨y258, hy2580, H⟩ := H
                  replace H : (if t256.toList = y258.toList then ((moment_Format.f kj12 a0 a1 a2).bind fun t259 => (some (t259.toList == t250.toList))) else (some false)) = some r := H
                  have hy258 : y257 ++ t251 = y258 := Option.some.inj hy2580
                  clear hy2580
                  by_cases c27 : t256.toList = y258.toList
                  · rw [if_pos c27] at H
                    have c27b0 : (t256.toList == y258.toList) = true := beq_iff_eq.mpr c27
                    have c27b1 : (t256.toList != y258.toList) = false := bne_eq_false_iff_eq.mpr c27
                    clear c27
                    replace H := Option.bind_eq_some_iff.mp H
                    obtain ⟨t259, A280, H⟩ := H
                    replace H : (some (t259.toList == t250.toList)) = some r := H
                    have A28 := Aside0.mk A280
                    clear A280
                    obtain rfl := Option.some.inj H
                    go_wp2_with (first | ((with_reducible refine gate_callee (f := 24) rfl ?_); refine goesL_ (some 30) rfl rfl Tryd.func24 (by kernel_rfl) rfl #[.string a0, .int .i64 a1, .int .i64 2] rfl (by (try simp only [List.map_toArray, List.map_cons, List.map_nil]); first | done | rfl | (simp only [List.length_drop, List.length_take]; rfl)) ?_; (with_reducible refine (moment_Format.calls kj12 a0 a1 2 t256 _ A24.out).mono ?_); rintro e w29 ⟨rfl, hb⟩; refine ⟨_, rfl, ?_⟩; have n0_ := Aside0.mk (below_step (by repeat (first | (with_reducible first | exact HB.out | apply below_alloc | apply pw_below_drewN | apply below_drew1) | exact HB.out)) hb); clear HB; have HB := n0_; clear n0_; (try clear hb); (try clear hb2); (try clear hk); (try clear hi)) | (go_at_call 24; (with_reducible refine (moment_Format.calls kj12 a0 a1 a2 t259 _ A28.out).mono ?_); rintro e w30 ⟨rfl, hb⟩; have n0_ := Aside0.mk (below_step (by repeat (first | (with_reducible first | exact HB.out | apply below_alloc | apply pw_below_drewN | apply below_drew1) | exact HB.out)) hb); clear HB; have HB := n0_; clear n0_; (try clear hb); (try clear hb2); (try clear hk); (try clear hi)))
                    go_ret
                    exact ⟨by first | rfl | (simp [errW_none, errW_some] <;> rfl) | (simp [*, errW_none, errW_some] <;> rfl), by repeat (first | (with_reducible first | exact HB.out | apply below_alloc | apply pw_below_drewN | apply below_drew1) | exact HB.out)⟩
                  · rw [if_neg c27] at H
                    have c27b0 : (t256.toList == y258.toList) = false := beq_eq_false_iff_ne.mpr c27
                    have c27b1 : (t256.toList != y258.toList) = true := bne_iff_ne.mpr c27
                    obtain rfl := Option.some.inj H
                    go_wp2_with (first | ((with_reducible refine gate_callee (f := 24) rfl ?_); refine goesL_ (some 30) rfl rfl Tryd.func24 (by kernel_rfl) rfl #[.string a0, .int .i64 a1, .int .i64 2] rfl (by (try simp only [List.map_toArray, List.map_cons, List.map_nil]); first | done | rfl | (simp only [List.length_drop, List.length_take]; rfl)) ?_; (with_reducible refine (moment_Format.calls kj12 a0 a1 2 t256 _ A24.out).mono ?_); rintro e w31 ⟨rfl, hb⟩; refine ⟨_, rfl, ?_⟩; have n0_ := Aside0.mk (below_step (by repeat (first | (with_reducible first | exact HB.out | apply below_alloc | apply pw_below_drewN | apply below_drew1) | exact HB.out)) hb); clear HB; have HB := n0_; clear n0_; (try clear hb); (try clear hb2); (try clear hk); (try clear hi)))
                    go_ret
                    exact ⟨by first | rfl | (simp [errW_none, errW_some] <;> rfl) | (simp [*, errW_none, errW_some] <;> rfl), by repeat (first | (with_reducible first | exact HB.out | apply below_alloc | apply pw_below_drewN | apply below_drew1) | exact HB.out)⟩
                · rw [if_neg c26] at H
                  exact absurd H (by simp)
              · rw [if_neg c25] at H
                exact absurd H (by simp)
  · replace c5 := Bool.eq_false_iff.mpr c5
    subst c5
    have H1 : (some false) = some r := by rw [if_neg (show ¬ (false = true) by decide)] at H; exact H
    clear H
    have H := H1
    clear H1
    obtain rfl := Option.some.inj H
    go_enter Tryd.func9, Tryd.ntmps9
    go_wp2_with (first | ((with_reducible refine gate_callee (f := 23) rfl ?_); refine goesL_ (some 10) rfl rfl Tryd.func23 (by kernel_rfl) rfl #[] rfl (by (try simp only [List.map_toArray, List.map_cons, List.map_nil]); first | done | rfl | (simp only [List.length_drop, List.length_take]; rfl)) ?_; (with_reducible refine (polyglotlaw13_head.calls k  false _ A4.out).mono ?_); rintro e w32 ⟨rfl, hb⟩; refine ⟨_, rfl, ?_⟩; have n0_ := Aside0.mk (below_step (by repeat (first | (with_reducible first | exact HB.out | apply below_alloc | apply pw_below_drewN | apply below_drew1) | exact HB.out)) hb); clear HB; have HB := n0_; clear n0_; (try clear hb); (try clear hb2); (try clear hk); (try clear hi)))
    go_ret
    exact ⟨by first | rfl | (simp [errW_none, errW_some] <;> rfl) | (simp [*, errW_none, errW_some] <;> rfl), by repeat (first | (with_reducible first | exact HB.out | apply below_alloc | apply pw_below_drewN | apply below_drew1) | exact HB.out)⟩

/-- THE ONE PURE STATEMENT of polyglotlaw13_MomentParts: yours. -/
def polyglotlaw13_MomentParts.Pure : Prop := ∀ (a0 : ByteArray) (a1 : Int) (a2 : Int), a0.size ≤ 140737488351232 → (Lit.int .i64 a1).wf = true → (Lit.int .i64 a2).wf = true → ∃ k, polyglotlaw13_MomentParts.f k a0 a1 a2 = some true
theorem polyglotlaw13_MomentParts.walk (P : polyglotlaw13_MomentParts.Pure) (a0 : ByteArray) (a1 : Int) (a2 : Int) (w : World) (w0 : a0.size ≤ 140737488351232) (w1 : (Lit.int .i64 a1).wf = true) (w2 : (Lit.int .i64 a2).wf = true) (hG : GW w) :
    Calls Tryd.prog 9 #[.string a0, .int .i64 a1, .int .i64 a2] w fun e w' => e = .returned (.bool true) ∧ Below w.heap.size w w' := by
  obtain ⟨k, h⟩ := P a0 a1 a2 w0 w1 w2
  refine (polyglotlaw13_MomentParts.calls k a0 a1 a2 true w h).mono ?_
  rintro e w' ⟨rfl, hd⟩
  exact ⟨rfl, hd⟩

/-! ### moment_Parse: function 26 -/
def moment_Parse.l0 : Nat → ByteArray → List ByteArray → Int → Int → Option (Int × Bool)
  | 0, _, _, _, _ => none
  | k + 1, x0, x6, x7, x8 => if x8 < x7 then (if 0 ≤ x8 then (if x8 < (x6.length : Int) then (if (rdOf ByteArray.empty x6 x8).toList = x0.toList then (some (x8, true)) else (moment_Parse.l0 k x0 x6 x7 (wrap64 (x8 + 1)))) else (none)) else (none)) else (some (0, false))
def moment_Parse.f (k : Nat) (a0 : ByteArray) : Option (Int × Bool) := (some (([(⟨#[100, 97, 116, 101]⟩ : ByteArray), (⟨#[116, 105, 109, 101]⟩ : ByteArray), (⟨#[102, 117, 108, 108]⟩ : ByteArray)] : List ByteArray) : List ByteArray)).bind fun y260 => (moment_Parse.l0 k a0 y260 (y260.length : Int) 0)
theorem moment_Parse.mono_l : ∀ k, (∀ y0 y1 y2 y3, LeO (moment_Parse.l0 k y0 y1 y2 y3) (moment_Parse.l0 (k + 1) y0 y1 y2 y3))
  | 0 => fun _ _ _ _ r h => by simp [moment_Parse.l0] at h
  | k + 1 => by
    have ih0 := moment_Parse.mono_l k
    · intro y0 y1 y2 y3
      unfold moment_Parse.l0
      repeat' first
      | (with_reducible exact ih0 _ _ _ _)
      | (with_reducible exact LeO.refl _)
      | (with_reducible exact LeO.none _)
      | (with_reducible refine LeO.ite ?_ ?_)
      | (with_reducible refine LeO.bind ?_ (fun _ => ?_))
      | exact ih0 _ _ _ _
      | exact LeO.none _
      | refine LeO.ite ?_ ?_
      | refine LeO.bind ?_ (fun _ => ?_)
theorem moment_Parse.mono : ∀ a0 k, LeO (moment_Parse.f k a0) (moment_Parse.f (k + 1) a0) := by
  intro a0 k
  have ih0 := moment_Parse.mono_l k
  unfold moment_Parse.f
  repeat' first
      | (with_reducible exact ih0 _ _ _ _)
      | (with_reducible exact LeO.refl _)
      | (with_reducible exact LeO.none _)
      | (with_reducible refine LeO.ite ?_ ?_)
      | (with_reducible refine LeO.bind ?_ (fun _ => ?_))
      | exact ih0 _ _ _ _
      | exact LeO.none _
      | refine LeO.ite ?_ ?_
      | refine LeO.bind ?_ (fun _ => ?_)
set_option maxHeartbeats 8000000 in
set_option maxRecDepth 100000 in
theorem moment_Parse.calls (k : Nat) (a0 : ByteArray) (r1 : Int) (r2 : Bool) (w : World) (h : moment_Parse.f k a0 = some (r1, r2)) :
    Calls Tryd.prog 26 #[.string a0] w fun e w' => e = .returned (.tuple #[.int .i64 r1, .bool r2]) ∧ Below w.heap.size w w' := by
  have HB := Aside0.mk (Below.refl w.heap.size w)
  have H : ((some (([(⟨#[100, 97, 116, 101]⟩ : ByteArray), (⟨#[116, 105, 109, 101]⟩ : ByteArray), (⟨#[102, 117, 108, 108]⟩ : ByteArray)] : List ByteArray) : List ByteArray)).bind fun y260 => (moment_Parse.l0 k a0 y260 (y260.length : Int) 0)) = some (r1, r2) := h
  clear h
  obtain ⟨y260, hy260⟩ : ∃ y_ : List ByteArray, y_ = (([(⟨#[100, 97, 116, 101]⟩ : ByteArray), (⟨#[116, 105, 109, 101]⟩ : ByteArray), (⟨#[102, 117, 108, 108]⟩ : ByteArray)] : List ByteArray)) := ⟨_, rfl⟩
  replace H : (moment_Parse.l0 k a0 y260 (y260.length : Int) 0) = some (r1, r2) := by first | (rw [hy260]; with_reducible exact H) | (have H2_ := (Option.bind_some _ _).symm.trans H; rw [hy260]; with_reducible exact H2_) | (have H2_ := (Option.bind_some _ _).symm.trans H; with_reducible exact H2_) | with_reducible exact H | (rw [hy260]; exact H) | exact H
  have Ny260 := Aside0.mk hy260
  clear hy260
  have H' := Aside0.mk H
  clear H
  go_enter Tryd.func26, Tryd.ntmps26
  go_wp2_with (first | ((with_reducible refine gate_dst (N := 6) rfl ?_); refine Kd.R_lit Kd.string _ 9 ?hg (N := 6) ?hd (xs := ([(⟨#[100, 97, 116, 101]⟩ : ByteArray), (⟨#[116, 105, 109, 101]⟩ : ByteArray), (⟨#[102, 117, 108, 108]⟩ : ByteArray)] : List ByteArray)) (inner := [.string (⟨#[100, 97, 116, 101]⟩ : ByteArray), .string (⟨#[116, 105, 109, 101]⟩ : ByteArray), .string (⟨#[102, 117, 108, 108]⟩ : ByteArray)]) (ok := fun _ => True) (okp := fun _ => True) ?hr ?hp (fun _ hk => hk) trivial (Below.refl _ _) (Nat.le_refl _) (by simp) ?_; (case hd => rfl); (case hg => rfl); (case hr => first | (go_simp; done) | (go_simp; rfl)); (case hp => exact (Reps.one (show Kd.M Kd.string _ _ _ (⟨#[100, 97, 116, 101]⟩ : ByteArray) [.string (⟨#[100, 97, 116, 101]⟩ : ByteArray)] from rfl) (Reps.one (show Kd.M Kd.string _ _ _ (⟨#[116, 105, 109, 101]⟩ : ByteArray) [.string (⟨#[116, 105, 109, 101]⟩ : ByteArray)] from rfl) (Reps.one (show Kd.M Kd.string _ _ _ (⟨#[102, 117, 108, 108]⟩ : ByteArray) [.string (⟨#[102, 117, 108, 108]⟩ : ByteArray)] from rfl) (Reps.none _ _))))); intro v261 w2 ho3 hb hg_ hnew_; clear hg_ hnew_; (first | rw [← Ny260.out] at ho3 | (simp only [Int.reduceToNat] at ho3; rw [← Ny260.out] at ho3)); have n0_ := Aside0.mk (Kd.R_lower ho3 (below_size (by repeat (first | (with_reducible first | exact HB.out | apply below_alloc | apply pw_below_drewN | apply below_drew1) | exact HB.out)))); have n1_ := Aside0.mk (below_step (by repeat (first | (with_reducible first | exact HB.out | apply below_alloc | apply pw_below_drewN | apply below_drew1) | exact HB.out)) hb); clear HB; have HO262 := n0_; have HB := n1_; clear n0_ n1_; clear hb ho3; obtain ⟨Ao4, co4, eo4⟩ := Kd.R_slice HO262.out; subst eo4))
  go_loopg [8] k (fun kq v8 w' => ∃ (x8_l1 : Int), v8 = .int .i64 x8_l1 ∧ Aside0 (moment_Parse.l0 kq a0 y260 (y260.length : Int) x8_l1 = some (r1, r2)) ∧ Aside0 (kq ≤ k) ∧ Aside0 (Kd.R Kd.string 9 w' w.heap.size (fun _ => True) (.slice Ao4 y260.length co4) y260) ∧ Aside0 (Below w.heap.size w w'))
  case atStart => exact ⟨(0), (by first | rfl | (simp; done) | (simp [*]; done)), H', ⟨Nat.le_refl _⟩, ⟨by (with_reducible repeat (first | apply Kd.R_alloc | apply Kd.R_drewN | apply Kd.R_drew)); exact HO262.out⟩, ⟨by repeat (first | (with_reducible first | exact HB.out | apply below_alloc | apply pw_below_drewN | apply below_drew1) | exact HB.out)⟩⟩
  case round =>
    clear H'
    try clear c2
    try clear p2
    obtain ⟨x8_l1, rfl, HA, HK1, HO_6, HB⟩ := hrel
    cases gk with
    | zero => exact absurd HA.out (by simp [moment_Parse.l0])
    | succ k1 =>
      have H := HA.out
      clear HA
      simp only [moment_Parse.l0] at H
      by_cases c5 : x8_l1 < (y260.length : Int)
      · rw [if_pos c5] at H
        have c5b0 : decide (x8_l1 < (y260.length : Int)) = true := decide_eq_true c5
        clear c5
        by_cases c6 : 0 ≤ x8_l1
        · rw [if_pos c6] at H
          have c6b0 : decide (0 ≤ x8_l1) = true := decide_eq_true c6
          clear c6
          by_cases c7 : x8_l1 < (y260.length : Int)
          · rw [if_pos c7] at H
            have c7b0 : decide (x8_l1 < (y260.length : Int)) = true := decide_eq_true c7
            clear c7
            by_cases c8 : (rdOf ByteArray.empty y260 x8_l1).toList = a0.toList
            · rw [if_pos c8] at H
              have c8b0 : ((rdOf ByteArray.empty y260 x8_l1).toList == a0.toList) = true := beq_iff_eq.mpr c8
              have c8b1 : ((rdOf ByteArray.empty y260 x8_l1).toList != a0.toList) = false := bne_eq_false_iff_eq.mpr c8
              clear c8
              simp only [Option.some.injEq, Prod.mk.injEq] at H
              obtain ⟨rfl, rfl⟩ := H
              have p263 : 0 ≤ (x8_l1 : Int) := of_decide_eq_true (by first | (with_reducible assumption) | assumption)
              have q263 : x8_l1 < (y260.length : Int) := of_decide_eq_true (by first | (with_reducible assumption) | assumption)
              obtain ⟨ad263, e263, hx263_0⟩ := Kd.at_string (Kd.R_reads' HO_6.out).2.2 x8_l1 p263 q263
              cases e263
              replace p263 := eq_true p263
              replace q263 := eq_true q263
              go_wp2
              go_ret2
              exact ⟨by first | rfl | (simp [errW_none, errW_some] <;> rfl) | (simp [*, errW_none, errW_some] <;> rfl), by repeat (first | (with_reducible first | exact HB.out | apply below_alloc | apply pw_below_drewN | apply below_drew1) | exact HB.out)⟩
            · rw [if_neg c8] at H
              have c8b0 : ((rdOf ByteArray.empty y260 x8_l1).toList == a0.toList) = false := beq_eq_false_iff_ne.mpr c8
              have c8b1 : ((rdOf ByteArray.empty y260 x8_l1).toList != a0.toList) = true := bne_iff_ne.mpr c8
              have H' := Aside0.mk H
              clear H
              have p263 : 0 ≤ (x8_l1 : Int) := of_decide_eq_true (by first | (with_reducible assumption) | assumption)
              have q263 : x8_l1 < (y260.length : Int) := of_decide_eq_true (by first | (with_reducible assumption) | assumption)
              obtain ⟨ad263, e263, hx263_0⟩ := Kd.at_string (Kd.R_reads' HO_6.out).2.2 x8_l1 p263 q263
              cases e263
              replace p263 := eq_true p263
              replace q263 := eq_true q263
              go_wp2
              go_roundg k1
              case measure => have := HK1.out; omega
              case rel => exact ⟨(wrap64 (x8_l1 + 1)), (by first | rfl | (simp; done) | (simp [*]; done)), H', ⟨by have := HK1.out; omega⟩, ⟨by (with_reducible repeat (first | apply Kd.R_alloc | apply Kd.R_drewN | apply Kd.R_drew)); exact HO_6.out⟩, ⟨by repeat (first | (with_reducible first | exact HB.out | apply below_alloc | apply pw_below_drewN | apply below_drew1) | exact HB.out)⟩⟩
          · rw [if_neg c7] at H
            exact absurd H (by simp)
        · rw [if_neg c6] at H
          exact absurd H (by simp)
      · rw [if_neg c5] at H
        have c5b0 : decide (x8_l1 < (y260.length : Int)) = false := decide_eq_false c5
        clear c5
        simp only [Option.some.injEq, Prod.mk.injEq] at H
        obtain ⟨rfl, rfl⟩ := H
        go_wp2
        go_ret2
        exact ⟨by first | rfl | (simp [errW_none, errW_some] <;> rfl) | (simp [*, errW_none, errW_some] <;> rfl), by repeat (first | (with_reducible first | exact HB.out | apply below_alloc | apply pw_below_drewN | apply below_drew1) | exact HB.out)⟩

/-! ### polyglotlaw13_MomentWords: function 10 -/
def polyglotlaw13_MomentWords.f (k : Nat) (a0 : ByteArray) : Option (Bool) := (polyglotlaw13_head.f k).bind fun t264 => (if t264 = true then ((moment_Parse.f k a0).bind fun bt265 => (if a0.toList = ([100, 97, 116, 101] : List UInt8) then (if bt265.2 = true then (some (bt265.1 == 0)) else (some false)) else (if a0.toList = ([116, 105, 109, 101] : List UInt8) then (if bt265.2 = true then (some (bt265.1 == 1)) else (some false)) else (if a0.toList = ([102, 117, 108, 108] : List UInt8) then (if bt265.2 = true then (some (bt265.1 == 2)) else (some false)) else (if bt265.2 = true then (some false) else (some (bt265.1 == 0))))))) else (some false))
theorem polyglotlaw13_MomentWords.mono : ∀ a0 k, LeO (polyglotlaw13_MomentWords.f k a0) (polyglotlaw13_MomentWords.f (k + 1) a0) := by
  intro a0 k
  unfold polyglotlaw13_MomentWords.f
  repeat' first
      | (with_reducible exact moment_Parse.mono _ _)
      | (with_reducible exact polyglotlaw13_head.mono _)
      | (with_reducible exact LeO.refl _)
      | (with_reducible exact LeO.none _)
      | (with_reducible refine LeO.ite ?_ ?_)
      | (with_reducible refine LeO.bind ?_ (fun _ => ?_))
      | exact moment_Parse.mono _ _
      | exact polyglotlaw13_head.mono _
      | exact LeO.none _
      | refine LeO.ite ?_ ?_
      | refine LeO.bind ?_ (fun _ => ?_)
set_option maxHeartbeats 8000000 in
set_option maxRecDepth 100000 in
theorem polyglotlaw13_MomentWords.calls (k : Nat) (a0 : ByteArray) (r : Bool) (w : World) (h : polyglotlaw13_MomentWords.f k a0 = some r) (hG : GW w := by first | exact hG | exact GW.drewN hG _ | exact GW.below hG (by first | exact HB.out | (with_reducible exact HB.out) | (repeat (first | (with_reducible first | exact HB.out | apply below_alloc | apply pw_below_drewN | apply below_drew1) | (refine below_setA ?_ (by assumption)) | exact HB.out)))) :
    Calls Tryd.prog 10 #[.string a0] w fun e w' => e = .returned (.bool r) ∧ Below w.heap.size w w' := by
  have HB := Aside0.mk (Below.refl w.heap.size w)
  have H : ((polyglotlaw13_head.f k).bind fun t264 => (if t264 = true then ((moment_Parse.f k a0).bind fun bt265 => (if a0.toList = ([100, 97, 116, 101] : List UInt8) then (if bt265.2 = true then (some (bt265.1 == 0)) else (some false)) else (if a0.toList = ([116, 105, 109, 101] : List UInt8) then (if bt265.2 = true then (some (bt265.1 == 1)) else (some false)) else (if a0.toList = ([102, 117, 108, 108] : List UInt8) then (if bt265.2 = true then (some (bt265.1 == 2)) else (some false)) else (if bt265.2 = true then (some false) else (some (bt265.1 == 0))))))) else (some false))) = some r := h
  clear h
  replace H := Option.bind_eq_some_iff.mp H
  obtain ⟨t264, A20, H⟩ := H
  replace H : (if t264 = true then ((moment_Parse.f k a0).bind fun bt265 => (if a0.toList = ([100, 97, 116, 101] : List UInt8) then (if bt265.2 = true then (some (bt265.1 == 0)) else (some false)) else (if a0.toList = ([116, 105, 109, 101] : List UInt8) then (if bt265.2 = true then (some (bt265.1 == 1)) else (some false)) else (if a0.toList = ([102, 117, 108, 108] : List UInt8) then (if bt265.2 = true then (some (bt265.1 == 2)) else (some false)) else (if bt265.2 = true then (some false) else (some (bt265.1 == 0))))))) else (some false)) = some r := H
  have A2 := Aside0.mk A20
  clear A20
  by_cases c3 : t264 = true
  · subst c3
    have H1 : ((moment_Parse.f k a0).bind fun bt265 => (if a0.toList = ([100, 97, 116, 101] : List UInt8) then (if bt265.2 = true then (some (bt265.1 == 0)) else (some false)) else (if a0.toList = ([116, 105, 109, 101] : List UInt8) then (if bt265.2 = true then (some (bt265.1 == 1)) else (some false)) else (if a0.toList = ([102, 117, 108, 108] : List UInt8) then (if bt265.2 = true then (some (bt265.1 == 2)) else (some false)) else (if bt265.2 = true then (some false) else (some (bt265.1 == 0))))))) = some r := by rw [if_pos rfl] at H; exact H
    clear H
    have H := H1
    clear H1
    replace H := Option.bind_eq_some_iff.mp H
    obtain ⟨⟨t265, t266⟩, A40, H⟩ := H
    replace H : (if a0.toList = ([100, 97, 116, 101] : List UInt8) then (if t266 = true then (some (t265 == 0)) else (some false)) else (if a0.toList = ([116, 105, 109, 101] : List UInt8) then (if t266 = true then (some (t265 == 1)) else (some false)) else (if a0.toList = ([102, 117, 108, 108] : List UInt8) then (if t266 = true then (some (t265 == 2)) else (some false)) else (if t266 = true then (some false) else (some (t265 == 0)))))) = some r := H
    have A4 := Aside0.mk A40
    clear A40
    by_cases c5 : a0.toList = ([100, 97, 116, 101] : List UInt8)
    · rw [if_pos c5] at H
      have c5b0 : (a0.toList == ([100, 97, 116, 101] : List UInt8)) = true := beq_iff_eq.mpr c5
      have c5b1 : (a0.toList != ([100, 97, 116, 101] : List UInt8)) = false := bne_eq_false_iff_eq.mpr c5
      clear c5
      by_cases c6 : t266 = true
      · subst c6
        have H1 : (some (t265 == 0)) = some r := by rw [if_pos rfl] at H; exact H
        clear H
        have H := H1
        clear H1
        obtain rfl := Option.some.inj H
        go_enter Tryd.func10, Tryd.ntmps10
        go_wp2_with (first | ((with_reducible refine gate_callee (f := 23) rfl ?_); refine goesL_ (some 5) rfl rfl Tryd.func23 (by kernel_rfl) rfl #[] rfl (by (try simp only [List.map_toArray, List.map_cons, List.map_nil]); first | done | rfl | (simp only [List.length_drop, List.length_take]; rfl)) ?_; (with_reducible refine (polyglotlaw13_head.calls k  true _ A2.out).mono ?_); rintro e w7 ⟨rfl, hb⟩; refine ⟨_, rfl, ?_⟩; have n0_ := Aside0.mk (below_step (by repeat (first | (with_reducible first | exact HB.out | apply below_alloc | apply pw_below_drewN | apply below_drew1) | exact HB.out)) hb); clear HB; have HB := n0_; clear n0_; (try clear hb); (try clear hb2); (try clear hk); (try clear hi)) | ((with_reducible refine gate_callee (f := 26) rfl ?_); refine goesL_ (some 9) rfl rfl Tryd.func26 (by kernel_rfl) rfl #[.string a0] rfl (by (try simp only [List.map_toArray, List.map_cons, List.map_nil]); first | done | rfl | (simp only [List.length_drop, List.length_take]; rfl)) ?_; (with_reducible refine (moment_Parse.calls k a0 t265 true _ A4.out).mono ?_); rintro e w8 ⟨rfl, hb⟩; refine ⟨_, rfl, ?_⟩; have n0_ := Aside0.mk (below_step (by repeat (first | (with_reducible first | exact HB.out | apply below_alloc | apply pw_below_drewN | apply below_drew1) | exact HB.out)) hb); clear HB; have HB := n0_; clear n0_; (try clear hb); (try clear hb2); (try clear hk); (try clear hi)))
        go_ret
        exact ⟨by first | rfl | (simp [errW_none, errW_some] <;> rfl) | (simp [*, errW_none, errW_some] <;> rfl), by repeat (first | (with_reducible first | exact HB.out | apply below_alloc | apply pw_below_drewN | apply below_drew1) | exact HB.out)⟩
      · replace c6 := Bool.eq_false_iff.mpr c6
        subst c6
        have H1 : (some false) = some r := by rw [if_neg (show ¬ (false = true) by decide)] at H; exact H
        clear H
        have H := H1
        clear H1
        obtain rfl := Option.some.inj H
        go_enter Tryd.func10, Tryd.ntmps10
        go_wp2_with (first | ((with_reducible refine gate_callee (f := 23) rfl ?_); refine goesL_ (some 5) rfl rfl Tryd.func23 (by kernel_rfl) rfl #[] rfl (by (try simp only [List.map_toArray, List.map_cons, List.map_nil]); first | done | rfl | (simp only [List.length_drop, List.length_take]; rfl)) ?_; (with_reducible refine (polyglotlaw13_head.calls k  true _ A2.out).mono ?_); rintro e w9 ⟨rfl, hb⟩; refine ⟨_, rfl, ?_⟩; have n0_ := Aside0.mk (below_step (by repeat (first | (with_reducible first | exact HB.out | apply below_alloc | apply pw_below_drewN | apply below_drew1) | exact HB.out)) hb); clear HB; have HB := n0_; clear n0_; (try clear hb); (try clear hb2); (try clear hk); (try clear hi)) | ((with_reducible refine gate_callee (f := 26) rfl ?_); refine goesL_ (some 9) rfl rfl Tryd.func26 (by kernel_rfl) rfl #[.string a0] rfl (by (try simp only [List.map_toArray, List.map_cons, List.map_nil]); first | done | rfl | (simp only [List.length_drop, List.length_take]; rfl)) ?_; (with_reducible refine (moment_Parse.calls k a0 t265 false _ A4.out).mono ?_); rintro e w10 ⟨rfl, hb⟩; refine ⟨_, rfl, ?_⟩; have n0_ := Aside0.mk (below_step (by repeat (first | (with_reducible first | exact HB.out | apply below_alloc | apply pw_below_drewN | apply below_drew1) | exact HB.out)) hb); clear HB; have HB := n0_; clear n0_; (try clear hb); (try clear hb2); (try clear hk); (try clear hi)))
        go_ret
        exact ⟨by first | rfl | (simp [errW_none, errW_some] <;> rfl) | (simp [*, errW_none, errW_some] <;> rfl), by repeat (first | (with_reducible first | exact HB.out | apply below_alloc | apply pw_below_drewN | apply below_drew1) | exact HB.out)⟩
    · rw [if_neg c5] at H
      have c5b0 : (a0.toList == ([100, 97, 116, 101] : List UInt8)) = false := beq_eq_false_iff_ne.mpr c5
      have c5b1 : (a0.toList != ([100, 97, 116, 101] : List UInt8)) = true := bne_iff_ne.mpr c5
      by_cases c11 : a0.toList = ([116, 105, 109, 101] : List UInt8)
      · rw [if_pos c11] at H
        have c11b0 : (a0.toList == ([116, 105, 109, 101] : List UInt8)) = true := beq_iff_eq.mpr c11
        have c11b1 : (a0.toList != ([116, 105, 109, 101] : List UInt8)) = false := bne_eq_false_iff_eq.mpr c11
        clear c11
        by_cases c12 : t266 = true
        · subst c12
          have H1 : (some (t265 == 1)) = some r := by rw [if_pos rfl] at H; exact H
          clear H
          have H := H1
          clear H1
          obtain rfl := Option.some.inj H
          go_enter Tryd.func10, Tryd.ntmps10
          go_wp2_with (first | ((with_reducible refine gate_callee (f := 23) rfl ?_); refine goesL_ (some 5) rfl rfl Tryd.func23 (by kernel_rfl) rfl #[] rfl (by (try simp only [List.map_toArray, List.map_cons, List.map_nil]); first | done | rfl | (simp only [List.length_drop, List.length_take]; rfl)) ?_; (with_reducible refine (polyglotlaw13_head.calls k  true _ A2.out).mono ?_); rintro e w13 ⟨rfl, hb⟩; refine ⟨_, rfl, ?_⟩; have n0_ := Aside0.mk (below_step (by repeat (first | (with_reducible first | exact HB.out | apply below_alloc | apply pw_below_drewN | apply below_drew1) | exact HB.out)) hb); clear HB; have HB := n0_; clear n0_; (try clear hb); (try clear hb2); (try clear hk); (try clear hi)) | ((with_reducible refine gate_callee (f := 26) rfl ?_); refine goesL_ (some 9) rfl rfl Tryd.func26 (by kernel_rfl) rfl #[.string a0] rfl (by (try simp only [List.map_toArray, List.map_cons, List.map_nil]); first | done | rfl | (simp only [List.length_drop, List.length_take]; rfl)) ?_; (with_reducible refine (moment_Parse.calls k a0 t265 true _ A4.out).mono ?_); rintro e w14 ⟨rfl, hb⟩; refine ⟨_, rfl, ?_⟩; have n0_ := Aside0.mk (below_step (by repeat (first | (with_reducible first | exact HB.out | apply below_alloc | apply pw_below_drewN | apply below_drew1) | exact HB.out)) hb); clear HB; have HB := n0_; clear n0_; (try clear hb); (try clear hb2); (try clear hk); (try clear hi)))
          go_ret
          exact ⟨by first | rfl | (simp [errW_none, errW_some] <;> rfl) | (simp [*, errW_none, errW_some] <;> rfl), by repeat (first | (with_reducible first | exact HB.out | apply below_alloc | apply pw_below_drewN | apply below_drew1) | exact HB.out)⟩
        · replace c12 := Bool.eq_false_iff.mpr c12
          subst c12
          have H1 : (some false) = some r := by rw [if_neg (show ¬ (false = true) by decide)] at H; exact H
          clear H
          have H := H1
          clear H1
          obtain rfl := Option.some.inj H
          go_enter Tryd.func10, Tryd.ntmps10
          go_wp2_with (first | ((with_reducible refine gate_callee (f := 23) rfl ?_); refine goesL_ (some 5) rfl rfl Tryd.func23 (by kernel_rfl) rfl #[] rfl (by (try simp only [List.map_toArray, List.map_cons, List.map_nil]); first | done | rfl | (simp only [List.length_drop, List.length_take]; rfl)) ?_; (with_reducible refine (polyglotlaw13_head.calls k  true _ A2.out).mono ?_); rintro e w15 ⟨rfl, hb⟩; refine ⟨_, rfl, ?_⟩; have n0_ := Aside0.mk (below_step (by repeat (first | (with_reducible first | exact HB.out | apply below_alloc | apply pw_below_drewN | apply below_drew1) | exact HB.out)) hb); clear HB; have HB := n0_; clear n0_; (try clear hb); (try clear hb2); (try clear hk); (try clear hi)) | ((with_reducible refine gate_callee (f := 26) rfl ?_); refine goesL_ (some 9) rfl rfl Tryd.func26 (by kernel_rfl) rfl #[.string a0] rfl (by (try simp only [List.map_toArray, List.map_cons, List.map_nil]); first | done | rfl | (simp only [List.length_drop, List.length_take]; rfl)) ?_; (with_reducible refine (moment_Parse.calls k a0 t265 false _ A4.out).mono ?_); rintro e w16 ⟨rfl, hb⟩; refine ⟨_, rfl, ?_⟩; have n0_ := Aside0.mk (below_step (by repeat (first | (with_reducible first | exact HB.out | apply below_alloc | apply pw_below_drewN | apply below_drew1) | exact HB.out)) hb); clear HB; have HB := n0_; clear n0_; (try clear hb); (try clear hb2); (try clear hk); (try clear hi)))
          go_ret
          exact ⟨by first | rfl | (simp [errW_none, errW_some] <;> rfl) | (simp [*, errW_none, errW_some] <;> rfl), by repeat (first | (with_reducible first | exact HB.out | apply below_alloc | apply pw_below_drewN | apply below_drew1) | exact HB.out)⟩
      · rw [if_neg c11] at H
        have c11b0 : (a0.toList == ([116, 105, 109, 101] : List UInt8)) = false := beq_eq_false_iff_ne.mpr c11
        have c11b1 : (a0.toList != ([116, 105, 109, 101] : List UInt8)) = true := bne_iff_ne.mpr c11
        by_cases c17 : a0.toList = ([102, 117, 108, 108] : List UInt8)
        · rw [if_pos c17] at H
          have c17b0 : (a0.toList == ([102, 117, 108, 108] : List UInt8)) = true := beq_iff_eq.mpr c17
          have c17b1 : (a0.toList != ([102, 117, 108, 108] : List UInt8)) = false := bne_eq_false_iff_eq.mpr c17
          clear c17
          by_cases c18 : t266 = true
          · subst c18
            have H1 : (some (t265 == 2)) = some r := by rw [if_pos rfl] at H; exact H
            clear H
            have H := H1
            clear H1
            obtain rfl := Option.some.inj H
            go_enter Tryd.func10, Tryd.ntmps10
            go_wp2_with (first | ((with_reducible refine gate_callee (f := 23) rfl ?_); refine goesL_ (some 5) rfl rfl Tryd.func23 (by kernel_rfl) rfl #[] rfl (by (try simp only [List.map_toArray, List.map_cons, List.map_nil]); first | done | rfl | (simp only [List.length_drop, List.length_take]; rfl)) ?_; (with_reducible refine (polyglotlaw13_head.calls k  true _ A2.out).mono ?_); rintro e w19 ⟨rfl, hb⟩; refine ⟨_, rfl, ?_⟩; have n0_ := Aside0.mk (below_step (by repeat (first | (with_reducible first | exact HB.out | apply below_alloc | apply pw_below_drewN | apply below_drew1) | exact HB.out)) hb); clear HB; have HB := n0_; clear n0_; (try clear hb); (try clear hb2); (try clear hk); (try clear hi)) | ((with_reducible refine gate_callee (f := 26) rfl ?_); refine goesL_ (some 9) rfl rfl Tryd.func26 (by kernel_rfl) rfl #[.string a0] rfl (by (try simp only [List.map_toArray, List.map_cons, List.map_nil]); first | done | rfl | (simp only [List.length_drop, List.length_take]; rfl)) ?_; (with_reducible refine (moment_Parse.calls k a0 t265 true _ A4.out).mono ?_); rintro e w20 ⟨rfl, hb⟩; refine ⟨_, rfl, ?_⟩; have n0_ := Aside0.mk (below_step (by repeat (first | (with_reducible first | exact HB.out | apply below_alloc | apply pw_below_drewN | apply below_drew1) | exact HB.out)) hb); clear HB; have HB := n0_; clear n0_; (try clear hb); (try clear hb2); (try clear hk); (try clear hi)))
            go_ret
            exact ⟨by first | rfl | (simp [errW_none, errW_some] <;> rfl) | (simp [*, errW_none, errW_some] <;> rfl), by repeat (first | (with_reducible first | exact HB.out | apply below_alloc | apply pw_below_drewN | apply below_drew1) | exact HB.out)⟩
          · replace c18 := Bool.eq_false_iff.mpr c18
            subst c18
            have H1 : (some false) = some r := by rw [if_neg (show ¬ (false = true) by decide)] at H; exact H
            clear H
            have H := H1
            clear H1
            obtain rfl := Option.some.inj H
            go_enter Tryd.func10, Tryd.ntmps10
            go_wp2_with (first | ((with_reducible refine gate_callee (f := 23) rfl ?_); refine goesL_ (some 5) rfl rfl Tryd.func23 (by kernel_rfl) rfl #[] rfl (by (try simp only [List.map_toArray, List.map_cons, List.map_nil]); first | done | rfl | (simp only [List.length_drop, List.length_take]; rfl)) ?_; (with_reducible refine (polyglotlaw13_head.calls k  true _ A2.out).mono ?_); rintro e w21 ⟨rfl, hb⟩; refine ⟨_, rfl, ?_⟩; have n0_ := Aside0.mk (below_step (by repeat (first | (with_reducible first | exact HB.out | apply below_alloc | apply pw_below_drewN | apply below_drew1) | exact HB.out)) hb); clear HB; have HB := n0_; clear n0_; (try clear hb); (try clear hb2); (try clear hk); (try clear hi)) | ((with_reducible refine gate_callee (f := 26) rfl ?_); refine goesL_ (some 9) rfl rfl Tryd.func26 (by kernel_rfl) rfl #[.string a0] rfl (by (try simp only [List.map_toArray, List.map_cons, List.map_nil]); first | done | rfl | (simp only [List.length_drop, List.length_take]; rfl)) ?_; (with_reducible refine (moment_Parse.calls k a0 t265 false _ A4.out).mono ?_); rintro e w22 ⟨rfl, hb⟩; refine ⟨_, rfl, ?_⟩; have n0_ := Aside0.mk (below_step (by repeat (first | (with_reducible first | exact HB.out | apply below_alloc | apply pw_below_drewN | apply below_drew1) | exact HB.out)) hb); clear HB; have HB := n0_; clear n0_; (try clear hb); (try clear hb2); (try clear hk); (try clear hi)))
            go_ret
            exact ⟨by first | rfl | (simp [errW_none, errW_some] <;> rfl) | (simp [*, errW_none, errW_some] <;> rfl), by repeat (first | (with_reducible first | exact HB.out | apply below_alloc | apply pw_below_drewN | apply below_drew1) | exact HB.out)⟩
        · rw [if_neg c17] at H
          have c17b0 : (a0.toList == ([102, 117, 108, 108] : List UInt8)) = false := beq_eq_false_iff_ne.mpr c17
          have c17b1 : (a0.toList != ([102, 117, 108, 108] : List UInt8)) = true := bne_iff_ne.mpr c17
          by_cases c23 : t266 = true
          · subst c23
            have H1 : (some false) = some r := by rw [if_pos rfl] at H; exact H
            clear H
            have H := H1
            clear H1
            obtain rfl := Option.some.inj H
            go_enter Tryd.func10, Tryd.ntmps10
            go_wp2_with (first | ((with_reducible refine gate_callee (f := 23) rfl ?_); refine goesL_ (some 5) rfl rfl Tryd.func23 (by kernel_rfl) rfl #[] rfl (by (try simp only [List.map_toArray, List.map_cons, List.map_nil]); first | done | rfl | (simp only [List.length_drop, List.length_take]; rfl)) ?_; (with_reducible refine (polyglotlaw13_head.calls k  true _ A2.out).mono ?_); rintro e w24 ⟨rfl, hb⟩; refine ⟨_, rfl, ?_⟩; have n0_ := Aside0.mk (below_step (by repeat (first | (with_reducible first | exact HB.out | apply below_alloc | apply pw_below_drewN | apply below_drew1) | exact HB.out)) hb); clear HB; have HB := n0_; clear n0_; (try clear hb); (try clear hb2); (try clear hk); (try clear hi)) | ((with_reducible refine gate_callee (f := 26) rfl ?_); refine goesL_ (some 9) rfl rfl Tryd.func26 (by kernel_rfl) rfl #[.string a0] rfl (by (try simp only [List.map_toArray, List.map_cons, List.map_nil]); first | done | rfl | (simp only [List.length_drop, List.length_take]; rfl)) ?_; (with_reducible refine (moment_Parse.calls k a0 t265 true _ A4.out).mono ?_); rintro e w25 ⟨rfl, hb⟩; refine ⟨_, rfl, ?_⟩; have n0_ := Aside0.mk (below_step (by repeat (first | (with_reducible first | exact HB.out | apply below_alloc | apply pw_below_drewN | apply below_drew1) | exact HB.out)) hb); clear HB; have HB := n0_; clear n0_; (try clear hb); (try clear hb2); (try clear hk); (try clear hi)))
            go_ret
            exact ⟨by first | rfl | (simp [errW_none, errW_some] <;> rfl) | (simp [*, errW_none, errW_some] <;> rfl), by repeat (first | (with_reducible first | exact HB.out | apply below_alloc | apply pw_below_drewN | apply below_drew1) | exact HB.out)⟩
          · replace c23 := Bool.eq_false_iff.mpr c23
            subst c23
            have H1 : (some (t265 == 0)) = some r := by rw [if_neg (show ¬ (false = true) by decide)] at H; exact H
            clear H
            have H := H1
            clear H1
            obtain rfl := Option.some.inj H
            go_enter Tryd.func10, Tryd.ntmps10
            go_wp2_with (first | ((with_reducible refine gate_callee (f := 23) rfl ?_); refine goesL_ (some 5) rfl rfl Tryd.func23 (by kernel_rfl) rfl #[] rfl (by (try simp only [List.map_toArray, List.map_cons, List.map_nil]); first | done | rfl | (simp only [List.length_drop, List.length_take]; rfl)) ?_; (with_reducible refine (polyglotlaw13_head.calls k  true _ A2.out).mono ?_); rintro e w26 ⟨rfl, hb⟩; refine ⟨_, rfl, ?_⟩; have n0_ := Aside0.mk (below_step (by repeat (first | (with_reducible first | exact HB.out | apply below_alloc | apply pw_below_drewN | apply below_drew1) | exact HB.out)) hb); clear HB; have HB := n0_; clear n0_; (try clear hb); (try clear hb2); (try clear hk); (try clear hi)) | ((with_reducible refine gate_callee (f := 26) rfl ?_); refine goesL_ (some 9) rfl rfl Tryd.func26 (by kernel_rfl) rfl #[.string a0] rfl (by (try simp only [List.map_toArray, List.map_cons, List.map_nil]); first | done | rfl | (simp only [List.length_drop, List.length_take]; rfl)) ?_; (with_reducible refine (moment_Parse.calls k a0 t265 false _ A4.out).mono ?_); rintro e w27 ⟨rfl, hb⟩; refine ⟨_, rfl, ?_⟩; have n0_ := Aside0.mk (below_step (by repeat (first | (with_reducible first | exact HB.out | apply below_alloc | apply pw_below_drewN | apply below_drew1) | exact HB.out)) hb); clear HB; have HB := n0_; clear n0_; (try clear hb); (try clear hb2); (try clear hk); (try clear hi)))
            go_ret
            exact ⟨by first | rfl | (simp [errW_none, errW_some] <;> rfl) | (simp [*, errW_none, errW_some] <;> rfl), by repeat (first | (with_reducible first | exact HB.out | apply below_alloc | apply pw_below_drewN | apply below_drew1) | exact HB.out)⟩
  · replace c3 := Bool.eq_false_iff.mpr c3
    subst c3
    have H1 : (some false) = some r := by rw [if_neg (show ¬ (false = true) by decide)] at H; exact H
    clear H
    have H := H1
    clear H1
    obtain rfl := Option.some.inj H
    go_enter Tryd.func10, Tryd.ntmps10
    go_wp2_with (first | ((with_reducible refine gate_callee (f := 23) rfl ?_); refine goesL_ (some 5) rfl rfl Tryd.func23 (by kernel_rfl) rfl #[] rfl (by (try simp only [List.map_toArray, List.map_cons, List.map_nil]); first | done | rfl | (simp only [List.length_drop, List.length_take]; rfl)) ?_; (with_reducible refine (polyglotlaw13_head.calls k  false _ A2.out).mono ?_); rintro e w28 ⟨rfl, hb⟩; refine ⟨_, rfl, ?_⟩; have n0_ := Aside0.mk (below_step (by repeat (first | (with_reducible first | exact HB.out | apply below_alloc | apply pw_below_drewN | apply below_drew1) | exact HB.out)) hb); clear HB; have HB := n0_; clear n0_; (try clear hb); (try clear hb2); (try clear hk); (try clear hi)))
    go_ret
    exact ⟨by first | rfl | (simp [errW_none, errW_some] <;> rfl) | (simp [*, errW_none, errW_some] <;> rfl), by repeat (first | (with_reducible first | exact HB.out | apply below_alloc | apply pw_below_drewN | apply below_drew1) | exact HB.out)⟩

/-- THE ONE PURE STATEMENT of polyglotlaw13_MomentWords: yours. -/
def polyglotlaw13_MomentWords.Pure : Prop := ∀ (a0 : ByteArray), a0.size ≤ 140737488351232 → ∃ k, polyglotlaw13_MomentWords.f k a0 = some true
theorem polyglotlaw13_MomentWords.walk (P : polyglotlaw13_MomentWords.Pure) (a0 : ByteArray) (w : World) (w0 : a0.size ≤ 140737488351232) (hG : GW w) :
    Calls Tryd.prog 10 #[.string a0] w fun e w' => e = .returned (.bool true) ∧ Below w.heap.size w w' := by
  obtain ⟨k, h⟩ := P a0 w0
  refine (polyglotlaw13_MomentWords.calls k a0 true w h).mono ?_
  rintro e w' ⟨rfl, hd⟩
  exact ⟨rfl, hd⟩

end Go.Proofs.YtpedajhcfkohlaaDoor.PMom
