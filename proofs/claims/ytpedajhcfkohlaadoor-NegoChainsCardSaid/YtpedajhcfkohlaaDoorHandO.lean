import Derived.Test.YtpedajhcfkohlaaDoorHandN
/- The walk of nego.Chain. -/
namespace Go.Proofs.YtpedajhcfkohlaaDoorHand
open Go.RowKit Go.Proofs.YtpedajhcfkohlaaDoor Go.Proofs.YtpedajhcfkohlaaDoor.PNeg Go.Proofs.YtpedajhcfkohlaaDoor.Pure Go.Proofs.YtpedajhcfkohlaaDoorW.PrintWords Go.Proofs.YtpedajhcfkohlaaDoorW.PrintLast Go.Proofs.YtpedajhcfkohlaaDoorW.PrintMore
attribute [local go_sem] max2_int min2_int max_two min_two max_three min_three max_four min_four
set_option linter.unusedVariables false
set_option linter.unusedSimpArgs false

theorem OUT.okn {w0 w W : World} {ok : Nat → Prop} {v0 v : Value} {xs : List S25} (h : OUT w0 w ok v0 W v xs) (hfresh : ∀ k, w0.heap.size ≤ k → ok k) {α : Type} {d : Kd α} {W1 : World} {okp : Nat → Prop} {A : Option Addr} {n : Nat} {ys : List α} (hF : Kd.F d W1 (fun k => okp k ∨ W.heap.size ≤ k) A n ys) (hp : ∀ k, okp k → ok k ∧ some k ≠ v.ownBlock) : Kd.F d W1 (fun k => ok k ∧ some k ≠ v.ownBlock) A n ys :=
  Kd.F_mono hF (fun k hk => by
    rcases hk with hk | hk
    · exact hp k hk
    · exact ⟨hfresh k (Nat.le_trans h.bel.size hk), h.fresh hk⟩)
theorem put_step {α : Type} {d : Kd α} {W : World} {g : Nat} {okp : Nat → Prop} {A : Option Addr} {n : Nat} {ys : List α} (t : S25) (A3 : Option Addr) (c3 : Nat) (hF : Kd.F d W okp A n ys) (hne : ∀ k, okp k → k ≠ g) : Kd.F d (put4 W g t A3 c3) okp A n ys := Kd.F_step hF (fun k hk _ => put4_far t A3 c3 (hne k hk))
theorem downT_false (n : Nat) (there o : List S25) (y : S25) : downT n there o y false = o := by
  cases n with
  | zero => rfl
  | succ n => show (if false = true then _ else o) = o; rw [if_neg (by simp)]
set_option maxHeartbeats 16000000 in
set_option maxRecDepth 100000 in
theorem chain_walk (ok : Nat → Prop) (A0 : Option Addr) (c0 : Nat) (wishes : List S25) (A1 : Option Addr) (c1 : Nat) (there : List S25) (t : S25) (A3 : Option Addr) (c3 : Nat) (r : List S25) (hr : chainT wishes there t = r) (w : World) (hwi : Kd.F k25 w ok A0 wishes.length wishes) (hc0 : wishes.length ≤ c0)
    (hth : Kd.F k25 w ok A1 there.length there) (hc1 : there.length ≤ c1) (ht : Kd.F Kd.string w ok A3 t.f3.length t.f3) (hc3 : t.f3.length ≤ c3) (hfresh : ∀ k, w.heap.size ≤ k → ok k) (hs0 : ∀ x ∈ wishes, SmallT x) (hs1 : ∀ x ∈ there, SmallT x) (hst : SmallT t) (hl0 : wishes.length ≤ 100) (hl1 : there.length ≤ 100) :
    Calls Tryd.prog 33 #[.slice A0 wishes.length c0, .slice A1 there.length c1, .agg #[.string t.f0, .string t.f1, .string t.f2, .slice A3 t.f3.length c3]] w fun e w' => ∃ v1, e = .returned v1 ∧ Kd.N k25 25 w' w.heap.size ok v1 r ∧ Below w.heap.size w w' := by
  have hu25 := Tryd.underlying25
  have HO := Aside0.mk (show OUT w w ok (Value.slice none 0 0) w (.slice none ([] : List S25).length 0) [] from ⟨Kd.N_nil _ _ _ _ _, Below.refl _ _, Left.refl _ _, fun x hx => by cases hx⟩)
  have HWI := Aside0.mk (Kd.F_apart_nil hwi)
  have HTH := Aside0.mk (Kd.F_apart_nil hth)
  have HF := Aside0.mk (Kd.F_apart_nil ht)
  have HS0 := Aside0.mk hs0
  have HS1 := Aside0.mk hs1
  have HST := Aside0.mk hst
  have HFR := Aside0.mk hfresh
  have HR := Aside0.mk (show addT (wishes.foldl (wishT there) []) t = r from hr)
  clear hwi hth ht hs0 hs1 hst hfresh hr
  go_enter Tryd.func33, Tryd.ntmps33
  go_wp2_with (first | ((with_reducible refine gate_dst (N := 5) rfl ?_); refine box_event ?hg (N := 5) ?hd (cs := #[.string t.f0, .string t.f1, .string t.f2, .slice A3 t.f3.length c3]) (t := 25) ?hr ?_; (case hd => rfl); (case hg => rfl); (case hr => first | (go_simp; done) | (go_simp; rfl)); intro gb5 hg w3 hbox hb; have n0_ := Aside0.mk (HO.out.step hb); have n1_ := Aside0.mk (show BOX w3 (.slice none ([] : List S25).length 0) gb5 t A3 c3 from ⟨hbox, HO.out.fresh (Nat.le_of_eq hg.symm)⟩); clear HO hb hbox hg; have HO := n0_; have BX5 := n1_; clear n0_ n1_))
  go_loopg [7, 14] (wishes.length + 1) (fun kq v7 v14 w' => ∃ (x14 : Int) (j : Nat) (xs : List S25) (A' : Option Addr) (c' : Nat), v7 = .slice A' xs.length c' ∧ v14 = .int .i64 x14 ∧ Aside0 (x14 = j ∧ j ≤ wishes.length ∧ kq = wishes.length - j + 1) ∧ Aside0 (addT ((wishes.drop j).foldl (wishT there) xs) t = r) ∧ Aside0 (xs.length ≤ j * (there.length + 1000)) ∧ Aside0 (OUT w w ok (Value.slice none 0 0) w' (.slice A' xs.length c') xs) ∧ Aside0 (BOX w' (.slice A' xs.length c') gb5 t A3 c3))
  case atStart => exact ⟨0, 0, [], none, 0, rfl, rfl, ⟨rfl, Nat.zero_le _, rfl⟩, HR, ⟨by simp⟩, HO, BX5⟩
  case round =>
    clear HO BX5 HR
    obtain ⟨x14, j, xs, A', c', rfl, rfl, HJ, HH, HXL, HO, BX5⟩ := hrel
    have hjm : j ≤ 100 := by have := HJ.out; omega
    have hBm : j * (there.length + 1000) ≤ 100 * 1100 := Nat.mul_le_mul hjm (by omega)
    have hxl : xs.length ≤ 110000 := by have := HXL.out; omega
    clear hBm
    by_cases hi : x14 < (wishes.length : Int)
    case neg =>
      have d1 : decide (x14 < (wishes.length : Int)) = false := decide_eq_false hi
      have e1 := Aside0.mk (show addT xs t = r by
        have k := HH.out
        rw [List.drop_of_length_le (by have := HJ.out; omega)] at k
        exact k)
      have hcz0 : wr.cell? ⟨gb5, 0, none⟩ = some (.string t.f0) := (blk_cell BX5.out.box 0).trans rfl
      have hcz1 : wr.cell? ⟨gb5, 1, none⟩ = some (.string t.f1) := (blk_cell BX5.out.box 1).trans rfl
      have hcz2 : wr.cell? ⟨gb5, 2, none⟩ = some (.string t.f2) := (blk_cell BX5.out.box 2).trans rfl
      have hcz3 : wr.cell? ⟨gb5, 3, none⟩ = some (.slice A3 t.f3.length c3) := (blk_cell BX5.out.box 3).trans rfl
      go_wp2_with (first | ((with_reducible refine gate_callee (f := 57) rfl ?_); refine goesL_ (some 43) rfl rfl Tryd.func57 (by kernel_rfl) rfl #[.slice A' xs.length c', .agg #[.string t.f0, .string t.f1, .string t.f2, .slice A3 t.f3.length c3]] rfl (by (try simp only [List.map_toArray, List.map_cons, List.map_nil]); first | done | rfl | (simp only [List.length_drop, List.length_take]; rfl)) ?_; (with_reducible refine (nego_add.calls w.heap.size ok A' c' xs t A3 c3 r e1.out w _ HO.out.row (HO.out.left.far HF.out) hc3 HFR.out HO.out.bel.size HO.out.bel HO.out.small HST.out (by omega)).mono ?_); rintro e w6 ⟨v1, rfl, hN, hB, hL⟩; refine ⟨_, rfl, ?_⟩; have HN := Aside0.mk hN; have HB := Aside0.mk hB; clear hN hB hL))
      go_ret
      exact ⟨_, rfl, HN.out, HB.out⟩
    have d1 : decide (x14 < (wishes.length : Int)) = true := decide_eq_true hi
    have hjl : j < wishes.length := by have := HJ.out; omega
    have hx0 : 0 ≤ x14 := by have := HJ.out; omega
    obtain ⟨ad, A4, c4, e4, hx_0, hx_1, hx_2, hx_3, hl4, hi4⟩ := F_tag (HO.out.left.far HWI.out) x14 hx0 hi
    cases e4
    obtain ⟨x, hx⟩ : ∃ x, rd_T25 wishes x14 = x := ⟨_, rfl⟩
    have hxj : wishes[j] = x := by
      rw [← hx, HJ.out.1]
      unfold rd_T25
      simp [List.getD_eq_getElem?_getD, List.getElem?_eq_getElem hjl]
    rw [hx] at hx_0 hx_1 hx_2 hx_3 hl4 hi4
    have HXS := Aside0.mk (HS0.out x (by rw [← hxj]; exact List.getElem_mem hjl))
    have HF4 := Aside0.mk hi4
    have HD := Aside0.mk (show addT ((wishes.drop (j + 1)).foldl (wishT there) (wishT there xs x)) t = r by
      have k := HH.out
      rw [List.drop_eq_getElem_cons hjl, hxj] at k
      exact k)
    clear hx hxj hi4 HH
    have pi : (0 ≤ x14) = True := eq_true hx0
    have pl : (x14 < (wishes.length : Int)) = True := eq_true hi
    have hw1 : wrap64 (x14 + 1) = x14 + 1 := wrap_id (by omega) (by omega)
    obtain ⟨xs1, hxs1⟩ : ∃ y, fitT xs there x = y := ⟨_, rfl⟩
    have HXS1 := Aside0.mk hxs1
    have HSM1 := Aside0.mk (show (∀ z ∈ xs1, SmallT z) ∧ xs1.length ≤ xs.length + 1 + there.length by rw [← hxs1]; exact fitT_small HO.out.small HS1.out HXS.out)
    obtain ⟨y, b, hyb⟩ : ∃ y b, lessS x = (y, b) := ⟨_, _, rfl⟩
    have HYB := Aside0.mk hyb
    have HYS := Aside0.mk (show SmallT y by have := lessS_small HXS.out; rw [hyb] at this; exact this)
    clear hxs1 hyb
    have HD1 := Aside0.mk (show addT ((wishes.drop (j + 1)).foldl (wishT there) (downT (mT y + 1) there xs1 y b)) t = r by
      have k := HD.out
      unfold wishT at k
      rw [HXS1.out, HYB.out] at k
      exact k)
    clear HD
    go_upto_region 5 with (first | ((with_reducible refine gate_dst (N := 9) rfl ?_); refine box_event ?hg (N := 9) ?hd (cs := #[.string (⟨#[]⟩ : ByteArray), .string (⟨#[]⟩ : ByteArray), .string (⟨#[]⟩ : ByteArray), .slice none 0 0]) (t := 25) ?hr ?_; (case hd => rfl); (case hg => rfl); (case hr => first | (go_simp; done) | (go_simp; rfl)); intro gb9 hg w9 hbox hb; have HBX := Aside0.mk hb; have HG := Aside0.mk hg; have BK9 := Aside0.mk hbox; clear hb hg hbox; have hz0 : w9.cell? ⟨gb9, 0, none⟩ = some (.string (⟨#[]⟩ : ByteArray)) := (blk_cell BK9.out 0).trans rfl; have hzf0 := blk_frozen BK9.out 0; have hz1 : w9.cell? ⟨gb9, 1, none⟩ = some (.string (⟨#[]⟩ : ByteArray)) := (blk_cell BK9.out 1).trans rfl; have hzf1 := blk_frozen BK9.out 1; have hz2 : w9.cell? ⟨gb9, 2, none⟩ = some (.string (⟨#[]⟩ : ByteArray)) := (blk_cell BK9.out 2).trans rfl; have hzf2 := blk_frozen BK9.out 2; have hz3 : w9.cell? ⟨gb9, 3, none⟩ = some (.slice none 0 0) := (blk_cell BK9.out 3).trans rfl; have hzf3 := blk_frozen BK9.out 3))
    (try simp only [Act.put, List.setIfInBounds_toArray, List.set_cons_zero, List.set_cons_succ])
    obtain ⟨w10, hw⟩ : ∃ w10 : World, w10 = put4 w9 gb9 x A4 c4 := ⟨_, rfl⟩
    unfold put4 at hw
    rw [← hw]
    have hw' : w10 = put4 w9 gb9 x A4 c4 := hw
    have hb10 : Below wr.heap.size wr w10 := by rw [hw']; exact made4 x A4 c4 HBX.out HG.out
    have BX9 := Aside0.mk (show BOX w10 (.slice A' xs.length c') gb9 x A4 c4 from ⟨by rw [hw']; exact put4_box x A4 c4 BK9.out, HO.out.fresh (Nat.le_of_eq HG.out.symm)⟩)
    have n0_ := Aside0.mk (HO.out.step hb10)
    have n1_ := Aside0.mk (BX5.out.step hb10)
    have n2_ := Aside0.mk (Kd.F_below HF4.out hb10)
    clear hw hw' hb10 HO BX5 HF4 BK9 HBX HG hz0 hz1 hz2 hz3 hzf0 hzf1 hzf2 hzf3 hx_0 hx_1 hx_2 hx_3
    have HO := n0_
    have BX5 := n1_
    have HF4 := n2_
    clear n0_ n1_ n2_
    have ha0 : w10.cell? ⟨gb9, 0, none⟩ = some (.string x.f0) := (blk_cell BX9.out.box 0).trans rfl
    have ha1 : w10.cell? ⟨gb9, 1, none⟩ = some (.string x.f1) := (blk_cell BX9.out.box 1).trans rfl
    have ha2 : w10.cell? ⟨gb9, 2, none⟩ = some (.string x.f2) := (blk_cell BX9.out.box 2).trans rfl
    have ha3 : w10.cell? ⟨gb9, 3, none⟩ = some (.slice A4 x.f3.length c4) := (blk_cell BX9.out.box 3).trans rfl
    go_wp2_with (first | ((with_reducible refine gate_callee (f := 55) rfl ?_); refine goesL_ (some 21) rfl rfl Tryd.func55 (by kernel_rfl) rfl #[.slice A' xs.length c', .slice A1 there.length c1, .agg #[.string x.f0, .string x.f1, .string x.f2, .slice A4 x.f3.length c4]] rfl (by (try simp only [List.map_toArray, List.map_cons, List.map_nil]); first | done | rfl | (simp only [List.length_drop, List.length_take]; rfl)) ?_; (with_reducible refine (nego_fitted.calls ok A' c' xs A1 c1 there x A4 c4 xs1 HXS1.out w _ HO.out.row HO.out.bel (HO.out.left.far HTH.out) hc1 HF4.out hl4 HFR.out HO.out.small HS1.out HXS.out (by omega)).mono ?_); rintro e w11 ⟨v1, rfl, hN, hB, hL⟩; refine ⟨_, rfl, ?_⟩; obtain ⟨A8, c8, rfl⟩ := Kd.N_slice hN; have n0_ := Aside0.mk (OUT.mk hN hB (HO.out.left.trans hL) HSM1.out.1); have m0_ := Aside0.mk (BX5.out.left hL); have m1_ := Aside0.mk (BX9.out.left hL); have m2_ := Aside0.mk (hL.far HF4.out); clear HO BX5 BX9 HF4 hN hB hL ha0 ha1 ha2 ha3; have HO := n0_; have BX5 := m0_; have BX9 := m1_; have HF4 := m2_; clear n0_ m0_ m1_ m2_; have hb0 : w11.cell? ⟨gb9, 0, none⟩ = some (.string x.f0) := (blk_cell BX9.out.box 0).trans rfl; have hb1 : w11.cell? ⟨gb9, 1, none⟩ = some (.string x.f1) := (blk_cell BX9.out.box 1).trans rfl; have hb2 : w11.cell? ⟨gb9, 2, none⟩ = some (.string x.f2) := (blk_cell BX9.out.box 2).trans rfl; have hb3 : w11.cell? ⟨gb9, 3, none⟩ = some (.slice A4 x.f3.length c4) := (blk_cell BX9.out.box 3).trans rfl) | ((with_reducible refine gate_callee (f := 20) rfl ?_); refine goesL_ (some 24) rfl rfl Tryd.func20 (by kernel_rfl) rfl #[.agg #[.string x.f0, .string x.f1, .string x.f2, .slice A4 x.f3.length c4]] rfl (by (try simp only [List.map_toArray, List.map_cons, List.map_nil]); first | done | rfl | (simp only [List.length_drop, List.length_take]; rfl)) ?_; (with_reducible refine (less_calls x _ A4 c4 y b HYB.out _ HF4.out hl4 HXS.out).mono ?_); rintro e w12 ⟨A6, c6, rfl, hF6, hc6, hb⟩; refine ⟨_, rfl, ?_⟩; have HF6 := Aside0.mk (HO.out.okn HFR.out hF6 (fun k hk => hk)); have HC6 := Aside0.mk hc6; have n0_ := Aside0.mk (HO.out.step hb); have n1_ := Aside0.mk (BX5.out.step hb); clear HO BX5 BX9 HF4 hF6 hc6 hb hb0 hb1 hb2 hb3; have HO := n0_; have BX5 := n1_; clear n0_ n1_) | ((with_reducible refine gate_dst (N := 10) rfl ?_); refine box_event ?hg (N := 10) ?hd (cs := #[.string (⟨#[]⟩ : ByteArray), .string (⟨#[]⟩ : ByteArray), .string (⟨#[]⟩ : ByteArray), .slice none 0 0]) (t := 25) ?hr ?_; (case hd => rfl); (case hg => rfl); (case hr => first | (go_simp; done) | (go_simp; rfl)); intro gL hg w13 hbox hb; have HBX := Aside0.mk hb; have HG := Aside0.mk hg; have BKL := Aside0.mk hbox; clear hb hg hbox; have hz0 : w13.cell? ⟨gL, 0, none⟩ = some (.string (⟨#[]⟩ : ByteArray)) := (blk_cell BKL.out 0).trans rfl; have hzf0 := blk_frozen BKL.out 0; have hz1 : w13.cell? ⟨gL, 1, none⟩ = some (.string (⟨#[]⟩ : ByteArray)) := (blk_cell BKL.out 1).trans rfl; have hzf1 := blk_frozen BKL.out 1; have hz2 : w13.cell? ⟨gL, 2, none⟩ = some (.string (⟨#[]⟩ : ByteArray)) := (blk_cell BKL.out 2).trans rfl; have hzf2 := blk_frozen BKL.out 2; have hz3 : w13.cell? ⟨gL, 3, none⟩ = some (.slice none 0 0) := (blk_cell BKL.out 3).trans rfl; have hzf3 := blk_frozen BKL.out 3))
    (try simp only [Act.put, List.setIfInBounds_toArray, List.set_cons_zero, List.set_cons_succ])
    obtain ⟨w14, hw⟩ : ∃ w14 : World, w14 = put4 w13 gL y A6 c6 := ⟨_, rfl⟩
    unfold put4 at hw
    rw [← hw]
    have hw' : w14 = put4 w13 gL y A6 c6 := hw
    have hb14 : Below w12.heap.size w12 w14 := by rw [hw']; exact made4 y A6 c6 HBX.out HG.out
    have BXL := Aside0.mk (show BOX w14 (.slice A8 xs1.length c8) gL y A6 c6 from ⟨by rw [hw']; exact put4_box y A6 c6 BKL.out, HO.out.fresh (Nat.le_of_eq HG.out.symm)⟩)
    have n0_ := Aside0.mk (HO.out.step hb14)
    have n1_ := Aside0.mk (BX5.out.step hb14)
    have n2_ := Aside0.mk (Kd.F_below HF6.out hb14)
    clear hw hw' hb14 HO BX5 HF6 BKL HBX HG hz0 hz1 hz2 hz3 hzf0 hzf1 hzf2 hzf3
    have HO := n0_
    have BX5 := n1_
    have HF6 := n2_
    clear n0_ n1_ n2_
    have hmy := mT_le HYS.out
    have hB1 : (j + 1) * (there.length + 1000) = j * (there.length + 1000) + (there.length + 1000) := Nat.succ_mul _ _
    have HB1 := Aside0.mk hB1
    have hB2 : (j + 1) * (there.length + 1000) ≤ 101 * 1100 := Nat.mul_le_mul (by omega) (by omega)
    have HB2 := Aside0.mk hB2
    clear hB1 hB2
    go_loopg [7, 10, 11] (mT y + 2) (fun kq v7 v10 v11 w' => ∃ (xs2 : List S25) (A2 : Option Addr) (c2 : Nat) (g : Nat) (y : S25) (A6 : Option Addr) (c6 : Nat) (b : Bool) (n : Nat), v7 = .slice A2 xs2.length c2 ∧ v10 = .pointer (some ⟨g, 0, none⟩) ∧ v11 = .bool b ∧ Aside0 (kq = n + 1) ∧ Aside0 (b = true → mT y < n) ∧ Aside0 (addT ((wishes.drop (j + 1)).foldl (wishT there) (downT n there xs2 y b)) t = r) ∧ Aside0 (xs2.length + n ≤ (j + 1) * (there.length + 1000)) ∧ Aside0 (SmallT y) ∧ Aside0 (y.f3.length ≤ c6) ∧ Aside0 (Kd.F Kd.string w' (fun k => ok k ∧ some k ≠ (.slice A2 xs2.length c2 : Value).ownBlock) A6 y.f3.length y.f3) ∧ Aside0 (OUT w w ok (Value.slice none 0 0) w' (.slice A2 xs2.length c2) xs2) ∧ Aside0 (BOX w' (.slice A2 xs2.length c2) gb5 t A3 c3) ∧ Aside0 (BOX w' (.slice A2 xs2.length c2) g y A6 c6))
    case atStart => exact ⟨xs1, A8, c8, gL, y, A6, c6, b, mT y + 1, rfl, rfl, rfl, ⟨rfl⟩, ⟨fun _ => by omega⟩, HD1, ⟨by have := HXL.out; have := HSM1.out.2; have := HB1.out; omega⟩, HYS, HC6, HF6, HO, BX5, BXL⟩
    case round =>
      clear HO BX5 BXL HF6 HC6 HYS HD1 hmy HYB HXL HSM1 HXS1
      obtain ⟨xs2, A2, c2, g, y, A6, c6, b, n, rfl, rfl, rfl, HK, HM, HD1, HXL, HYS, HC6, HF6, HO, BX5, BXL⟩ := hrel
      have hx2 : xs2.length ≤ 999998 := by have := HXL.out; have := HB2.out; omega
      have hhc6 := HC6.out
      cases b with
      | false =>
        go_wp2
        go_roundg (wishes.length - j)
        case measure => have := HJ.out; omega
        case rel => exact ⟨x14 + 1, j + 1, xs2, A2, c2, rfl, by simp [hw1], ⟨by have := HJ.out; omega, by omega, by omega⟩, ⟨by have k := HD1.out; rw [downT_false] at k; exact k⟩, ⟨by have := HXL.out; omega⟩, HO, BX5⟩
      | true =>
        obtain ⟨m, hm⟩ : ∃ m, n = m + 1 := ⟨n - 1, by have := HM.out rfl; omega⟩
        subst hm
        obtain ⟨b2, hb2⟩ : ∃ b2, hasT there y = b2 := ⟨_, rfl⟩
        have CH := Aside0.mk hb2
        clear hb2
        obtain ⟨o2, ho2⟩ : ∃ o2, (if hasT there y = true then addT xs2 y else xs2) = o2 := ⟨_, rfl⟩
        have HO2 := Aside0.mk ho2
        have HL2 := Aside0.mk (show o2.length ≤ xs2.length + 1 by
          rw [← ho2]
          split
          · unfold addT; split <;> simp
          · omega)
        clear ho2
        obtain ⟨y2, b3, hy2⟩ : ∃ y2 b3, lessS y = (y2, b3) := ⟨_, _, rfl⟩
        have HY2 := Aside0.mk hy2
        have HYS2 := Aside0.mk (show SmallT y2 by have := lessS_small HYS.out; rw [hy2] at this; exact this)
        have HM2 := Aside0.mk (show b3 = true → mT y2 < m from fun k => by
          have k2 := lessS_m (x := y) (by rw [hy2]; exact k)
          rw [hy2] at k2
          have := HM.out rfl
          show mT y2 < m
          have k3 : mT y2 < mT y := k2
          omega)
        clear hy2
        have HD2 := Aside0.mk (show addT ((wishes.drop (j + 1)).foldl (wishT there) (downT m there o2 y2 b3)) t = r by
          have k := HD1.out
          unfold downT at k
          rw [if_pos rfl, HO2.out, HY2.out] at k
          exact k)
        clear HD1
        have hd0 : wr.cell? ⟨g, 0, none⟩ = some (.string y.f0) := (blk_cell BXL.out.box 0).trans rfl
        have hd1 : wr.cell? ⟨g, 1, none⟩ = some (.string y.f1) := (blk_cell BXL.out.box 1).trans rfl
        have hd2 : wr.cell? ⟨g, 2, none⟩ = some (.string y.f2) := (blk_cell BXL.out.box 2).trans rfl
        have hd3 : wr.cell? ⟨g, 3, none⟩ = some (.slice A6 y.f3.length c6) := (blk_cell BXL.out.box 3).trans rfl
        cases b2 with
        | true =>
          have E1 := Aside0.mk (show o2 = addT xs2 y by rw [← HO2.out, if_pos CH.out])
          go_upto_region 8 with (first | ((with_reducible refine gate_callee (f := 56) rfl ?_); refine goesL_ (some 35) rfl rfl Tryd.func56 (by kernel_rfl) rfl #[.slice A1 there.length c1, .agg #[.string y.f0, .string y.f1, .string y.f2, .slice A6 y.f3.length c6]] rfl (by (try simp only [List.map_toArray, List.map_cons, List.map_nil]); first | done | rfl | (simp only [List.length_drop, List.length_take]; rfl)) ?_; (with_reducible refine (nego_has.calls2 A1 c1 there y A6 c6 _ CH.out _ (Kd.F_now (HO.out.left.far HTH.out)) hc1 (Kd.F_now HF6.out) hhc6 HS1.out HYS.out (by omega)).mono ?_); rintro e w15 ⟨rfl, hb⟩; refine ⟨_, rfl, ?_⟩; have n0_ := Aside0.mk (HO.out.step hb); have n1_ := Aside0.mk (BX5.out.step hb); have n2_ := Aside0.mk (BXL.out.step hb); have n3_ := Aside0.mk (Kd.F_below HF6.out hb); clear HO BX5 BXL HF6 hb hd0 hd1 hd2 hd3; have HO := n0_; have BX5 := n1_; have BXL := n2_; have HF6 := n3_; clear n0_ n1_ n2_ n3_; have he0 : w15.cell? ⟨g, 0, none⟩ = some (.string y.f0) := (blk_cell BXL.out.box 0).trans rfl; have he1 : w15.cell? ⟨g, 1, none⟩ = some (.string y.f1) := (blk_cell BXL.out.box 1).trans rfl; have he2 : w15.cell? ⟨g, 2, none⟩ = some (.string y.f2) := (blk_cell BXL.out.box 2).trans rfl; have he3 : w15.cell? ⟨g, 3, none⟩ = some (.slice A6 y.f3.length c6) := (blk_cell BXL.out.box 3).trans rfl) | ((with_reducible refine gate_callee (f := 57) rfl ?_); refine goesL_ (some 38) rfl rfl Tryd.func57 (by kernel_rfl) rfl #[.slice A2 xs2.length c2, .agg #[.string y.f0, .string y.f1, .string y.f2, .slice A6 y.f3.length c6]] rfl (by (try simp only [List.map_toArray, List.map_cons, List.map_nil]); first | done | rfl | (simp only [List.length_drop, List.length_take]; rfl)) ?_; (with_reducible refine (nego_add.calls w.heap.size ok A2 c2 xs2 y A6 c6 _ rfl w _ HO.out.row HF6.out hhc6 HFR.out HO.out.bel.size HO.out.bel HO.out.small HYS.out (by omega)).mono ?_); rintro e w16 ⟨v1, rfl, hN, hB, hL⟩; refine ⟨_, rfl, ?_⟩; obtain ⟨A9, c9, rfl⟩ := Kd.N_slice hN; have n0_ := Aside0.mk (OUT.mk hN hB (HO.out.left.trans hL) (addT_small HO.out.small HYS.out).1); have m0_ := Aside0.mk (BX5.out.left hL); have m1_ := Aside0.mk (BXL.out.left hL); have m2_ := Aside0.mk (hL.far HF6.out); clear HO BX5 BXL HF6 hN hB hL; have HO := n0_; have BX5 := m0_; have BXL := m1_; have HF6 := m2_; clear n0_ m0_ m1_ m2_ he0 he1 he2 he3; have hh0 : w16.cell? ⟨g, 0, none⟩ = some (.string y.f0) := (blk_cell BXL.out.box 0).trans rfl; have hh1 : w16.cell? ⟨g, 1, none⟩ = some (.string y.f1) := (blk_cell BXL.out.box 1).trans rfl; have hh2 : w16.cell? ⟨g, 2, none⟩ = some (.string y.f2) := (blk_cell BXL.out.box 2).trans rfl; have hh3 : w16.cell? ⟨g, 3, none⟩ = some (.slice A6 y.f3.length c6) := (blk_cell BXL.out.box 3).trans rfl) | ((with_reducible refine gate_dst (N := 10) rfl ?_); refine box_event ?hg (N := 10) ?hd (cs := #[.string (⟨#[]⟩ : ByteArray), .string (⟨#[]⟩ : ByteArray), .string (⟨#[]⟩ : ByteArray), .slice none 0 0]) (t := 25) ?hr ?_; (case hd => rfl); (case hg => rfl); (case hr => first | (go_simp; done) | (go_simp; rfl)); intro gN hg w17 hbox hb; have HBX := Aside0.mk hb; have HG := Aside0.mk hg; have BKN := Aside0.mk hbox; clear hb hg hbox; have hz0 : w17.cell? ⟨gN, 0, none⟩ = some (.string (⟨#[]⟩ : ByteArray)) := (blk_cell BKN.out 0).trans rfl; have hzf0 := blk_frozen BKN.out 0; have hz1 : w17.cell? ⟨gN, 1, none⟩ = some (.string (⟨#[]⟩ : ByteArray)) := (blk_cell BKN.out 1).trans rfl; have hzf1 := blk_frozen BKN.out 1; have hz2 : w17.cell? ⟨gN, 2, none⟩ = some (.string (⟨#[]⟩ : ByteArray)) := (blk_cell BKN.out 2).trans rfl; have hzf2 := blk_frozen BKN.out 2; have hz3 : w17.cell? ⟨gN, 3, none⟩ = some (.slice none 0 0) := (blk_cell BKN.out 3).trans rfl; have hzf3 := blk_frozen BKN.out 3))
          (try simp only [Act.put, List.setIfInBounds_toArray, List.set_cons_zero, List.set_cons_succ])
          obtain ⟨w18, hw⟩ : ∃ w18 : World, w18 = put4 w17 gN y A6 c6 := ⟨_, rfl⟩
          unfold put4 at hw
          rw [← hw]
          have hw' : w18 = put4 w17 gN y A6 c6 := hw
          have HB18 := Aside0.mk (show Below w16.heap.size w16 w18 by rw [hw']; exact made4 y A6 c6 HBX.out HG.out)
          have BKY := Aside0.mk (show w18.heap[gN]? = some (.cells #[.string y.f0, .string y.f1, .string y.f2, .slice A6 y.f3.length c6] 25 (0, 0)) by rw [hw']; exact put4_box y A6 c6 BKN.out)
          clear hw hw' BKN HBX hz0 hz1 hz2 hz3 hzf0 hzf1 hzf2 hzf3 hh0 hh1 hh2 hh3
          have hf0 : w18.cell? ⟨gN, 0, none⟩ = some (.string y.f0) := (blk_cell BKY.out 0).trans rfl
          have hf1 : w18.cell? ⟨gN, 1, none⟩ = some (.string y.f1) := (blk_cell BKY.out 1).trans rfl
          have hf2 : w18.cell? ⟨gN, 2, none⟩ = some (.string y.f2) := (blk_cell BKY.out 2).trans rfl
          have hf3 : w18.cell? ⟨gN, 3, none⟩ = some (.slice A6 y.f3.length c6) := (blk_cell BKY.out 3).trans rfl
          go_wp2_with (first | ((with_reducible refine gate_callee (f := 20) rfl ?_); refine goesL_ (some 30) rfl rfl Tryd.func20 (by kernel_rfl) rfl #[.agg #[.string y.f0, .string y.f1, .string y.f2, .slice A6 y.f3.length c6]] rfl (by (try simp only [List.map_toArray, List.map_cons, List.map_nil]); first | done | rfl | (simp only [List.length_drop, List.length_take]; rfl)) ?_; (with_reducible refine (less_calls y (fun k => (ok k ∧ some k ≠ (Value.slice A9 (addT xs2 y).length c9).ownBlock) ∧ k < w16.heap.size) A6 c6 y2 b3 HY2.out _ (Kd.F_below (Kd.F_bound HF6.out) HB18.out) hhc6 HYS.out).mono ?_); rintro e w19 ⟨A7, c7, rfl, hF7, hc7, hb⟩; refine ⟨_, rfl, ?_⟩; have HF7 := Aside0.mk hF7; have HC7 := Aside0.mk hc7; have HB19 := Aside0.mk hb; have BKZ := Aside0.mk (blk_below BKY.out hb); clear hF7 hc7 hb hf0 hf1 hf2 hf3; have hg0 : w19.cell? ⟨gN, 0, none⟩ = some (.string y.f0) := (blk_cell BKZ.out 0).trans rfl; have hgf0 := blk_frozen BKZ.out 0; have hg1 : w19.cell? ⟨gN, 1, none⟩ = some (.string y.f1) := (blk_cell BKZ.out 1).trans rfl; have hgf1 := blk_frozen BKZ.out 1; have hg2 : w19.cell? ⟨gN, 2, none⟩ = some (.string y.f2) := (blk_cell BKZ.out 2).trans rfl; have hgf2 := blk_frozen BKZ.out 2; have hg3 : w19.cell? ⟨gN, 3, none⟩ = some (.slice A6 y.f3.length c6) := (blk_cell BKZ.out 3).trans rfl; have hgf3 := blk_frozen BKZ.out 3))
          have HBT := Aside0.mk (show Below w16.heap.size w16 (put4 w19 gN y2 A7 c7) from put4_below y2 A7 c7 (HB18.out.trans (HB19.out.mono HB18.out.size)) (Nat.le_of_eq HG.out.symm))
          have HFT := Aside0.mk (show Kd.F Kd.string (put4 w19 gN y2 A7 c7) (fun k => ok k ∧ some k ≠ (Value.slice A9 (addT xs2 y).length c9).ownBlock) A7 y2.f3.length y2.f3 from Kd.F_mono (put_step y2 A7 c7 HF7.out (fun k hk => by
              rcases hk with hk | hk
              · have := hk.2; have := HG.out; omega
              · have := blk_lt BKY.out; omega)) (fun k hk => by
              rcases hk with hk | hk
              · exact hk.1
              · have h2 := HB18.out.size
                exact ⟨HFR.out k (Nat.le_trans HO.out.bel.size (Nat.le_trans h2 hk)), HO.out.fresh (Nat.le_trans h2 hk)⟩))
          go_roundg (m + 1)
          case measure => have := HK.out; omega
          case rel => exact ⟨(addT xs2 y), A9, c9, gN, y2, A7, c7, b3, m, rfl, rfl, rfl, ⟨rfl⟩, HM2, ⟨by have k := HD2.out; rw [E1.out] at k; exact k⟩, ⟨by have := HXL.out; have k := HL2.out; rw [E1.out] at k; omega⟩, HYS2, HC7, HFT, ⟨HO.out.step HBT.out⟩, ⟨BX5.out.step HBT.out⟩, ⟨put4_box y2 A7 c7 BKZ.out, HO.out.fresh (Nat.le_of_eq HG.out.symm)⟩⟩
        | false =>
          have E1 := Aside0.mk (show o2 = xs2 by rw [← HO2.out, if_neg (by rw [CH.out]; simp)])
          go_upto_region 8 with (first | ((with_reducible refine gate_callee (f := 56) rfl ?_); refine goesL_ (some 35) rfl rfl Tryd.func56 (by kernel_rfl) rfl #[.slice A1 there.length c1, .agg #[.string y.f0, .string y.f1, .string y.f2, .slice A6 y.f3.length c6]] rfl (by (try simp only [List.map_toArray, List.map_cons, List.map_nil]); first | done | rfl | (simp only [List.length_drop, List.length_take]; rfl)) ?_; (with_reducible refine (nego_has.calls2 A1 c1 there y A6 c6 _ CH.out _ (Kd.F_now (HO.out.left.far HTH.out)) hc1 (Kd.F_now HF6.out) hhc6 HS1.out HYS.out (by omega)).mono ?_); rintro e w15 ⟨rfl, hb⟩; refine ⟨_, rfl, ?_⟩; have n0_ := Aside0.mk (HO.out.step hb); have n1_ := Aside0.mk (BX5.out.step hb); have n2_ := Aside0.mk (BXL.out.step hb); have n3_ := Aside0.mk (Kd.F_below HF6.out hb); clear HO BX5 BXL HF6 hb hd0 hd1 hd2 hd3; have HO := n0_; have BX5 := n1_; have BXL := n2_; have HF6 := n3_; clear n0_ n1_ n2_ n3_; have he0 : w15.cell? ⟨g, 0, none⟩ = some (.string y.f0) := (blk_cell BXL.out.box 0).trans rfl; have he1 : w15.cell? ⟨g, 1, none⟩ = some (.string y.f1) := (blk_cell BXL.out.box 1).trans rfl; have he2 : w15.cell? ⟨g, 2, none⟩ = some (.string y.f2) := (blk_cell BXL.out.box 2).trans rfl; have he3 : w15.cell? ⟨g, 3, none⟩ = some (.slice A6 y.f3.length c6) := (blk_cell BXL.out.box 3).trans rfl) | ((with_reducible refine gate_dst (N := 10) rfl ?_); refine box_event ?hg (N := 10) ?hd (cs := #[.string (⟨#[]⟩ : ByteArray), .string (⟨#[]⟩ : ByteArray), .string (⟨#[]⟩ : ByteArray), .slice none 0 0]) (t := 25) ?hr ?_; (case hd => rfl); (case hg => rfl); (case hr => first | (go_simp; done) | (go_simp; rfl)); intro gN hg w17 hbox hb; have HBX := Aside0.mk hb; have HG := Aside0.mk hg; have BKN := Aside0.mk hbox; clear hb hg hbox; have hz0 : w17.cell? ⟨gN, 0, none⟩ = some (.string (⟨#[]⟩ : ByteArray)) := (blk_cell BKN.out 0).trans rfl; have hzf0 := blk_frozen BKN.out 0; have hz1 : w17.cell? ⟨gN, 1, none⟩ = some (.string (⟨#[]⟩ : ByteArray)) := (blk_cell BKN.out 1).trans rfl; have hzf1 := blk_frozen BKN.out 1; have hz2 : w17.cell? ⟨gN, 2, none⟩ = some (.string (⟨#[]⟩ : ByteArray)) := (blk_cell BKN.out 2).trans rfl; have hzf2 := blk_frozen BKN.out 2; have hz3 : w17.cell? ⟨gN, 3, none⟩ = some (.slice none 0 0) := (blk_cell BKN.out 3).trans rfl; have hzf3 := blk_frozen BKN.out 3))
          (try simp only [Act.put, List.setIfInBounds_toArray, List.set_cons_zero, List.set_cons_succ])
          obtain ⟨w18, hw⟩ : ∃ w18 : World, w18 = put4 w17 gN y A6 c6 := ⟨_, rfl⟩
          unfold put4 at hw
          rw [← hw]
          have hw' : w18 = put4 w17 gN y A6 c6 := hw
          have HB18 := Aside0.mk (show Below w15.heap.size w15 w18 by rw [hw']; exact made4 y A6 c6 HBX.out HG.out)
          have BKY := Aside0.mk (show w18.heap[gN]? = some (.cells #[.string y.f0, .string y.f1, .string y.f2, .slice A6 y.f3.length c6] 25 (0, 0)) by rw [hw']; exact put4_box y A6 c6 BKN.out)
          clear hw hw' BKN HBX hz0 hz1 hz2 hz3 hzf0 hzf1 hzf2 hzf3 he0 he1 he2 he3
          have hf0 : w18.cell? ⟨gN, 0, none⟩ = some (.string y.f0) := (blk_cell BKY.out 0).trans rfl
          have hf1 : w18.cell? ⟨gN, 1, none⟩ = some (.string y.f1) := (blk_cell BKY.out 1).trans rfl
          have hf2 : w18.cell? ⟨gN, 2, none⟩ = some (.string y.f2) := (blk_cell BKY.out 2).trans rfl
          have hf3 : w18.cell? ⟨gN, 3, none⟩ = some (.slice A6 y.f3.length c6) := (blk_cell BKY.out 3).trans rfl
          go_wp2_with (first | ((with_reducible refine gate_callee (f := 20) rfl ?_); refine goesL_ (some 30) rfl rfl Tryd.func20 (by kernel_rfl) rfl #[.agg #[.string y.f0, .string y.f1, .string y.f2, .slice A6 y.f3.length c6]] rfl (by (try simp only [List.map_toArray, List.map_cons, List.map_nil]); first | done | rfl | (simp only [List.length_drop, List.length_take]; rfl)) ?_; (with_reducible refine (less_calls y (fun k => (ok k ∧ some k ≠ (Value.slice A2 xs2.length c2).ownBlock) ∧ k < w15.heap.size) A6 c6 y2 b3 HY2.out _ (Kd.F_below (Kd.F_bound HF6.out) HB18.out) hhc6 HYS.out).mono ?_); rintro e w19 ⟨A7, c7, rfl, hF7, hc7, hb⟩; refine ⟨_, rfl, ?_⟩; have HF7 := Aside0.mk hF7; have HC7 := Aside0.mk hc7; have HB19 := Aside0.mk hb; have BKZ := Aside0.mk (blk_below BKY.out hb); clear hF7 hc7 hb hf0 hf1 hf2 hf3; have hg0 : w19.cell? ⟨gN, 0, none⟩ = some (.string y.f0) := (blk_cell BKZ.out 0).trans rfl; have hgf0 := blk_frozen BKZ.out 0; have hg1 : w19.cell? ⟨gN, 1, none⟩ = some (.string y.f1) := (blk_cell BKZ.out 1).trans rfl; have hgf1 := blk_frozen BKZ.out 1; have hg2 : w19.cell? ⟨gN, 2, none⟩ = some (.string y.f2) := (blk_cell BKZ.out 2).trans rfl; have hgf2 := blk_frozen BKZ.out 2; have hg3 : w19.cell? ⟨gN, 3, none⟩ = some (.slice A6 y.f3.length c6) := (blk_cell BKZ.out 3).trans rfl; have hgf3 := blk_frozen BKZ.out 3))
          have HBT := Aside0.mk (show Below w15.heap.size w15 (put4 w19 gN y2 A7 c7) from put4_below y2 A7 c7 (HB18.out.trans (HB19.out.mono HB18.out.size)) (Nat.le_of_eq HG.out.symm))
          have HFT := Aside0.mk (show Kd.F Kd.string (put4 w19 gN y2 A7 c7) (fun k => ok k ∧ some k ≠ (Value.slice A2 xs2.length c2).ownBlock) A7 y2.f3.length y2.f3 from Kd.F_mono (put_step y2 A7 c7 HF7.out (fun k hk => by
              rcases hk with hk | hk
              · have := hk.2; have := HG.out; omega
              · have := blk_lt BKY.out; omega)) (fun k hk => by
              rcases hk with hk | hk
              · exact hk.1
              · have h2 := HB18.out.size
                exact ⟨HFR.out k (Nat.le_trans HO.out.bel.size (Nat.le_trans h2 hk)), HO.out.fresh (Nat.le_trans h2 hk)⟩))
          go_roundg (m + 1)
          case measure => have := HK.out; omega
          case rel => exact ⟨xs2, A2, c2, gN, y2, A7, c7, b3, m, rfl, rfl, rfl, ⟨rfl⟩, HM2, ⟨by have k := HD2.out; rw [E1.out] at k; exact k⟩, ⟨by have := HXL.out; have k := HL2.out; rw [E1.out] at k; omega⟩, HYS2, HC7, HFT, ⟨HO.out.step HBT.out⟩, ⟨BX5.out.step HBT.out⟩, ⟨put4_box y2 A7 c7 BKZ.out, HO.out.fresh (Nat.le_of_eq HG.out.symm)⟩⟩
instance smallDec : DecidablePred SmallT := fun t => by unfold SmallT; infer_instance
def nego_Chain.f (l0 l1 : List S25) (a0 a1 a2 : ByteArray) (l2 : List ByteArray) : Option (List S25) := if ((∀ x ∈ l0, SmallT x) ∧ (∀ x ∈ l1, SmallT x) ∧ SmallT ⟨a0, a1, a2, l2⟩) ∧ l0.length ≤ 100 ∧ l1.length ≤ 100 then some (chainT l0 l1 ⟨a0, a1, a2, l2⟩) else none
theorem nego_Chain.calls (P0_ : Nat → Prop) (A0 : Option Addr) (c0 : Nat) (l0 : List S25) (P1_ : Nat → Prop) (A1 : Option Addr) (c1 : Nat) (l1 : List S25) (a2_0 : ByteArray) (a2_1 : ByteArray) (a2_2 : ByteArray) (P2_3_ : Nat → Prop) (A2_3 : Option Addr) (c2_3 : Nat) (l2_3 : List ByteArray) (r : List S25) (w : World)
    (hs0 : Kd.V k25 25 w w.heap.size (fun k_ => P0_ k_) (.slice A0 l0.length c0) l0) (hs1 : Kd.V k25 25 w w.heap.size (fun k_ => P1_ k_) (.slice A1 l1.length c1) l1) (hs2_3 : Kd.V Kd.string 9 w w.heap.size (fun k_ => P2_3_ k_) (.slice A2_3 l2_3.length c2_3) l2_3) (h : nego_Chain.f l0 l1 a2_0 a2_1 a2_2 l2_3 = some r) :
    Calls Tryd.prog 33 #[.slice A0 l0.length c0, .slice A1 l1.length c1, .agg #[.string a2_0, .string a2_1, .string a2_2, .slice A2_3 l2_3.length c2_3]] w fun e w' => ∃ v0_ : Value, e = .returned (v0_) ∧ Kd.V k25 25 w' w.heap.size (fun k_ => ((P0_ k_ ∨ P1_ k_ ∨ P2_3_ k_) ∨ w.heap.size ≤ k_)) v0_ r ∧ Below w.heap.size w w' := by
  unfold nego_Chain.f at h
  by_cases hb : ((∀ x ∈ l0, SmallT x) ∧ (∀ x ∈ l1, SmallT x) ∧ SmallT ⟨a2_0, a2_1, a2_2, l2_3⟩) ∧ l0.length ≤ 100 ∧ l1.length ≤ 100
  · rw [if_pos hb] at h
    obtain ⟨⟨b1, b2, b3⟩, b4, b5⟩ := hb
    refine (chain_walk (fun k_ => (P0_ k_ ∨ P1_ k_ ∨ P2_3_ k_) ∨ w.heap.size ≤ k_) A0 c0 l0 A1 c1 l1 ⟨a2_0, a2_1, a2_2, l2_3⟩ A2_3 c2_3 r (Option.some.inj h) w (Kd.F_mono (Kd.V_F hs0) (fun k hk => .inl (.inl hk))) (Kd.V_at hs0).2.1 (Kd.F_mono (Kd.V_F hs1) (fun k hk => .inl (.inr (.inl hk)))) (Kd.V_at hs1).2.1 (Kd.F_mono (Kd.V_F hs2_3) (fun k hk => .inl (.inr (.inr hk)))) (Kd.V_at hs2_3).2.1 (fun k hk => .inr hk) b1 b2 b3 b4 b5).mono ?_
    rintro e w' ⟨v1, rfl, hN, hB⟩
    exact ⟨v1, rfl, Kd.N_V hN, hB⟩
  · rw [if_neg hb] at h; cases h
end Go.Proofs.YtpedajhcfkohlaaDoorHand
