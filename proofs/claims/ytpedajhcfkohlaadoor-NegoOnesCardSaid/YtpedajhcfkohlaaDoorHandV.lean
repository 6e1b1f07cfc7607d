import Derived.Test.YtpedajhcfkohlaaDoorNegB
/- The walk of NegoOnes: each language of the chain stands once, is there or the last one. -/
namespace Go.Proofs.YtpedajhcfkohlaaDoorHand
open Go.RowKit Go.Proofs.YtpedajhcfkohlaaDoor Go.Proofs.YtpedajhcfkohlaaDoor.PNeg Go.Proofs.YtpedajhcfkohlaaDoor.Pure Go.Proofs.YtpedajhcfkohlaaDoorW.PrintWords Go.Proofs.YtpedajhcfkohlaaDoorW.PrintLast Go.Proofs.YtpedajhcfkohlaaDoorW.PrintMore
attribute [local go_sem] max2_int min2_int max_two min_two max_three min_three max_four min_four
set_option linter.unusedVariables false
set_option linter.unusedSimpArgs false
def negoOnes.T8 : Bool × List (List Nat × List Nat) := (true, [([], []), ([0], [0]), ([], []), ([2, 1], [2]), ([], []), ([1, 3, 4, 3], [1, 3, 4]), ([5, 5, 0, 1, 2, 3, 4, 5], [5])])
def negoOnes.B8 : List Nat := [0, 1, 0, 7, 0, 31, 63]
theorem negoOnes.tab8 : rtab .any (opsOf Tryd.f12 8) = negoOnes.T8 := by kernel_rfl
theorem negoOnes.bits8 : waitsOk negoOnes.T8.2 negoOnes.B8 = true := by kernel_rfl
def negoOnes.T16 : Bool × List (List Nat × List Nat) := (true, [([], []), ([0], [0]), ([], []), ([2, 1], [2]), ([1, 3], [1, 3])])
def negoOnes.B16 : List Nat := [0, 1, 0, 7, 15]
theorem negoOnes.tab16 : rtab .any (opsOf Tryd.f12 16) = negoOnes.T16 := by kernel_rfl
theorem negoOnes.bits16 : waitsOk negoOnes.T16.2 negoOnes.B16 = true := by kernel_rfl
def negoOnes.T19 : Bool × List (List Nat × List Nat) := (true, [([], []), ([0], [0]), ([1], [1]), ([2, 1, 1], [1, 2]), ([1], [1]), ([4, 3, 1], [1, 4]), ([3, 5, 1], [1, 3, 5]), ([1, 6], [1, 6]), ([7, 5, 0, 1, 2, 3, 4, 5, 6, 7], [0, 7])])
def negoOnes.B19 : List Nat := [0, 1, 3, 7, 3, 31, 63, 127, 255]
theorem negoOnes.tab19 : rtab .any (opsOf Tryd.f12 19) = negoOnes.T19 := by kernel_rfl
theorem negoOnes.bits19 : waitsOk negoOnes.T19.2 negoOnes.B19 = true := by kernel_rfl
def negoOnes.T20 : Bool × List (List Nat × List Nat) := (true, [([], []), ([0], [0]), ([], []), ([2, 1], [2]), ([1, 3], [1, 3]), ([4, 3, 0, 1, 2, 3, 4], [4])])
def negoOnes.B20 : List Nat := [0, 1, 0, 7, 15, 31]
theorem negoOnes.tab20 : rtab .any (opsOf Tryd.f12 20) = negoOnes.T20 := by kernel_rfl
theorem negoOnes.bits20 : waitsOk negoOnes.T20.2 negoOnes.B20 = true := by kernel_rfl
def negoOnes.T27 : Bool × List (List Nat × List Nat) := (true, [([], []), ([0], [0]), ([1], [1]), ([2, 1, 1], [1, 2]), ([1], [1]), ([4, 3, 1], [1, 4]), ([3, 5, 1], [1, 3, 5]), ([6, 5, 1], [1, 6]), ([7], [7]), ([7], [7]), ([8, 9, 7, 7], [7, 8, 9]), ([10, 10, 7], [7, 10]), ([11], [11]), ([11], [11]), ([12, 13, 11, 11], [11, 12, 13]), ([11, 14, 7], [7, 11, 14]), ([7, 15, 1], [1, 7, 15]), ([1, 16], [1, 16]), ([17, 14, 0, 1, 2, 3, 4, 5, 6, 7, 8, 9, 10, 11, 12, 13, 14, 15, 16, 17], [0, 17])])
def negoOnes.B27 : List Nat := [0, 1, 3, 7, 3, 31, 63, 127, 255, 255, 1023, 2047, 4095, 4095, 16383, 32767, 65535, 131071, 262143]
theorem negoOnes.tab27 : rtab .any (opsOf Tryd.f12 27) = negoOnes.T27 := by kernel_rfl
theorem negoOnes.bits27 : waitsOk negoOnes.T27.2 negoOnes.B27 = true := by kernel_rfl
def onesP (t x u : S25) : Bool := (txt x).toList == (txt t).toList && (begB (partsT t) (partsT u) || begB (partsT u) (partsT t))
def onesR (tw : List S25) (t x : S25) : Bool := tw.any (onesP t x)
theorem any_drop {α : Type} (f : α → Bool) (l : List α) (j : Nat) (h : j < l.length) (x : α) (hx : l[j] = x) : (l.drop j).any f = (f x || (l.drop (j + 1)).any f) := by
  rw [List.drop_eq_getElem_cons h, hx]; rfl
theorem src_any {tw tt : List S25} {z t : S25} (h : Src tw tt z t) : ((txt t).toList == (txt z).toList || tt.any (onesR tw t)) = true := by
  rcases h with h | ⟨x, hx, u, hu, e, h⟩
  · rw [beq_iff_eq.mpr h]; rfl
  · have k : tt.any (onesR tw t) = true := List.any_eq_true.mpr ⟨x, hx, List.any_eq_true.mpr ⟨u, hu, by
      unfold onesP
      rw [beq_iff_eq.mpr e]
      rcases h with h | h <;> rw [h] <;> simp⟩⟩
    rw [k]; simp
/-- A tag that was told is a text's. -/
def toldT (s : ByteArray) : S25 := ⟨(P0 (pcs s)).1, (P0 (pcs s)).2.1, (P0 (pcs s)).2.2.1, (P0 (pcs s)).2.2.2.1⟩
set_option maxHeartbeats 32000000 in
set_option maxRecDepth 100000 in
theorem negoOnes_walk (A0 : Option Addr) (c0 : Nat) (l0 : List ByteArray) (A1 : Option Addr) (c1 : Nat) (l1 : List ByteArray) (a2 : ByteArray) (w : World) (hr0 : Kd.C Kd.string w A0 l0.length l0) (hc0 : l0.length ≤ c0) (hr1 : Kd.C Kd.string w A1 l1.length l1) (hc1 : l1.length ≤ c1) (hm0 : l0.length ≤ 9223372036854775807) (hm1 : l1.length ≤ 9223372036854775807) (hG : GW w) :
    Calls Tryd.prog 12 #[.slice A0 l0.length c0, .slice A1 l1.length c1, .string a2] w fun e w' => e = .returned (.bool true) ∧ Below w.heap.size w w' := by
  have hu25 := Tryd.underlying25
  have HB := Aside0.mk (Below.refl w.heap.size w)
  have HR0 := Aside0.mk hr0
  have HR1 := Aside0.mk hr1
  clear hr0 hr1
  go_enter Tryd.func12, Tryd.ntmps12
  obtain ⟨s0, hs0⟩ : ∃ s0, shortB l0 = s0 := ⟨_, rfl⟩
  obtain ⟨s1, hs1⟩ : ∃ s1, shortB l1 = s1 := ⟨_, rfl⟩
  have HS0 := Aside0.mk (show law11_short.f l0 = some s0 by unfold law11_short.f; rw [if_pos hm0, hs0])
  have HS1 := Aside0.mk (show law11_short.f l1 = some s1 by unfold law11_short.f; rw [if_pos hm1, hs1])
  have HE0 := Aside0.mk hs0
  have HE1 := Aside0.mk hs1
  clear hs0 hs1
  cases s0 with
  | false =>
    go_wp2_with (first | ((with_reducible refine gate_callee (f := 27) rfl ?_); refine goesL_ (some 20) rfl rfl Tryd.func27 (by kernel_rfl) rfl #[] rfl (by (try simp only [List.map_toArray, List.map_cons, List.map_nil]); first | done | rfl | (simp only [List.length_drop, List.length_take]; rfl)) ?_; (with_reducible refine (law11_head.calls true _ rfl (GW.below hG HB.out)).mono ?_); rintro e w5 ⟨rfl, hb⟩; refine ⟨_, rfl, ?_⟩; have n0_ := Aside0.mk (below_step HB.out hb); clear HB hb; have HB := n0_; clear n0_) | ((with_reducible refine gate_callee (f := 28) rfl ?_); refine goesL_ (some 23) rfl rfl Tryd.func28 (by kernel_rfl) rfl #[.slice A0 l0.length c0] rfl (by (try simp only [List.map_toArray, List.map_cons, List.map_nil]); first | done | rfl | (simp only [List.length_drop, List.length_take]; rfl)) ?_; (with_reducible refine (law11_short.calls A0 c0 l0 _ _ (Kd.C_below HR0.out HB.out) hc0 HS0.out).mono ?_); rintro e w6 ⟨rfl, hd⟩; refine ⟨_, rfl, ?_⟩; have hb := hd.below; clear hd; have n0_ := Aside0.mk (below_step HB.out hb); clear HB hb; have HB := n0_; clear n0_))
    go_ret
    exact ⟨rfl, HB.out⟩
  | true =>
  cases s1 with
  | false =>
    go_wp2_with (first | ((with_reducible refine gate_callee (f := 27) rfl ?_); refine goesL_ (some 20) rfl rfl Tryd.func27 (by kernel_rfl) rfl #[] rfl (by (try simp only [List.map_toArray, List.map_cons, List.map_nil]); first | done | rfl | (simp only [List.length_drop, List.length_take]; rfl)) ?_; (with_reducible refine (law11_head.calls true _ rfl (GW.below hG HB.out)).mono ?_); rintro e w5 ⟨rfl, hb⟩; refine ⟨_, rfl, ?_⟩; have n0_ := Aside0.mk (below_step HB.out hb); clear HB hb; have HB := n0_; clear n0_) | ((with_reducible refine gate_callee (f := 28) rfl ?_); refine goesL_ (some 23) rfl rfl Tryd.func28 (by kernel_rfl) rfl #[.slice A0 l0.length c0] rfl (by (try simp only [List.map_toArray, List.map_cons, List.map_nil]); first | done | rfl | (simp only [List.length_drop, List.length_take]; rfl)) ?_; (with_reducible refine (law11_short.calls A0 c0 l0 _ _ (Kd.C_below HR0.out HB.out) hc0 HS0.out).mono ?_); rintro e w6 ⟨rfl, hd⟩; refine ⟨_, rfl, ?_⟩; have hb := hd.below; clear hd; have n0_ := Aside0.mk (below_step HB.out hb); clear HB hb; have HB := n0_; clear n0_) | (go_at_call 28; (with_reducible refine (law11_short.calls A1 c1 l1 _ _ (Kd.C_below HR1.out HB.out) hc1 HS1.out).mono ?_); rintro e w7 ⟨rfl, hd⟩; have hb := hd.below; clear hd; have n0_ := Aside0.mk (below_step HB.out hb); clear HB hb; have HB := n0_; clear n0_))
    go_ret
    exact ⟨rfl, HB.out⟩
  | true =>
  by_cases ha2 : 60 < (a2.size : Int)
  case pos =>
    have d2 : decide (60 < (a2.size : Int)) = true := decide_eq_true ha2
    have d2b : decide (60 < a2.size) = true := decide_eq_true (by omega)
    go_wp2_with (first | ((with_reducible refine gate_callee (f := 27) rfl ?_); refine goesL_ (some 20) rfl rfl Tryd.func27 (by kernel_rfl) rfl #[] rfl (by (try simp only [List.map_toArray, List.map_cons, List.map_nil]); first | done | rfl | (simp only [List.length_drop, List.length_take]; rfl)) ?_; (with_reducible refine (law11_head.calls true _ rfl (GW.below hG HB.out)).mono ?_); rintro e w5 ⟨rfl, hb⟩; refine ⟨_, rfl, ?_⟩; have n0_ := Aside0.mk (below_step HB.out hb); clear HB hb; have HB := n0_; clear n0_) | ((with_reducible refine gate_callee (f := 28) rfl ?_); refine goesL_ (some 23) rfl rfl Tryd.func28 (by kernel_rfl) rfl #[.slice A0 l0.length c0] rfl (by (try simp only [List.map_toArray, List.map_cons, List.map_nil]); first | done | rfl | (simp only [List.length_drop, List.length_take]; rfl)) ?_; (with_reducible refine (law11_short.calls A0 c0 l0 _ _ (Kd.C_below HR0.out HB.out) hc0 HS0.out).mono ?_); rintro e w6 ⟨rfl, hd⟩; refine ⟨_, rfl, ?_⟩; have hb := hd.below; clear hd; have n0_ := Aside0.mk (below_step HB.out hb); clear HB hb; have HB := n0_; clear n0_) | (go_at_call 28; (with_reducible refine (law11_short.calls A1 c1 l1 _ _ (Kd.C_below HR1.out HB.out) hc1 HS1.out).mono ?_); rintro e w7 ⟨rfl, hd⟩; have hb := hd.below; clear hd; have n0_ := Aside0.mk (below_step HB.out hb); clear HB hb; have HB := n0_; clear n0_))
    go_ret
    exact ⟨rfl, HB.out⟩
  have d2 : decide (60 < (a2.size : Int)) = false := decide_eq_false ha2
  have d2b : decide (60 < a2.size) = false := decide_eq_false (by omega)
  have ha2s : a2.size ≤ 60 := by omega
  clear ha2
  obtain ⟨z, hz⟩ : ∃ z, toldT a2 = z := ⟨_, rfl⟩
  obtain ⟨bz, hbz⟩ : ∃ bz, (P0 (pcs a2)).2.2.2.2 = bz := ⟨_, rfl⟩
  have HPZ := Aside0.mk (show tag_ParseV.f a2 = some (z.f0, z.f1, z.f2, z.f3, bz) by unfold tag_ParseV.f; rw [if_pos (by omega), ← hz, ← hbz]; rfl)
  have HSZ := Aside0.mk (show SmallT z by rw [← hz]; exact small_told a2 (by omega))
  obtain ⟨tw, htw⟩ : ∃ tw, tagsL l0 = tw := ⟨_, rfl⟩
  obtain ⟨tt, htt⟩ : ∃ tt, tagsL l1 = tt := ⟨_, rfl⟩
  have q0 := shortB_said HE0.out
  have q1 := shortB_said HE1.out
  have HTF0 := Aside0.mk (show nego_TagsN.f l0 = some tw by unfold nego_TagsN.f; rw [if_pos ⟨by have := q0.2; omega, fun s hs => Nat.le_trans (q0.1 s hs) (by omega)⟩, htw])
  have HTF1 := Aside0.mk (show nego_TagsN.f l1 = some tt by unfold nego_TagsN.f; rw [if_pos ⟨by have := q1.2; omega, fun s hs => Nat.le_trans (q1.1 s hs) (by omega)⟩, htt])
  have HSW := Aside0.mk (show (∀ x ∈ tw, SmallT x) ∧ tw.length ≤ 20 by rw [← htw]; have k := tags_small l0 (fun s hs => Nat.le_trans (q0.1 s hs) (by omega)); exact ⟨k.1, Nat.le_trans k.2 q0.2⟩)
  have HST := Aside0.mk (show (∀ x ∈ tt, SmallT x) ∧ tt.length ≤ 20 by rw [← htt]; have k := tags_small l1 (fun s hs => Nat.le_trans (q1.1 s hs) (by omega)); exact ⟨k.1, Nat.le_trans k.2 q1.2⟩)
  clear q0 q1 hz hbz htw htt
  obtain ⟨got, hgot⟩ : ∃ got, chainT tw tt z = got := ⟨_, rfl⟩
  have HCH := Aside0.mk (show nego_Chain.f tw tt z.f0 z.f1 z.f2 z.f3 = some got by unfold nego_Chain.f; rw [if_pos ⟨⟨HSW.out.1, HST.out.1, HSZ.out⟩, by have := HSW.out.2; omega, by have := HST.out.2; omega⟩, ← hgot])
  have HSG := Aside0.mk (show (∀ x ∈ got, SmallT x) ∧ got.length ≤ 200000 by rw [← hgot]; exact chain_small tw tt z HSW.out.1 HST.out.1 HSZ.out (by have := HSW.out.2; omega) (by have := HST.out.2; omega))
  have HON := Aside0.mk (show got.Pairwise (fun a b => (txt a).toList ≠ (txt b).toList) by rw [← hgot]; exact chain_once tw tt z)
  have HSR := Aside0.mk (show ∀ x ∈ got, Src tw tt z x by rw [← hgot]; exact chain_src tw tt z)
  have HLA := Aside0.mk (show ∃ x ∈ got, (txt x).toList = (txt z).toList by rw [← hgot]; exact chain_last tw tt z)
  clear hgot
  cases bz with
  | false =>
    go_wp2_with (first | ((with_reducible refine gate_callee (f := 27) rfl ?_); refine goesL_ (some 20) rfl rfl Tryd.func27 (by kernel_rfl) rfl #[] rfl (by (try simp only [List.map_toArray, List.map_cons, List.map_nil]); first | done | rfl | (simp only [List.length_drop, List.length_take]; rfl)) ?_; (with_reducible refine (law11_head.calls true _ rfl (GW.below hG HB.out)).mono ?_); rintro e w5 ⟨rfl, hb⟩; refine ⟨_, rfl, ?_⟩; have n0_ := Aside0.mk (below_step HB.out hb); clear HB hb; have HB := n0_; clear n0_) | ((with_reducible refine gate_callee (f := 28) rfl ?_); refine goesL_ (some 23) rfl rfl Tryd.func28 (by kernel_rfl) rfl #[.slice A0 l0.length c0] rfl (by (try simp only [List.map_toArray, List.map_cons, List.map_nil]); first | done | rfl | (simp only [List.length_drop, List.length_take]; rfl)) ?_; (with_reducible refine (law11_short.calls A0 c0 l0 _ _ (Kd.C_below HR0.out HB.out) hc0 HS0.out).mono ?_); rintro e w6 ⟨rfl, hd⟩; refine ⟨_, rfl, ?_⟩; have hb := hd.below; clear hd; have n0_ := Aside0.mk (below_step HB.out hb); clear HB hb; have HB := n0_; clear n0_) | (go_at_call 28; (with_reducible refine (law11_short.calls A1 c1 l1 _ _ (Kd.C_below HR1.out HB.out) hc1 HS1.out).mono ?_); rintro e w7 ⟨rfl, hd⟩; have hb := hd.below; clear hd; have n0_ := Aside0.mk (below_step HB.out hb); clear HB hb; have HB := n0_; clear n0_) | ((with_reducible refine gate_callee (f := 15) rfl ?_); refine goesL_ (some 37) rfl rfl Tryd.func15 (by kernel_rfl) rfl #[.string a2] rfl (by (try simp only [List.map_toArray, List.map_cons, List.map_nil]); first | done | rfl | (simp only [List.length_drop, List.length_take]; rfl)) ?_; (with_reducible refine (tag_ParseV.calls a2 z.f0 z.f1 z.f2 z.f3 _ _ HPZ.out (GW.below hG HB.out)).mono ?_); rintro e w8 ⟨v3, rfl, hv, hb⟩; refine ⟨_, rfl, ?_⟩; obtain ⟨A3, c3, rfl⟩ := Kd.V_slice hv; have HZ := Aside0.mk (Kd.F_mono (Kd.V_F hv) (fun _ _ => trivial)); have HCZ := Aside0.mk (Kd.V_at hv).2.1; clear hv; have n0_ := Aside0.mk (below_step HB.out hb); clear HB hb; have HB := n0_; clear n0_) | ((with_reducible refine gate_dst (N := 7) rfl ?_); refine box_event ?hg (N := 7) ?hd (cs := #[.string (⟨#[]⟩ : ByteArray), .string (⟨#[]⟩ : ByteArray), .string (⟨#[]⟩ : ByteArray), .slice none 0 0]) (t := 25) ?hr ?_; (case hd => rfl); (case hg => rfl); (case hr => first | (go_simp; done) | (go_simp; rfl)); intro gb7 hg w9 hbox hb; have HBX := Aside0.mk hb; have HGX := Aside0.mk hg; have BK7 := Aside0.mk hbox; clear hb hg hbox; have hz0 : w9.cell? ⟨gb7, 0, none⟩ = some (.string (⟨#[]⟩ : ByteArray)) := (blk_cell BK7.out 0).trans rfl; have hzf0 := blk_frozen BK7.out 0; have hz1 : w9.cell? ⟨gb7, 1, none⟩ = some (.string (⟨#[]⟩ : ByteArray)) := (blk_cell BK7.out 1).trans rfl; have hzf1 := blk_frozen BK7.out 1; have hz2 : w9.cell? ⟨gb7, 2, none⟩ = some (.string (⟨#[]⟩ : ByteArray)) := (blk_cell BK7.out 2).trans rfl; have hzf2 := blk_frozen BK7.out 2; have hz3 : w9.cell? ⟨gb7, 3, none⟩ = some (.slice none 0 0) := (blk_cell BK7.out 3).trans rfl; have hzf3 := blk_frozen BK7.out 3))
    go_ret
    exact ⟨rfl, put4_below z A3 c3 (below_step HB.out HBX.out) (by rw [HGX.out]; exact HB.out.size)⟩
  | true =>
  go_upto_region 8 with (first | ((with_reducible refine gate_callee (f := 27) rfl ?_); refine goesL_ (some 20) rfl rfl Tryd.func27 (by kernel_rfl) rfl #[] rfl (by (try simp only [List.map_toArray, List.map_cons, List.map_nil]); first | done | rfl | (simp only [List.length_drop, List.length_take]; rfl)) ?_; (with_reducible refine (law11_head.calls true _ rfl (GW.below hG HB.out)).mono ?_); rintro e w5 ⟨rfl, hb⟩; refine ⟨_, rfl, ?_⟩; have n0_ := Aside0.mk (below_step HB.out hb); clear HB hb; have HB := n0_; clear n0_) | ((with_reducible refine gate_callee (f := 28) rfl ?_); refine goesL_ (some 23) rfl rfl Tryd.func28 (by kernel_rfl) rfl #[.slice A0 l0.length c0] rfl (by (try simp only [List.map_toArray, List.map_cons, List.map_nil]); first | done | rfl | (simp only [List.length_drop, List.length_take]; rfl)) ?_; (with_reducible refine (law11_short.calls A0 c0 l0 _ _ (Kd.C_below HR0.out HB.out) hc0 HS0.out).mono ?_); rintro e w6 ⟨rfl, hd⟩; refine ⟨_, rfl, ?_⟩; have hb := hd.below; clear hd; have n0_ := Aside0.mk (below_step HB.out hb); clear HB hb; have HB := n0_; clear n0_) | (go_at_call 28; (with_reducible refine (law11_short.calls A1 c1 l1 _ _ (Kd.C_below HR1.out HB.out) hc1 HS1.out).mono ?_); rintro e w7 ⟨rfl, hd⟩; have hb := hd.below; clear hd; have n0_ := Aside0.mk (below_step HB.out hb); clear HB hb; have HB := n0_; clear n0_) | ((with_reducible refine gate_callee (f := 15) rfl ?_); refine goesL_ (some 37) rfl rfl Tryd.func15 (by kernel_rfl) rfl #[.string a2] rfl (by (try simp only [List.map_toArray, List.map_cons, List.map_nil]); first | done | rfl | (simp only [List.length_drop, List.length_take]; rfl)) ?_; (with_reducible refine (tag_ParseV.calls a2 z.f0 z.f1 z.f2 z.f3 _ _ HPZ.out (GW.below hG HB.out)).mono ?_); rintro e w8 ⟨v3, rfl, hv, hb⟩; refine ⟨_, rfl, ?_⟩; obtain ⟨A3, c3, rfl⟩ := Kd.V_slice hv; have HZ := Aside0.mk (Kd.F_mono (Kd.V_F hv) (fun _ _ => trivial)); have HCZ := Aside0.mk (Kd.V_at hv).2.1; clear hv; have n0_ := Aside0.mk (below_step HB.out hb); clear HB hb; have HB := n0_; clear n0_) | ((with_reducible refine gate_dst (N := 7) rfl ?_); refine box_event ?hg (N := 7) ?hd (cs := #[.string (⟨#[]⟩ : ByteArray), .string (⟨#[]⟩ : ByteArray), .string (⟨#[]⟩ : ByteArray), .slice none 0 0]) (t := 25) ?hr ?_; (case hd => rfl); (case hg => rfl); (case hr => first | (go_simp; done) | (go_simp; rfl)); intro gb7 hg w9 hbox hb; have HBX := Aside0.mk hb; have HGX := Aside0.mk hg; have BK7 := Aside0.mk hbox; clear hb hg hbox; have hz0 : w9.cell? ⟨gb7, 0, none⟩ = some (.string (⟨#[]⟩ : ByteArray)) := (blk_cell BK7.out 0).trans rfl; have hzf0 := blk_frozen BK7.out 0; have hz1 : w9.cell? ⟨gb7, 1, none⟩ = some (.string (⟨#[]⟩ : ByteArray)) := (blk_cell BK7.out 1).trans rfl; have hzf1 := blk_frozen BK7.out 1; have hz2 : w9.cell? ⟨gb7, 2, none⟩ = some (.string (⟨#[]⟩ : ByteArray)) := (blk_cell BK7.out 2).trans rfl; have hzf2 := blk_frozen BK7.out 2; have hz3 : w9.cell? ⟨gb7, 3, none⟩ = some (.slice none 0 0) := (blk_cell BK7.out 3).trans rfl; have hzf3 := blk_frozen BK7.out 3))
  (try simp only [Act.put, List.setIfInBounds_toArray, List.set_cons_zero, List.set_cons_succ])
  obtain ⟨w10, hw⟩ : ∃ w10 : World, w10 = put4 w9 gb7 z A3 c3 := ⟨_, rfl⟩
  unfold put4 at hw
  rw [← hw]
  have hw' : w10 = put4 w9 gb7 z A3 c3 := hw
  have BX7 := Aside0.mk (show w10.heap[gb7]? = some (.cells #[.string z.f0, .string z.f1, .string z.f2, .slice A3 z.f3.length c3] 25 (0, 0)) by rw [hw']; exact put4_box z A3 c3 BK7.out)
  have hb : Below w8.heap.size w8 w10 := by rw [hw']; exact made4 z A3 c3 HBX.out HGX.out
  clear hw hw' HBX HGX BK7 hz0 hz1 hz2 hz3 hzf0 hzf1 hzf2 hzf3
  have n0_ := Aside0.mk (below_step HB.out hb)
  have n1_ := Aside0.mk (Kd.F_below HZ.out hb)
  clear HB HZ hb
  have HB := n0_
  have HZ := n1_
  clear n0_ n1_
  have hcz := HCZ.out
  refine start_ (n := 7) (S := fun w' => w'.cell? ⟨gb7, 0, none⟩ = some (.string z.f0) ∧ w'.cell? ⟨gb7, 1, none⟩ = some (.string z.f1) ∧ w'.cell? ⟨gb7, 2, none⟩ = some (.string z.f2) ∧ w'.cell? ⟨gb7, 3, none⟩ = some (.slice A3 z.f3.length c3)) (ds := []) #[false, false, false, false, false, false, false] (by kernel_rfl) rfl rfl ⟨(blk_cell BX7.out 0).trans rfl, (blk_cell BX7.out 1).trans rfl, (blk_cell BX7.out 2).trans rfl, (blk_cell BX7.out 3).trans rfl⟩ (fun hHeld => ?_)
  refine with_tabW negoOnes.tab8 negoOnes.bits8 (fun HT_ HW_ => ?_)
  have hb : Below w10.heap.size w10 w10.drew := ⟨rfl, rfl, rfl, Nat.le_refl _, fun _ _ => rfl⟩
  have n0_ := Aside0.mk (below_step HB.out hb)
  have n1_ := Aside0.mk (Kd.F_below HZ.out hb)
  have n2_ := Aside0.mk (blk_below BX7.out hb)
  clear HB HZ BX7 hb
  have HB := n0_
  have HZ := n1_
  have BX7 := n2_
  clear n0_ n1_ n2_
  generalize w10.drew = w39 at HB HZ BX7 hHeld ⊢
  refine pure_ (i := 0) (N := some 42) (v := ?_) (a' := ?_) #[true, false, false, false, false, false, false] rfl rfl (any_of HT_.out (by kernel_rfl)) (fun _ _ _ h => h) (Or.inl ⟨by rfl, ?_⟩) ?_ ?_
  rotate_left
  · intro w'
    go_simp
    with_reducible rfl
  rotate_left
  · simp only [Act.put, List.setIfInBounds_toArray, List.set_cons_zero, List.set_cons_succ, i64_w, i32_w]
    rfl
  refine pure_ (i := 2) (N := some 44) (v := ?_) (a' := ?_) #[true, false, true, false, false, false, false] rfl rfl (any_of HT_.out (by kernel_rfl)) (fun _ _ _ h => h) (Or.inl ⟨by rfl, ?_⟩) ?_ ?_
  rotate_left
  · intro w'
    go_simp
    with_reducible rfl
  rotate_left
  · simp only [Act.put, List.setIfInBounds_toArray, List.set_cons_zero, List.set_cons_succ, i64_w, i32_w]
    rfl
  refine take_ (i := 4) (N := some 46) (v := ?_) (a' := ?_) #[true, false, true, false, true, false, false] rfl rfl (take_ofW HT_.out HW_.out (by kernel_rfl)) (fun _ _ _ h => h) (Or.inl ⟨by rfl, ?_⟩) hHeld ?_ ?_
  rotate_left
  · rintro w' ⟨s0_, s1_, s2_, s3_⟩
    go_simp
    with_reducible rfl
  rotate_left
  · simp only [Act.put, List.setIfInBounds_toArray, List.set_cons_zero, List.set_cons_succ, i64_w, i32_w]
    rfl
  refine one_ (i := 1) (N := some 43) #[true, true, true, false, true, false, false] rfl rfl (one_of HT_.out (by kernel_rfl)) (by decide) (fun K hK => ?_)
  refine goes_ Tryd.func29 (by kernel_rfl) rfl #[.slice A0 l0.length c0] (by rfl) rfl rfl (by (try simp only [List.map_toArray, List.map_cons, List.map_nil]); first | done | rfl | (simp only [List.length_drop, List.length_take]; rfl)) ?_
  with_reducible refine (nego_TagsN.calls A0 c0 l0 tw _ (Kd.C_below HR0.out HB.out) hc0 HTF0.out (GW.below hG HB.out)).mono ?_
  rintro e w40 ⟨vw, rfl, hv, hb⟩
  obtain ⟨Aw, cw, rfl⟩ := Kd.N_slice hv
  have HTW := Aside0.mk (Kd.F_mono (Kd.N_F hv) (fun _ _ => trivial))
  have HCW := Aside0.mk (Kd.N_reads' hv).2.1
  clear hv
  refine ⟨_, rfl, ?_⟩
  have n0_ := Aside0.mk (below_step HB.out hb)
  have n1_ := Aside0.mk (Kd.F_below HZ.out hb)
  have n2_ := Aside0.mk (blk_below BX7.out hb)
  clear HB HZ BX7 hb
  have HB := n0_
  have HZ := n1_
  have BX7 := n2_
  clear n0_ n1_ n2_
  refine hK.out _ _ ⟨(blk_cell BX7.out 0).trans rfl, (blk_cell BX7.out 1).trans rfl, (blk_cell BX7.out 2).trans rfl, (blk_cell BX7.out 3).trans rfl⟩ (fun hHeld => ?_)
  refine norm_ (a' := ?_) ?_ ?_
  rotate_left
  · show Act.put _ (some 43) _ = _
    simp only [Act.put, List.setIfInBounds_toArray, List.set_cons_zero, List.set_cons_succ, i64_w, i32_w]
    rfl
  refine one_ (i := 3) (N := some 45) #[true, true, true, true, true, false, false] rfl rfl (one_of HT_.out (by kernel_rfl)) (by decide) (fun K hK => ?_)
  refine goes_ Tryd.func29 (by kernel_rfl) rfl #[.slice A1 l1.length c1] (by rfl) rfl rfl (by (try simp only [List.map_toArray, List.map_cons, List.map_nil]); first | done | rfl | (simp only [List.length_drop, List.length_take]; rfl)) ?_
  with_reducible refine (nego_TagsN.calls A1 c1 l1 tt _ (Kd.C_below HR1.out HB.out) hc1 HTF1.out (GW.below hG HB.out)).mono ?_
  rintro e w41 ⟨vt, rfl, hv, hb⟩
  obtain ⟨At, ct, rfl⟩ := Kd.N_slice hv
  have HTT := Aside0.mk (Kd.F_mono (Kd.N_F hv) (fun _ _ => trivial))
  have HCT := Aside0.mk (Kd.N_reads' hv).2.1
  clear hv
  refine ⟨_, rfl, ?_⟩
  have n0_ := Aside0.mk (below_step HB.out hb)
  have n1_ := Aside0.mk (Kd.F_below HZ.out hb)
  have n2_ := Aside0.mk (blk_below BX7.out hb)
  have n3_ := Aside0.mk (Kd.F_below HTW.out hb)
  clear HB HZ BX7 HTW hb
  have HB := n0_
  have HZ := n1_
  have BX7 := n2_
  have HTW := n3_
  clear n0_ n1_ n2_ n3_
  refine hK.out _ _ ⟨(blk_cell BX7.out 0).trans rfl, (blk_cell BX7.out 1).trans rfl, (blk_cell BX7.out 2).trans rfl, (blk_cell BX7.out 3).trans rfl⟩ (fun hHeld => ?_)
  refine norm_ (a' := ?_) ?_ ?_
  rotate_left
  · show Act.put _ (some 45) _ = _
    simp only [Act.put, List.setIfInBounds_toArray, List.set_cons_zero, List.set_cons_succ, i64_w, i32_w]
    rfl
  refine one_ (i := 5) (N := some 47) #[true, true, true, true, true, true, false] rfl rfl (one_of HT_.out (by kernel_rfl)) (by decide) (fun K hK => ?_)
  refine goes_ Tryd.func33 (by kernel_rfl) rfl #[.slice Aw tw.length cw, .slice At tt.length ct, .agg #[.string z.f0, .string z.f1, .string z.f2, .slice A3 z.f3.length c3]] (by rfl) rfl rfl (by (try simp only [List.map_toArray, List.map_cons, List.map_nil]); first | done | rfl | (simp only [List.length_drop, List.length_take]; rfl)) ?_
  with_reducible refine (nego_Chain.calls (fun _ => True) Aw cw tw (fun _ => True) At ct tt z.f0 z.f1 z.f2 (fun _ => True) A3 c3 z.f3 got _ (Kd.V_mk HCW.out HTW.out) (Kd.V_mk HCT.out HTT.out) (Kd.V_mk HCZ.out HZ.out) HCH.out).mono ?_
  rintro e w42 ⟨vg, rfl, hv, hb⟩
  obtain ⟨Ag, cg, rfl⟩ := Kd.V_slice hv
  have HG := Aside0.mk (Kd.V_reads' hv).2.2
  have HCG := Aside0.mk (Kd.V_at hv).2.1
  clear hv
  refine ⟨_, rfl, ?_⟩
  have n0_ := Aside0.mk (below_step HB.out hb)
  have n1_ := Aside0.mk (Kd.F_below HZ.out hb)
  have n2_ := Aside0.mk (blk_below BX7.out hb)
  clear HB HZ BX7 hb
  have HB := n0_
  have HZ := n1_
  have BX7 := n2_
  clear n0_ n1_ n2_
  refine hK.out _ _ ⟨(blk_cell BX7.out 0).trans rfl, (blk_cell BX7.out 1).trans rfl, (blk_cell BX7.out 2).trans rfl, (blk_cell BX7.out 3).trans rfl⟩ (fun hHeld => ?_)
  refine norm_ (a' := ?_) ?_ ?_
  rotate_left
  · show Act.put _ (some 47) _ = _
    simp only [Act.put, List.setIfInBounds_toArray, List.set_cons_zero, List.set_cons_succ, i64_w, i32_w]
    rfl
  refine pure_ (i := 6) (N := some 9) (v := ?_) (a' := ?_) #[true, true, true, true, true, true, true] rfl rfl (any_of HT_.out (by kernel_rfl)) (fun _ _ _ h => h) (Or.inl ⟨by rfl, ?_⟩) ?_ ?_
  rotate_left
  · intro w'
    go_simp
    with_reducible rfl
  rotate_left
  · simp only [Act.put, List.setIfInBounds_toArray, List.set_cons_zero, List.set_cons_succ, i64_w, i32_w]
    rfl
  obtain ⟨yz, hyz⟩ : ∃ y, txt z = y := ⟨_, rfl⟩
  have HYyz := Aside0.mk (show tag_Str.f z.f0 z.f1 z.f2 z.f3 = some yz by rw [← hyz]; exact str_t z HSZ.out)
  have HTz := Aside0.mk hyz
  clear hyz
  have HL0 := Aside0.mk (show (false || (got.drop 0).any (fun x => (txt x).toList == yz.toList)) = true by
    obtain ⟨x, hx, e⟩ := HLA.out
    rw [HTz.out] at e
    rw [Bool.false_or, List.drop_zero]
    exact List.any_eq_true.mpr ⟨x, hx, beq_iff_eq.mpr e⟩)
  refine done_ (done_of HT_.out (by kernel_rfl)) ?_
  clear HTW HTT HW_ HT_ hHeld
  go_wp2
  go_loopg [10, 50] (got.length + 1) (fun kq v10 v50 w' => ∃ (x50 : Int) (j : Nat) (bf : Bool), v10 = .bool bf ∧ v50 = .int .i64 x50 ∧ Aside0 (x50 = j ∧ j ≤ got.length ∧ kq = got.length - j + 1) ∧ Aside0 ((bf || (got.drop j).any (fun x => (txt x).toList == yz.toList)) = true) ∧ Aside0 (Below w.heap.size w w') ∧ Aside0 (Kd.F Kd.string w' (fun _ => True) A3 z.f3.length z.f3) ∧ Aside0 (w'.heap[gb7]? = some (.cells #[.string z.f0, .string z.f1, .string z.f2, .slice A3 z.f3.length c3] 25 (0, 0))) ∧ Aside0 (Kd.C k25 w' Ag got.length got))
  case atStart => exact ⟨0, 0, false, rfl, rfl, ⟨rfl, Nat.zero_le _, rfl⟩, HL0, HB, HZ, BX7, HG⟩
  case round =>
    clear HB HZ BX7 HG HL0
    obtain ⟨x50, jt, bf, rfl, rfl, HJt, HH, HB, HZ, BX7, HG⟩ := hrel
    by_cases hi : x50 < (got.length : Int)
    case neg =>
      have d1 : decide (x50 < (got.length : Int)) = false := decide_eq_false hi
      have e1 := HH.out
      rw [List.drop_of_length_le (by have := HJt.out; omega), List.any_nil, Bool.or_false] at e1
      subst e1
      go_wp2
      go_ret
      exact ⟨rfl, HB.out⟩
    have d1 : decide (x50 < (got.length : Int)) = true := decide_eq_true hi
    have hjl : jt < got.length := by have := HJt.out; omega
    have hx0 : 0 ≤ x50 := by have := HJt.out; omega
    obtain ⟨adg, A4, c4, e4, hx_0, hx_1, hx_2, hx_3, hlt, hi4⟩ := at_T25 HG.out x50 hx0 hi
    cases e4
    obtain ⟨t, hx⟩ : ∃ t, rd_T25 got x50 = t := ⟨_, rfl⟩
    have hxj : got[jt]'(hjl) = t := by
      rw [← hx, HJt.out.1]
      unfold rd_T25
      simp [List.getD_eq_getElem?_getD, List.getElem?_eq_getElem hjl]
    rw [hx] at hx_0 hx_1 hx_2 hx_3 hlt hi4
    have HSt := Aside0.mk (HSG.out.1 t (by rw [← hxj]; exact List.getElem_mem hjl))
    have HFt := Aside0.mk hi4
    have HXt := Aside0.mk hxj
    obtain ⟨yt, hy⟩ : ∃ y, txt t = y := ⟨_, rfl⟩
    have HYyt := Aside0.mk (show tag_Str.f t.f0 t.f1 t.f2 t.f3 = some yt by rw [← hy]; exact str_t t HSt.out)
    have HTt := Aside0.mk hy
    clear hx hxj hi4 hy
    obtain ⟨be, hbe⟩ : ∃ b, (yt.toList == yz.toList) = b := ⟨_, rfl⟩
    have HBE := Aside0.mk hbe
    clear hbe
    have HD := Aside0.mk (show ((bf || be) || (got.drop (jt + 1)).any (fun x => (txt x).toList == yz.toList)) = true by
      have k := HH.out
      rw [any_drop _ got jt hjl t HXt.out, HTt.out, HBE.out] at k
      rw [Bool.or_assoc]; exact k)
    have HQ := Aside0.mk (show (be || tt.any (onesR tw t)) = true by
      have k := src_any (HSR.out t (by rw [← HXt.out]; exact List.getElem_mem hjl))
      rw [HTt.out, HTz.out, HBE.out] at k
      exact k)
    clear HH
    have pi : (0 ≤ x50) = True := eq_true hx0
    have pl : (x50 < (got.length : Int)) = True := eq_true hi
    have hw1 : wrap64 (x50 + 1) = x50 + 1 := wrap_id (by omega) (by have := HSG.out.2; omega)
    obtain ⟨got1, hgot1⟩ : ∃ l, got.take jt = l := ⟨_, rfl⟩
    have hl1 : got1.length = jt := by rw [← hgot1, List.length_take]; omega
    have HG1 := Aside0.mk hgot1
    clear hgot1
    obtain ⟨i0_, hi0_, _, hsz0_, _⟩ := info_parts info25
    have hcut := cut_to (P := Tryd.prog) 45 25 .i64 Tryd.underlying45 hi0_ (some adg) got.length cg x50 hx0 (by omega) HCG.out
    rw [show x50.toNat = got1.length by have := HJt.out; omega] at hcut
    clear hi0_ hsz0_
    have pq : (x50 ≤ (got.length : Int)) = True := eq_true (by omega)
    go_upto_region 13 with (first | ((with_reducible refine gate_dst (N := 12) rfl ?_); refine box_event ?hg (N := 12) ?hd (cs := #[.string (⟨#[]⟩ : ByteArray), .string (⟨#[]⟩ : ByteArray), .string (⟨#[]⟩ : ByteArray), .slice none 0 0]) (t := 25) ?hr ?_; (case hd => rfl); (case hg => rfl); (case hr => first | (go_simp; done) | (go_simp; rfl)); intro gb12 hg w51 hbox hb; have HBX := Aside0.mk hb; have HGX := Aside0.mk hg; have BK12 := Aside0.mk hbox; clear hb hg hbox; have hz0 : w51.cell? ⟨gb12, 0, none⟩ = some (.string (⟨#[]⟩ : ByteArray)) := (blk_cell BK12.out 0).trans rfl; have hzf0 := blk_frozen BK12.out 0; have hz1 : w51.cell? ⟨gb12, 1, none⟩ = some (.string (⟨#[]⟩ : ByteArray)) := (blk_cell BK12.out 1).trans rfl; have hzf1 := blk_frozen BK12.out 1; have hz2 : w51.cell? ⟨gb12, 2, none⟩ = some (.string (⟨#[]⟩ : ByteArray)) := (blk_cell BK12.out 2).trans rfl; have hzf2 := blk_frozen BK12.out 2; have hz3 : w51.cell? ⟨gb12, 3, none⟩ = some (.slice none 0 0) := (blk_cell BK12.out 3).trans rfl; have hzf3 := blk_frozen BK12.out 3))
    (try simp only [Act.put, List.setIfInBounds_toArray, List.set_cons_zero, List.set_cons_succ])
    obtain ⟨w52, hw⟩ : ∃ w52 : World, w52 = put4 w51 gb12 t A4 c4 := ⟨_, rfl⟩
    unfold put4 at hw
    rw [← hw]
    have hw' : w52 = put4 w51 gb12 t A4 c4 := hw
    have BX12 := Aside0.mk (show w52.heap[gb12]? = some (.cells #[.string t.f0, .string t.f1, .string t.f2, .slice A4 t.f3.length c4] 25 (0, 0)) by rw [hw']; exact put4_box t A4 c4 BK12.out)
    have hb : Below wr.heap.size wr w52 := by rw [hw']; exact made4 t A4 c4 HBX.out HGX.out
    clear hw hw' HBX HGX BK12 hz0 hz1 hz2 hz3 hzf0 hzf1 hzf2 hzf3 hx_0 hx_1 hx_2 hx_3
    have n0_ := Aside0.mk (below_step HB.out hb)
    have n1_ := Aside0.mk (Kd.F_below HZ.out hb)
    have n2_ := Aside0.mk (blk_below BX7.out hb)
    have n3_ := Aside0.mk (Kd.C_below HG.out hb)
    have n4_ := Aside0.mk (Kd.C_below HFt.out hb)
    clear HB HZ BX7 HG HFt hb
    have HB := n0_
    have HZ := n1_
    have BX7 := n2_
    have HG := n3_
    have HFt := n4_
    clear n0_ n1_ n2_ n3_ n4_
    go_wp2
    go_loopg [59] (got1.length + 1) (fun kq v59 w' => ∃ (x59 : Int) (j : Nat), v59 = .int .i64 x59 ∧ Aside0 (x59 = j ∧ j ≤ got1.length ∧ kq = got1.length - j + 1) ∧ Aside0 (Below w.heap.size w w') ∧ Aside0 (Kd.F Kd.string w' (fun _ => True) A3 z.f3.length z.f3) ∧ Aside0 (w'.heap[gb7]? = some (.cells #[.string z.f0, .string z.f1, .string z.f2, .slice A3 z.f3.length c3] 25 (0, 0))) ∧ Aside0 (Kd.C k25 w' (some adg) got.length got) ∧ Aside0 (Kd.C Kd.string w' A4 t.f3.length t.f3) ∧ Aside0 (w'.heap[gb12]? = some (.cells #[.string t.f0, .string t.f1, .string t.f2, .slice A4 t.f3.length c4] 25 (0, 0))))
    case atStart => exact ⟨0, 0, rfl, ⟨rfl, Nat.zero_le _, rfl⟩, HB, HZ, BX7, HG, HFt, BX12⟩
    case round =>
      clear HB HZ BX7 HG HFt BX12
      obtain ⟨x59, js, rfl, HJs, HB, HZ, BX7, HG, HFt, BX12⟩ := hrel
      by_cases hi : x59 < (got1.length : Int)
      case neg =>
        have d2 : decide (x59 < (got1.length : Int)) = false := decide_eq_false hi

        clear d1 d2 pi pl pq hcut
        go_wp2
        go_cut [10] (fun v10 wc => v10 = .bool (bf || be) ∧ Aside0 (Below w.heap.size w wc) ∧ Aside0 (Kd.F Kd.string wc (fun _ => True) A3 z.f3.length z.f3) ∧ Aside0 (wc.heap[gb7]? = some (.cells #[.string z.f0, .string z.f1, .string z.f2, .slice A3 z.f3.length c3] 25 (0, 0))) ∧ Aside0 (Kd.C k25 wc (some adg) got.length got) ∧ Aside0 (Kd.C Kd.string wc A4 t.f3.length t.f3) ∧ Aside0 (wc.heap[gb12]? = some (.cells #[.string t.f0, .string t.f1, .string t.f2, .slice A4 t.f3.length c4] 25 (0, 0))))
        case first =>
          cases bf with
          | true =>
            refine start_ (n := 9) (S := fun w' => w'.cell? ⟨gb12, 0, none⟩ = some (.string t.f0) ∧ w'.cell? ⟨gb12, 1, none⟩ = some (.string t.f1) ∧ w'.cell? ⟨gb12, 2, none⟩ = some (.string t.f2) ∧ w'.cell? ⟨gb12, 3, none⟩ = some (.slice A4 t.f3.length c4) ∧ w'.cell? ⟨gb7, 0, none⟩ = some (.string z.f0) ∧ w'.cell? ⟨gb7, 1, none⟩ = some (.string z.f1) ∧ w'.cell? ⟨gb7, 2, none⟩ = some (.string z.f2) ∧ w'.cell? ⟨gb7, 3, none⟩ = some (.slice A3 z.f3.length c3)) (ds := []) #[false, false, false, false, false, false, false, false, false] (by kernel_rfl) rfl rfl ⟨(blk_cell BX12.out 0).trans rfl, (blk_cell BX12.out 1).trans rfl, (blk_cell BX12.out 2).trans rfl, (blk_cell BX12.out 3).trans rfl, (blk_cell BX7.out 0).trans rfl, (blk_cell BX7.out 1).trans rfl, (blk_cell BX7.out 2).trans rfl, (blk_cell BX7.out 3).trans rfl⟩ (fun hHeld => ?_)
            refine with_tabW negoOnes.tab19 negoOnes.bits19 (fun HT_ HW_ => ?_)
            have hb : Below wr.heap.size wr wr.drew := ⟨rfl, rfl, rfl, Nat.le_refl _, fun _ _ => rfl⟩
            have n0_ := Aside0.mk (below_step HB.out hb)
            have n1_ := Aside0.mk (Kd.F_below HZ.out hb)
            have n2_ := Aside0.mk (blk_below BX7.out hb)
            have n3_ := Aside0.mk (Kd.C_below HG.out hb)
            have n4_ := Aside0.mk (Kd.C_below HFt.out hb)
            have n5_ := Aside0.mk (blk_below BX12.out hb)
            clear HB HZ BX7 HG HFt BX12 hb
            have HB := n0_
            have HZ := n1_
            have BX7 := n2_
            have HG := n3_
            have HFt := n4_
            have BX12 := n5_
            clear n0_ n1_ n2_ n3_ n4_ n5_
            generalize wr.drew = w70 at HB HZ BX7 HG HFt BX12 hHeld ⊢
            refine pure_ (i := 0) (N := some 69) (v := ?_) (a' := ?_) #[true, false, false, false, false, false, false, false, false] rfl rfl (any_of HT_.out (by kernel_rfl)) (fun _ _ _ h => h) (Or.inl ⟨by rfl, ?_⟩) ?_ ?_
            rotate_left
            · intro w'
              go_simp
              with_reducible rfl
            rotate_left
            · simp only [Act.put, List.setIfInBounds_toArray, List.set_cons_zero, List.set_cons_succ, i64_w, i32_w]
              rfl
            refine pure_ (i := 1) (N := some 70) (v := ?_) (a' := ?_) #[true, true, false, false, false, false, false, false, false] rfl rfl (any_of HT_.out (by kernel_rfl)) (fun _ _ _ h => h) (Or.inl ⟨by rfl, ?_⟩) ?_ ?_
            rotate_left
            · intro w'
              go_simp
              with_reducible rfl
            rotate_left
            · simp only [Act.put, List.setIfInBounds_toArray, List.set_cons_zero, List.set_cons_succ, i64_w, i32_w]
              rfl
            refine pure_ (i := 2) (N := some 71) (v := undef) (a' := ?_) #[true, true, true, false, false, false, false, false, false] rfl rfl (any_of HT_.out (by kernel_rfl)) (fun _ _ _ h => h) (Or.inr ⟨by rfl, rfl⟩) ?_ ?_
            rotate_left
            · simp only [Act.put, List.setIfInBounds_toArray, List.set_cons_zero, List.set_cons_succ, i64_w, i32_w]
              rfl
            refine pure_ (i := 3) (N := some 72) (v := undef) (a' := ?_) #[true, true, true, true, false, false, false, false, false] rfl rfl (any_of HT_.out (by kernel_rfl)) (fun _ _ _ h => h) (Or.inr ⟨by rfl, rfl⟩) ?_ ?_
            rotate_left
            · simp only [Act.put, List.setIfInBounds_toArray, List.set_cons_zero, List.set_cons_succ, i64_w, i32_w]
              rfl
            refine pure_ (i := 4) (N := some 73) (v := undef) (a' := ?_) #[true, true, true, true, true, false, false, false, false] rfl rfl (any_of HT_.out (by kernel_rfl)) (fun _ _ _ h => h) (Or.inr ⟨by rfl, rfl⟩) ?_ ?_
            rotate_left
            · simp only [Act.put, List.setIfInBounds_toArray, List.set_cons_zero, List.set_cons_succ, i64_w, i32_w]
              rfl
            refine pure_ (i := 5) (N := some 74) (v := undef) (a' := ?_) #[true, true, true, true, true, true, false, false, false] rfl rfl (any_of HT_.out (by kernel_rfl)) (fun _ _ _ h => h) (Or.inr ⟨by rfl, rfl⟩) ?_ ?_
            rotate_left
            · simp only [Act.put, List.setIfInBounds_toArray, List.set_cons_zero, List.set_cons_succ, i64_w, i32_w]
              rfl
            refine pure_ (i := 6) (N := some 75) (v := undef) (a' := ?_) #[true, true, true, true, true, true, true, false, false] rfl rfl (any_of HT_.out (by kernel_rfl)) (fun _ _ _ h => h) (Or.inr ⟨by rfl, rfl⟩) ?_ ?_
            rotate_left
            · simp only [Act.put, List.setIfInBounds_toArray, List.set_cons_zero, List.set_cons_succ, i64_w, i32_w]
              rfl
            refine pure_ (i := 7) (N := some 76) (v := ?_) (a' := ?_) #[true, true, true, true, true, true, true, true, false] rfl rfl (any_of HT_.out (by kernel_rfl)) (fun _ _ _ h => h) (Or.inl ⟨by rfl, ?_⟩) ?_ ?_
            rotate_left
            · intro w'
              go_simp
              with_reducible rfl
            rotate_left
            · simp only [Act.put, List.setIfInBounds_toArray, List.set_cons_zero, List.set_cons_succ, i64_w, i32_w]
              rfl
            refine pure_ (i := 8) (N := some 10) (v := ?_) (a' := ?_) #[true, true, true, true, true, true, true, true, true] rfl rfl (any_of HT_.out (by kernel_rfl)) (fun _ _ _ h => h) (Or.inl ⟨by rfl, ?_⟩) ?_ ?_
            rotate_left
            · intro w'
              go_simp
              with_reducible rfl
            rotate_left
            · simp only [Act.put, List.setIfInBounds_toArray, List.set_cons_zero, List.set_cons_succ, i64_w, i32_w]
              rfl
            refine done_ (done_of HT_.out (by kernel_rfl)) ?_
            go_wp2
            go_meet
            case rel => exact ⟨rfl, HB, HZ, BX7, HG, HFt, BX12⟩
          | false =>
            refine start_ (n := 9) (S := fun w' => w'.cell? ⟨gb12, 0, none⟩ = some (.string t.f0) ∧ w'.cell? ⟨gb12, 1, none⟩ = some (.string t.f1) ∧ w'.cell? ⟨gb12, 2, none⟩ = some (.string t.f2) ∧ w'.cell? ⟨gb12, 3, none⟩ = some (.slice A4 t.f3.length c4) ∧ w'.cell? ⟨gb7, 0, none⟩ = some (.string z.f0) ∧ w'.cell? ⟨gb7, 1, none⟩ = some (.string z.f1) ∧ w'.cell? ⟨gb7, 2, none⟩ = some (.string z.f2) ∧ w'.cell? ⟨gb7, 3, none⟩ = some (.slice A3 z.f3.length c3)) (ds := []) #[false, false, false, false, false, false, false, false, false] (by kernel_rfl) rfl rfl ⟨(blk_cell BX12.out 0).trans rfl, (blk_cell BX12.out 1).trans rfl, (blk_cell BX12.out 2).trans rfl, (blk_cell BX12.out 3).trans rfl, (blk_cell BX7.out 0).trans rfl, (blk_cell BX7.out 1).trans rfl, (blk_cell BX7.out 2).trans rfl, (blk_cell BX7.out 3).trans rfl⟩ (fun hHeld => ?_)
            refine with_tabW negoOnes.tab19 negoOnes.bits19 (fun HT_ HW_ => ?_)
            have hb : Below wr.heap.size wr wr.drew := ⟨rfl, rfl, rfl, Nat.le_refl _, fun _ _ => rfl⟩
            have n0_ := Aside0.mk (below_step HB.out hb)
            have n1_ := Aside0.mk (Kd.F_below HZ.out hb)
            have n2_ := Aside0.mk (blk_below BX7.out hb)
            have n3_ := Aside0.mk (Kd.C_below HG.out hb)
            have n4_ := Aside0.mk (Kd.C_below HFt.out hb)
            have n5_ := Aside0.mk (blk_below BX12.out hb)
            clear HB HZ BX7 HG HFt BX12 hb
            have HB := n0_
            have HZ := n1_
            have BX7 := n2_
            have HG := n3_
            have HFt := n4_
            have BX12 := n5_
            clear n0_ n1_ n2_ n3_ n4_ n5_
            generalize wr.drew = w70 at HB HZ BX7 HG HFt BX12 hHeld ⊢
            refine pure_ (i := 0) (N := some 69) (v := ?_) (a' := ?_) #[true, false, false, false, false, false, false, false, false] rfl rfl (any_of HT_.out (by kernel_rfl)) (fun _ _ _ h => h) (Or.inl ⟨by rfl, ?_⟩) ?_ ?_
            rotate_left
            · intro w'
              go_simp
              with_reducible rfl
            rotate_left
            · simp only [Act.put, List.setIfInBounds_toArray, List.set_cons_zero, List.set_cons_succ, i64_w, i32_w]
              rfl
            refine pure_ (i := 1) (N := some 70) (v := ?_) (a' := ?_) #[true, true, false, false, false, false, false, false, false] rfl rfl (any_of HT_.out (by kernel_rfl)) (fun _ _ _ h => h) (Or.inl ⟨by rfl, ?_⟩) ?_ ?_
            rotate_left
            · intro w'
              go_simp
              with_reducible rfl
            rotate_left
            · simp only [Act.put, List.setIfInBounds_toArray, List.set_cons_zero, List.set_cons_succ, i64_w, i32_w]
              rfl
            refine take_ (i := 2) (N := some 71) (v := ?_) (a' := ?_) #[true, true, true, false, false, false, false, false, false] rfl rfl (take_ofW HT_.out HW_.out (by kernel_rfl)) (fun _ _ _ h => h) (Or.inl ⟨by rfl, ?_⟩) hHeld ?_ ?_
            rotate_left
            · rintro w' ⟨s0_, s1_, s2_, s3_, s4_, s5_, s6_, s7_⟩
              go_simp
              with_reducible rfl
            rotate_left
            · simp only [Act.put, List.setIfInBounds_toArray, List.set_cons_zero, List.set_cons_succ, i64_w, i32_w]
              rfl
            refine take_ (i := 4) (N := some 73) (v := ?_) (a' := ?_) #[true, true, true, false, true, false, false, false, false] rfl rfl (take_ofW HT_.out HW_.out (by kernel_rfl)) (fun _ _ _ h => h) (Or.inl ⟨by rfl, ?_⟩) hHeld ?_ ?_
            rotate_left
            · rintro w' ⟨s0_, s1_, s2_, s3_, s4_, s5_, s6_, s7_⟩
              go_simp
              with_reducible rfl
            rotate_left
            · simp only [Act.put, List.setIfInBounds_toArray, List.set_cons_zero, List.set_cons_succ, i64_w, i32_w]
              rfl
            refine one_ (i := 3) (N := some 72) #[true, true, true, true, true, false, false, false, false] rfl rfl (one_of HT_.out (by kernel_rfl)) (by decide) (fun K hK => ?_)
            refine goes_ Tryd.func17 (by kernel_rfl) rfl #[.agg #[.string t.f0, .string t.f1, .string t.f2, .slice A4 t.f3.length c4]] (by rfl) rfl rfl (by (try simp only [List.map_toArray, List.map_cons, List.map_nil]); first | done | rfl | (simp only [List.length_drop, List.length_take]; rfl)) ?_
            with_reducible refine (tag_Str.calls t.f0 t.f1 t.f2 A4 c4 t.f3 yt _ (HFt.out) hlt HYyt.out).mono ?_
            rintro e w71 ⟨rfl, hb⟩
            refine ⟨_, rfl, ?_⟩
            have n0_ := Aside0.mk (below_step HB.out hb)
            have n1_ := Aside0.mk (Kd.F_below HZ.out hb)
            have n2_ := Aside0.mk (blk_below BX7.out hb)
            have n3_ := Aside0.mk (Kd.C_below HG.out hb)
            have n4_ := Aside0.mk (Kd.C_below HFt.out hb)
            have n5_ := Aside0.mk (blk_below BX12.out hb)
            clear HB HZ BX7 HG HFt BX12 hb
            have HB := n0_
            have HZ := n1_
            have BX7 := n2_
            have HG := n3_
            have HFt := n4_
            have BX12 := n5_
            clear n0_ n1_ n2_ n3_ n4_ n5_

            refine hK.out _ _ ⟨(blk_cell BX12.out 0).trans rfl, (blk_cell BX12.out 1).trans rfl, (blk_cell BX12.out 2).trans rfl, (blk_cell BX12.out 3).trans rfl, (blk_cell BX7.out 0).trans rfl, (blk_cell BX7.out 1).trans rfl, (blk_cell BX7.out 2).trans rfl, (blk_cell BX7.out 3).trans rfl⟩ (fun hHeld => ?_)
            refine norm_ (a' := ?_) ?_ ?_
            rotate_left
            · show Act.put _ (some 72) _ = _
              simp only [Act.put, List.setIfInBounds_toArray, List.set_cons_zero, List.set_cons_succ, i64_w, i32_w]
              rfl
            refine one_ (i := 5) (N := some 74) #[true, true, true, true, true, true, false, false, false] rfl rfl (one_of HT_.out (by kernel_rfl)) (by decide) (fun K hK => ?_)
            refine goes_ Tryd.func17 (by kernel_rfl) rfl #[.agg #[.string z.f0, .string z.f1, .string z.f2, .slice A3 z.f3.length c3]] (by rfl) rfl rfl (by (try simp only [List.map_toArray, List.map_cons, List.map_nil]); first | done | rfl | (simp only [List.length_drop, List.length_take]; rfl)) ?_
            with_reducible refine (tag_Str.calls z.f0 z.f1 z.f2 A3 c3 z.f3 yz _ (Kd.F_now HZ.out) HCZ.out HYyz.out).mono ?_
            rintro e w72 ⟨rfl, hb⟩
            refine ⟨_, rfl, ?_⟩
            have n0_ := Aside0.mk (below_step HB.out hb)
            have n1_ := Aside0.mk (Kd.F_below HZ.out hb)
            have n2_ := Aside0.mk (blk_below BX7.out hb)
            have n3_ := Aside0.mk (Kd.C_below HG.out hb)
            have n4_ := Aside0.mk (Kd.C_below HFt.out hb)
            have n5_ := Aside0.mk (blk_below BX12.out hb)
            clear HB HZ BX7 HG HFt BX12 hb
            have HB := n0_
            have HZ := n1_
            have BX7 := n2_
            have HG := n3_
            have HFt := n4_
            have BX12 := n5_
            clear n0_ n1_ n2_ n3_ n4_ n5_

            refine hK.out _ _ ⟨(blk_cell BX12.out 0).trans rfl, (blk_cell BX12.out 1).trans rfl, (blk_cell BX12.out 2).trans rfl, (blk_cell BX12.out 3).trans rfl, (blk_cell BX7.out 0).trans rfl, (blk_cell BX7.out 1).trans rfl, (blk_cell BX7.out 2).trans rfl, (blk_cell BX7.out 3).trans rfl⟩ (fun hHeld => ?_)
            refine norm_ (a' := ?_) ?_ ?_
            rotate_left
            · show Act.put _ (some 74) _ = _
              simp only [Act.put, List.setIfInBounds_toArray, List.set_cons_zero, List.set_cons_succ, i64_w, i32_w]
              rfl
            refine pure_ (i := 6) (N := some 75) (v := ?_) (a' := ?_) #[true, true, true, true, true, true, true, false, false] rfl rfl (any_of HT_.out (by kernel_rfl)) (fun _ _ _ h => h) (Or.inl ⟨by rfl, ?_⟩) ?_ ?_
            rotate_left
            · intro w'
              go_simp
              with_reducible rfl
            rotate_left
            · simp only [Act.put, List.setIfInBounds_toArray, List.set_cons_zero, List.set_cons_succ, i64_w, i32_w]
              rfl
            rw [HBE.out]
            refine pure_ (i := 7) (N := some 76) (v := ?_) (a' := ?_) #[true, true, true, true, true, true, true, true, false] rfl rfl (any_of HT_.out (by kernel_rfl)) (fun _ _ _ h => h) (Or.inl ⟨by rfl, ?_⟩) ?_ ?_
            rotate_left
            · intro w'
              go_simp
              with_reducible rfl
            rotate_left
            · simp only [Act.put, List.setIfInBounds_toArray, List.set_cons_zero, List.set_cons_succ, i64_w, i32_w]
              rfl
            refine pure_ (i := 8) (N := some 10) (v := ?_) (a' := ?_) #[true, true, true, true, true, true, true, true, true] rfl rfl (any_of HT_.out (by kernel_rfl)) (fun _ _ _ h => h) (Or.inl ⟨by rfl, ?_⟩) ?_ ?_
            rotate_left
            · intro w'
              go_simp
              with_reducible rfl
            rotate_left
            · simp only [Act.put, List.setIfInBounds_toArray, List.set_cons_zero, List.set_cons_succ, i64_w, i32_w]
              rfl
            refine done_ (done_of HT_.out (by kernel_rfl)) ?_
            go_wp2
            go_meet
            case rel => exact ⟨by cases be <;> rfl, HB, HZ, BX7, HG, HFt, BX12⟩
        case rest =>
          clear HB HZ BX7 HG HFt BX12
          obtain ⟨rfl, HB, HZ, BX7, HG, HFt, BX12⟩ := hcut
          go_wp2
          refine start_ (n := 6) (S := fun w' => w'.cell? ⟨gb12, 0, none⟩ = some (.string t.f0) ∧ w'.cell? ⟨gb12, 1, none⟩ = some (.string t.f1) ∧ w'.cell? ⟨gb12, 2, none⟩ = some (.string t.f2) ∧ w'.cell? ⟨gb12, 3, none⟩ = some (.slice A4 t.f3.length c4) ∧ w'.cell? ⟨gb7, 0, none⟩ = some (.string z.f0) ∧ w'.cell? ⟨gb7, 1, none⟩ = some (.string z.f1) ∧ w'.cell? ⟨gb7, 2, none⟩ = some (.string z.f2) ∧ w'.cell? ⟨gb7, 3, none⟩ = some (.slice A3 z.f3.length c3)) (ds := []) #[false, false, false, false, false, false] (by kernel_rfl) rfl rfl ⟨(blk_cell BX12.out 0).trans rfl, (blk_cell BX12.out 1).trans rfl, (blk_cell BX12.out 2).trans rfl, (blk_cell BX12.out 3).trans rfl, (blk_cell BX7.out 0).trans rfl, (blk_cell BX7.out 1).trans rfl, (blk_cell BX7.out 2).trans rfl, (blk_cell BX7.out 3).trans rfl⟩ (fun hHeld => ?_)
          refine with_tabW negoOnes.tab20 negoOnes.bits20 (fun HT_ HW_ => ?_)
          have hb : Below wc.heap.size wc wc.drew := ⟨rfl, rfl, rfl, Nat.le_refl _, fun _ _ => rfl⟩
          have n0_ := Aside0.mk (below_step HB.out hb)
          have n1_ := Aside0.mk (Kd.F_below HZ.out hb)
          have n2_ := Aside0.mk (blk_below BX7.out hb)
          have n3_ := Aside0.mk (Kd.C_below HG.out hb)
          have n4_ := Aside0.mk (Kd.C_below HFt.out hb)
          have n5_ := Aside0.mk (blk_below BX12.out hb)
          clear HB HZ BX7 HG HFt BX12 hb
          have HB := n0_
          have HZ := n1_
          have BX7 := n2_
          have HG := n3_
          have HFt := n4_
          have BX12 := n5_
          clear n0_ n1_ n2_ n3_ n4_ n5_
          generalize wc.drew = w73 at HB HZ BX7 HG HFt BX12 hHeld ⊢
          refine take_ (i := 0) (N := some 77) (v := ?_) (a' := ?_) #[true, false, false, false, false, false] rfl rfl (take_ofW HT_.out HW_.out (by kernel_rfl)) (fun _ _ _ h => h) (Or.inl ⟨by rfl, ?_⟩) hHeld ?_ ?_
          rotate_left
          · rintro w' ⟨s0_, s1_, s2_, s3_, s4_, s5_, s6_, s7_⟩
            go_simp
            with_reducible rfl
          rotate_left
          · simp only [Act.put, List.setIfInBounds_toArray, List.set_cons_zero, List.set_cons_succ, i64_w, i32_w]
            rfl
          refine take_ (i := 2) (N := some 79) (v := ?_) (a' := ?_) #[true, false, true, false, false, false] rfl rfl (take_ofW HT_.out HW_.out (by kernel_rfl)) (fun _ _ _ h => h) (Or.inl ⟨by rfl, ?_⟩) hHeld ?_ ?_
          rotate_left
          · rintro w' ⟨s0_, s1_, s2_, s3_, s4_, s5_, s6_, s7_⟩
            go_simp
            with_reducible rfl
          rotate_left
          · simp only [Act.put, List.setIfInBounds_toArray, List.set_cons_zero, List.set_cons_succ, i64_w, i32_w]
            rfl
          refine one_ (i := 1) (N := some 78) #[true, true, true, false, false, false] rfl rfl (one_of HT_.out (by kernel_rfl)) (by decide) (fun K hK => ?_)
          refine goes_ Tryd.func17 (by kernel_rfl) rfl #[.agg #[.string t.f0, .string t.f1, .string t.f2, .slice A4 t.f3.length c4]] (by rfl) rfl rfl (by (try simp only [List.map_toArray, List.map_cons, List.map_nil]); first | done | rfl | (simp only [List.length_drop, List.length_take]; rfl)) ?_
          with_reducible refine (tag_Str.calls t.f0 t.f1 t.f2 A4 c4 t.f3 yt _ (HFt.out) hlt HYyt.out).mono ?_
          rintro e w74 ⟨rfl, hb⟩
          refine ⟨_, rfl, ?_⟩
          have n0_ := Aside0.mk (below_step HB.out hb)
          have n1_ := Aside0.mk (Kd.F_below HZ.out hb)
          have n2_ := Aside0.mk (blk_below BX7.out hb)
          have n3_ := Aside0.mk (Kd.C_below HG.out hb)
          have n4_ := Aside0.mk (Kd.C_below HFt.out hb)
          have n5_ := Aside0.mk (blk_below BX12.out hb)
          clear HB HZ BX7 HG HFt BX12 hb
          have HB := n0_
          have HZ := n1_
          have BX7 := n2_
          have HG := n3_
          have HFt := n4_
          have BX12 := n5_
          clear n0_ n1_ n2_ n3_ n4_ n5_

          refine hK.out _ _ ⟨(blk_cell BX12.out 0).trans rfl, (blk_cell BX12.out 1).trans rfl, (blk_cell BX12.out 2).trans rfl, (blk_cell BX12.out 3).trans rfl, (blk_cell BX7.out 0).trans rfl, (blk_cell BX7.out 1).trans rfl, (blk_cell BX7.out 2).trans rfl, (blk_cell BX7.out 3).trans rfl⟩ (fun hHeld => ?_)
          refine norm_ (a' := ?_) ?_ ?_
          rotate_left
          · show Act.put _ (some 78) _ = _
            simp only [Act.put, List.setIfInBounds_toArray, List.set_cons_zero, List.set_cons_succ, i64_w, i32_w]
            rfl
          refine one_ (i := 3) (N := some 80) #[true, true, true, true, false, false] rfl rfl (one_of HT_.out (by kernel_rfl)) (by decide) (fun K hK => ?_)
          refine goes_ Tryd.func17 (by kernel_rfl) rfl #[.agg #[.string z.f0, .string z.f1, .string z.f2, .slice A3 z.f3.length c3]] (by rfl) rfl rfl (by (try simp only [List.map_toArray, List.map_cons, List.map_nil]); first | done | rfl | (simp only [List.length_drop, List.length_take]; rfl)) ?_
          with_reducible refine (tag_Str.calls z.f0 z.f1 z.f2 A3 c3 z.f3 yz _ (Kd.F_now HZ.out) HCZ.out HYyz.out).mono ?_
          rintro e w75 ⟨rfl, hb⟩
          refine ⟨_, rfl, ?_⟩
          have n0_ := Aside0.mk (below_step HB.out hb)
          have n1_ := Aside0.mk (Kd.F_below HZ.out hb)
          have n2_ := Aside0.mk (blk_below BX7.out hb)
          have n3_ := Aside0.mk (Kd.C_below HG.out hb)
          have n4_ := Aside0.mk (Kd.C_below HFt.out hb)
          have n5_ := Aside0.mk (blk_below BX12.out hb)
          clear HB HZ BX7 HG HFt BX12 hb
          have HB := n0_
          have HZ := n1_
          have BX7 := n2_
          have HG := n3_
          have HFt := n4_
          have BX12 := n5_
          clear n0_ n1_ n2_ n3_ n4_ n5_

          refine hK.out _ _ ⟨(blk_cell BX12.out 0).trans rfl, (blk_cell BX12.out 1).trans rfl, (blk_cell BX12.out 2).trans rfl, (blk_cell BX12.out 3).trans rfl, (blk_cell BX7.out 0).trans rfl, (blk_cell BX7.out 1).trans rfl, (blk_cell BX7.out 2).trans rfl, (blk_cell BX7.out 3).trans rfl⟩ (fun hHeld => ?_)
          refine norm_ (a' := ?_) ?_ ?_
          rotate_left
          · show Act.put _ (some 80) _ = _
            simp only [Act.put, List.setIfInBounds_toArray, List.set_cons_zero, List.set_cons_succ, i64_w, i32_w]
            rfl
          refine pure_ (i := 4) (N := some 81) (v := ?_) (a' := ?_) #[true, true, true, true, true, false] rfl rfl (any_of HT_.out (by kernel_rfl)) (fun _ _ _ h => h) (Or.inl ⟨by rfl, ?_⟩) ?_ ?_
          rotate_left
          · intro w'
            go_simp
            with_reducible rfl
          rotate_left
          · simp only [Act.put, List.setIfInBounds_toArray, List.set_cons_zero, List.set_cons_succ, i64_w, i32_w]
            rfl
          rw [HBE.out]
          refine pure_ (i := 5) (N := some 15) (v := ?_) (a' := ?_) #[true, true, true, true, true, true] rfl rfl (any_of HT_.out (by kernel_rfl)) (fun _ _ _ h => h) (Or.inl ⟨by rfl, ?_⟩) ?_ ?_
          rotate_left
          · intro w'
            go_simp
            with_reducible rfl
          rotate_left
          · simp only [Act.put, List.setIfInBounds_toArray, List.set_cons_zero, List.set_cons_succ, i64_w, i32_w]
            rfl
          refine done_ (done_of HT_.out (by kernel_rfl)) ?_

          clear HW_ HT_ hHeld
          have HQ0 := Aside0.mk (show (be || (tt.drop 0).any (onesR tw t)) = true from HQ.out)
          go_wp2_with (first | ((with_reducible refine gate_callee (f := 29) rfl ?_); refine goesL_ (some 83) rfl rfl Tryd.func29 (by kernel_rfl) rfl #[.slice A1 l1.length c1] rfl (by (try simp only [List.map_toArray, List.map_cons, List.map_nil]); first | done | rfl | (simp only [List.length_drop, List.length_take]; rfl)) ?_; (with_reducible refine (nego_TagsN.calls A1 c1 l1 tt _ (Kd.C_below HR1.out HB.out) hc1 HTF1.out (GW.below hG HB.out)).mono ?_); rintro e w80 ⟨vt2, rfl, hv, hb⟩; refine ⟨_, rfl, ?_⟩; obtain ⟨At2, ct2, rfl⟩ := Kd.N_slice hv; have HTS := Aside0.mk (Kd.N_reads' hv).2.2; clear hv; have n0_ := Aside0.mk (below_step HB.out hb); have n1_ := Aside0.mk (Kd.F_below HZ.out hb); have n2_ := Aside0.mk (blk_below BX7.out hb); have n3_ := Aside0.mk (Kd.C_below HG.out hb); have n4_ := Aside0.mk (Kd.C_below HFt.out hb); have n5_ := Aside0.mk (blk_below BX12.out hb); clear HB HZ BX7 HG HFt BX12 hb; have HB := n0_; have HZ := n1_; have BX7 := n2_; have HG := n3_; have HFt := n4_; have BX12 := n5_; clear n0_ n1_ n2_ n3_ n4_ n5_))
          go_loopg [15, 85] (tt.length + 1) (fun kq v15 v85 w' => ∃ (x85 : Int) (j : Nat) (b : Bool), v15 = .bool b ∧ v85 = .int .i64 x85 ∧ Aside0 (x85 = j ∧ j ≤ tt.length ∧ kq = tt.length - j + 1) ∧ Aside0 ((b || (tt.drop j).any (onesR tw t)) = true) ∧ Aside0 (Below w.heap.size w w') ∧ Aside0 (Kd.F Kd.string w' (fun _ => True) A3 z.f3.length z.f3) ∧ Aside0 (w'.heap[gb7]? = some (.cells #[.string z.f0, .string z.f1, .string z.f2, .slice A3 z.f3.length c3] 25 (0, 0))) ∧ Aside0 (Kd.C k25 w' (some adg) got.length got) ∧ Aside0 (Kd.C Kd.string w' A4 t.f3.length t.f3) ∧ Aside0 (w'.heap[gb12]? = some (.cells #[.string t.f0, .string t.f1, .string t.f2, .slice A4 t.f3.length c4] 25 (0, 0))) ∧ Aside0 (Kd.C k25 w' At2 tt.length tt))
          case atStart => exact ⟨0, 0, be, rfl, rfl, ⟨rfl, Nat.zero_le _, rfl⟩, HQ0, HB, HZ, BX7, HG, HFt, BX12, HTS⟩
          case round =>
            clear HQ0 HB HZ BX7 HG HFt BX12 HTS
            obtain ⟨x85, jx, b, rfl, rfl, HJx, HH, HB, HZ, BX7, HG, HFt, BX12, HTS⟩ := hrel
            by_cases hi : x85 < (tt.length : Int)
            case neg =>
              have d3 : decide (x85 < (tt.length : Int)) = false := decide_eq_false hi
              have e1 := HH.out
              rw [List.drop_of_length_le (by have := HJx.out; omega), List.any_nil, Bool.or_false] at e1
              subst e1
              go_wp2
              go_roundg (got.length - jt)
              case measure => have := HJt.out; omega
              case rel => exact ⟨x50 + 1, jt + 1, bf || be, rfl, by simp [hw1], ⟨by have := HJt.out; omega, by have := HJt.out; omega, by have := HJt.out; omega⟩, HD, HB, HZ, BX7, HG⟩
            have d3 : decide (x85 < (tt.length : Int)) = true := decide_eq_true hi
            have hjl : jx < tt.length := by have := HJx.out; omega
            have hx0 : 0 ≤ x85 := by have := HJx.out; omega
            obtain ⟨adt, A5, c5, e4, hx_0, hx_1, hx_2, hx_3, hlx, hi4⟩ := at_T25 HTS.out x85 hx0 hi
            cases e4
            obtain ⟨x, hx⟩ : ∃ x, rd_T25 tt x85 = x := ⟨_, rfl⟩
            have hxj : tt[jx]'(hjl) = x := by
              rw [← hx, HJx.out.1]
              unfold rd_T25
              simp [List.getD_eq_getElem?_getD, List.getElem?_eq_getElem hjl]
            rw [hx] at hx_0 hx_1 hx_2 hx_3 hlx hi4
            have HSx := Aside0.mk (HST.out.1 x (by rw [← hxj]; exact List.getElem_mem hjl))
            have HFx := Aside0.mk hi4
            have HXx := Aside0.mk hxj
            obtain ⟨yx, hy⟩ : ∃ y, txt x = y := ⟨_, rfl⟩
            have HYyx := Aside0.mk (show tag_Str.f x.f0 x.f1 x.f2 x.f3 = some yx by rw [← hy]; exact str_t x HSx.out)
            have HTx := Aside0.mk hy
            clear hx hxj hi4 hy
            have HD2 := Aside0.mk (show ((b || (tw.drop 0).any (onesP t x)) || (tt.drop (jx + 1)).any (onesR tw t)) = true by
              have k := HH.out
              rw [any_drop _ tt jx hjl x HXx.out] at k
              rw [Bool.or_assoc]; exact k)
            clear HH
            have pi3 : (0 ≤ x85) = True := eq_true hx0
            have pl3 : (x85 < (tt.length : Int)) = True := eq_true hi
            have hw3 : wrap64 (x85 + 1) = x85 + 1 := wrap_id (by omega) (by have := HST.out.2; omega)
            go_upto_region 24 with (first | ((with_reducible refine gate_dst (N := 17) rfl ?_); refine box_event ?hg (N := 17) ?hd (cs := #[.string (⟨#[]⟩ : ByteArray), .string (⟨#[]⟩ : ByteArray), .string (⟨#[]⟩ : ByteArray), .slice none 0 0]) (t := 25) ?hr ?_; (case hd => rfl); (case hg => rfl); (case hr => first | (go_simp; done) | (go_simp; rfl)); intro gb17 hg w81 hbox hb; have HBX := Aside0.mk hb; have HGX := Aside0.mk hg; have BK17 := Aside0.mk hbox; clear hb hg hbox; have hz0 : w81.cell? ⟨gb17, 0, none⟩ = some (.string (⟨#[]⟩ : ByteArray)) := (blk_cell BK17.out 0).trans rfl; have hzf0 := blk_frozen BK17.out 0; have hz1 : w81.cell? ⟨gb17, 1, none⟩ = some (.string (⟨#[]⟩ : ByteArray)) := (blk_cell BK17.out 1).trans rfl; have hzf1 := blk_frozen BK17.out 1; have hz2 : w81.cell? ⟨gb17, 2, none⟩ = some (.string (⟨#[]⟩ : ByteArray)) := (blk_cell BK17.out 2).trans rfl; have hzf2 := blk_frozen BK17.out 2; have hz3 : w81.cell? ⟨gb17, 3, none⟩ = some (.slice none 0 0) := (blk_cell BK17.out 3).trans rfl; have hzf3 := blk_frozen BK17.out 3))
            (try simp only [Act.put, List.setIfInBounds_toArray, List.set_cons_zero, List.set_cons_succ])
            obtain ⟨w82, hw⟩ : ∃ w82 : World, w82 = put4 w81 gb17 x A5 c5 := ⟨_, rfl⟩
            unfold put4 at hw
            rw [← hw]
            have hw' : w82 = put4 w81 gb17 x A5 c5 := hw
            have BX17 := Aside0.mk (show w82.heap[gb17]? = some (.cells #[.string x.f0, .string x.f1, .string x.f2, .slice A5 x.f3.length c5] 25 (0, 0)) by rw [hw']; exact put4_box x A5 c5 BK17.out)
            have hb : Below wr.heap.size wr w82 := by rw [hw']; exact made4 x A5 c5 HBX.out HGX.out
            clear hw hw' HBX HGX BK17 hz0 hz1 hz2 hz3 hzf0 hzf1 hzf2 hzf3 hx_0 hx_1 hx_2 hx_3
            have n0_ := Aside0.mk (below_step HB.out hb)
            have n1_ := Aside0.mk (Kd.F_below HZ.out hb)
            have n2_ := Aside0.mk (blk_below BX7.out hb)
            have n3_ := Aside0.mk (Kd.C_below HG.out hb)
            have n4_ := Aside0.mk (Kd.C_below HFt.out hb)
            have n5_ := Aside0.mk (blk_below BX12.out hb)
            have n6_ := Aside0.mk (Kd.C_below HTS.out hb)
            have n7_ := Aside0.mk (Kd.C_below HFx.out hb)
            clear HB HZ BX7 HG HFt BX12 HTS HFx hb
            have HB := n0_
            have HZ := n1_
            have BX7 := n2_
            have HG := n3_
            have HFt := n4_
            have BX12 := n5_
            have HTS := n6_
            have HFx := n7_
            clear n0_ n1_ n2_ n3_ n4_ n5_ n6_ n7_
            go_wp2_with (first | ((with_reducible refine gate_callee (f := 29) rfl ?_); refine goesL_ (some 90) rfl rfl Tryd.func29 (by kernel_rfl) rfl #[.slice A0 l0.length c0] rfl (by (try simp only [List.map_toArray, List.map_cons, List.map_nil]); first | done | rfl | (simp only [List.length_drop, List.length_take]; rfl)) ?_; (with_reducible refine (nego_TagsN.calls A0 c0 l0 tw _ (Kd.C_below HR0.out HB.out) hc0 HTF0.out (GW.below hG HB.out)).mono ?_); rintro e w83 ⟨vw2, rfl, hv, hb⟩; refine ⟨_, rfl, ?_⟩; obtain ⟨Aw2, cw2, rfl⟩ := Kd.N_slice hv; have HWS := Aside0.mk (Kd.N_reads' hv).2.2; clear hv; have n0_ := Aside0.mk (below_step HB.out hb); have n1_ := Aside0.mk (Kd.F_below HZ.out hb); have n2_ := Aside0.mk (blk_below BX7.out hb); have n3_ := Aside0.mk (Kd.C_below HG.out hb); have n4_ := Aside0.mk (Kd.C_below HFt.out hb); have n5_ := Aside0.mk (blk_below BX12.out hb); have n6_ := Aside0.mk (Kd.C_below HTS.out hb); have n7_ := Aside0.mk (Kd.C_below HFx.out hb); have n8_ := Aside0.mk (blk_below BX17.out hb); clear HB HZ BX7 HG HFt BX12 HTS HFx BX17 hb; have HB := n0_; have HZ := n1_; have BX7 := n2_; have HG := n3_; have HFt := n4_; have BX12 := n5_; have HTS := n6_; have HFx := n7_; have BX17 := n8_; clear n0_ n1_ n2_ n3_ n4_ n5_ n6_ n7_ n8_))
            go_loopg [15, 92] (tw.length + 1) (fun kq v15 v92 w' => ∃ (x92 : Int) (j : Nat) (b : Bool), v15 = .bool b ∧ v92 = .int .i64 x92 ∧ Aside0 (x92 = j ∧ j ≤ tw.length ∧ kq = tw.length - j + 1) ∧ Aside0 (((b || (tw.drop j).any (onesP t x)) || (tt.drop (jx + 1)).any (onesR tw t)) = true) ∧ Aside0 (Below w.heap.size w w') ∧ Aside0 (Kd.F Kd.string w' (fun _ => True) A3 z.f3.length z.f3) ∧ Aside0 (w'.heap[gb7]? = some (.cells #[.string z.f0, .string z.f1, .string z.f2, .slice A3 z.f3.length c3] 25 (0, 0))) ∧ Aside0 (Kd.C k25 w' (some adg) got.length got) ∧ Aside0 (Kd.C Kd.string w' A4 t.f3.length t.f3) ∧ Aside0 (w'.heap[gb12]? = some (.cells #[.string t.f0, .string t.f1, .string t.f2, .slice A4 t.f3.length c4] 25 (0, 0))) ∧ Aside0 (Kd.C k25 w' (some adt) tt.length tt) ∧ Aside0 (Kd.C Kd.string w' A5 x.f3.length x.f3) ∧ Aside0 (w'.heap[gb17]? = some (.cells #[.string x.f0, .string x.f1, .string x.f2, .slice A5 x.f3.length c5] 25 (0, 0))) ∧ Aside0 (Kd.C k25 w' Aw2 tw.length tw))
            case atStart => exact ⟨0, 0, b, rfl, rfl, ⟨rfl, Nat.zero_le _, rfl⟩, HD2, HB, HZ, BX7, HG, HFt, BX12, HTS, HFx, BX17, HWS⟩
            case round =>
              clear HD2 HB HZ BX7 HG HFt BX12 HTS HFx BX17 HWS
              obtain ⟨x92, ju, b, rfl, rfl, HJu, HH, HB, HZ, BX7, HG, HFt, BX12, HTS, HFx, BX17, HWS⟩ := hrel
              by_cases hi : x92 < (tw.length : Int)
              case neg =>
                have d4 : decide (x92 < (tw.length : Int)) = false := decide_eq_false hi
                have HE := Aside0.mk (show (b || (tt.drop (jx + 1)).any (onesR tw t)) = true by
                  have k := HH.out
                  rw [List.drop_of_length_le (by have := HJu.out; omega), List.any_nil, Bool.or_false] at k
                  exact k)
                go_wp2
                go_roundg (tt.length - jx)
                case measure => have := HJx.out; omega
                case rel => exact ⟨x85 + 1, jx + 1, b, rfl, by simp [hw3], ⟨by have := HJx.out; omega, by have := HJx.out; omega, by have := HJx.out; omega⟩, HE, HB, HZ, BX7, HG, HFt, BX12, HTS⟩
              have d4 : decide (x92 < (tw.length : Int)) = true := decide_eq_true hi
              have hjl : ju < tw.length := by have := HJu.out; omega
              have hx0 : 0 ≤ x92 := by have := HJu.out; omega
              obtain ⟨adw, A6, c6, e4, hx_0, hx_1, hx_2, hx_3, hlu, hi4⟩ := at_T25 HWS.out x92 hx0 hi
              cases e4
              obtain ⟨u, hx⟩ : ∃ u, rd_T25 tw x92 = u := ⟨_, rfl⟩
              have hxj : tw[ju]'(hjl) = u := by
                rw [← hx, HJu.out.1]
                unfold rd_T25
                simp [List.getD_eq_getElem?_getD, List.getElem?_eq_getElem hjl]
              rw [hx] at hx_0 hx_1 hx_2 hx_3 hlu hi4
              have HSu := Aside0.mk (HSW.out.1 u (by rw [← hxj]; exact List.getElem_mem hjl))
              have HFu := Aside0.mk hi4
              have HXu := Aside0.mk hxj
              obtain ⟨yu, hy⟩ : ∃ y, txt u = y := ⟨_, rfl⟩
              have HYyu := Aside0.mk (show tag_Str.f u.f0 u.f1 u.f2 u.f3 = some yu by rw [← hy]; exact str_t u HSu.out)
              have HTu := Aside0.mk hy
              clear hx hxj hi4 hy
              obtain ⟨bx, hbx⟩ : ∃ b, (yx.toList == yt.toList) = b := ⟨_, rfl⟩
              have HBX2 := Aside0.mk hbx
              clear hbx
              obtain ⟨b1, hb1⟩ : ∃ b, begB (partsT t) (partsT u) = b := ⟨_, rfl⟩
              have HB1 := Aside0.mk hb1
              clear hb1
              obtain ⟨b2, hb2⟩ : ∃ b, begB (partsT u) (partsT t) = b := ⟨_, rfl⟩
              have HB2 := Aside0.mk hb2
              clear hb2
              have HD3 := Aside0.mk (show (((b || (bx && (b1 || b2))) || (tw.drop (ju + 1)).any (onesP t x)) || (tt.drop (jx + 1)).any (onesR tw t)) = true by
                have k := HH.out
                rw [any_drop _ tw ju hjl u HXu.out, show onesP t x u = (bx && (b1 || b2)) by unfold onesP; rw [HTx.out, HTt.out, HBX2.out, HB1.out, HB2.out]] at k
                rw [Bool.or_assoc b]; exact k)
              clear HH
              have pi4 : (0 ≤ x92) = True := eq_true hx0
              have pl4 : (x92 < (tw.length : Int)) = True := eq_true hi
              have hw4 : wrap64 (x92 + 1) = x92 + 1 := wrap_id (by omega) (by have := HSW.out.2; omega)
              go_upto_region 27 with (first | ((with_reducible refine gate_dst (N := 19) rfl ?_); refine box_event ?hg (N := 19) ?hd (cs := #[.string (⟨#[]⟩ : ByteArray), .string (⟨#[]⟩ : ByteArray), .string (⟨#[]⟩ : ByteArray), .slice none 0 0]) (t := 25) ?hr ?_; (case hd => rfl); (case hg => rfl); (case hr => first | (go_simp; done) | (go_simp; rfl)); intro gb19 hg w84 hbox hb; have HBX := Aside0.mk hb; have HGX := Aside0.mk hg; have BK19 := Aside0.mk hbox; clear hb hg hbox; have hz0 : w84.cell? ⟨gb19, 0, none⟩ = some (.string (⟨#[]⟩ : ByteArray)) := (blk_cell BK19.out 0).trans rfl; have hzf0 := blk_frozen BK19.out 0; have hz1 : w84.cell? ⟨gb19, 1, none⟩ = some (.string (⟨#[]⟩ : ByteArray)) := (blk_cell BK19.out 1).trans rfl; have hzf1 := blk_frozen BK19.out 1; have hz2 : w84.cell? ⟨gb19, 2, none⟩ = some (.string (⟨#[]⟩ : ByteArray)) := (blk_cell BK19.out 2).trans rfl; have hzf2 := blk_frozen BK19.out 2; have hz3 : w84.cell? ⟨gb19, 3, none⟩ = some (.slice none 0 0) := (blk_cell BK19.out 3).trans rfl; have hzf3 := blk_frozen BK19.out 3))
              (try simp only [Act.put, List.setIfInBounds_toArray, List.set_cons_zero, List.set_cons_succ])
              obtain ⟨w85, hw⟩ : ∃ w85 : World, w85 = put4 w84 gb19 u A6 c6 := ⟨_, rfl⟩
              unfold put4 at hw
              rw [← hw]
              have hw' : w85 = put4 w84 gb19 u A6 c6 := hw
              have BX19 := Aside0.mk (show w85.heap[gb19]? = some (.cells #[.string u.f0, .string u.f1, .string u.f2, .slice A6 u.f3.length c6] 25 (0, 0)) by rw [hw']; exact put4_box u A6 c6 BK19.out)
              have hb : Below wr.heap.size wr w85 := by rw [hw']; exact made4 u A6 c6 HBX.out HGX.out
              clear hw hw' HBX HGX BK19 hz0 hz1 hz2 hz3 hzf0 hzf1 hzf2 hzf3 hx_0 hx_1 hx_2 hx_3
              have n0_ := Aside0.mk (below_step HB.out hb)
              have n1_ := Aside0.mk (Kd.F_below HZ.out hb)
              have n2_ := Aside0.mk (blk_below BX7.out hb)
              have n3_ := Aside0.mk (Kd.C_below HG.out hb)
              have n4_ := Aside0.mk (Kd.C_below HFt.out hb)
              have n5_ := Aside0.mk (blk_below BX12.out hb)
              have n6_ := Aside0.mk (Kd.C_below HTS.out hb)
              have n7_ := Aside0.mk (Kd.C_below HFx.out hb)
              have n8_ := Aside0.mk (blk_below BX17.out hb)
              have n9_ := Aside0.mk (Kd.C_below HWS.out hb)
              have n10_ := Aside0.mk (Kd.C_below HFu.out hb)
              clear HB HZ BX7 HG HFt BX12 HTS HFx BX17 HWS HFu hb
              have HB := n0_
              have HZ := n1_
              have BX7 := n2_
              have HG := n3_
              have HFt := n4_
              have BX12 := n5_
              have HTS := n6_
              have HFx := n7_
              have BX17 := n8_
              have HWS := n9_
              have HFu := n10_
              clear n0_ n1_ n2_ n3_ n4_ n5_ n6_ n7_ n8_ n9_ n10_
              cases b with
              | true =>
                refine start_ (n := 19) (S := fun w' => w'.cell? ⟨gb17, 0, none⟩ = some (.string x.f0) ∧ w'.cell? ⟨gb17, 1, none⟩ = some (.string x.f1) ∧ w'.cell? ⟨gb17, 2, none⟩ = some (.string x.f2) ∧ w'.cell? ⟨gb17, 3, none⟩ = some (.slice A5 x.f3.length c5) ∧ w'.cell? ⟨gb12, 0, none⟩ = some (.string t.f0) ∧ w'.cell? ⟨gb12, 1, none⟩ = some (.string t.f1) ∧ w'.cell? ⟨gb12, 2, none⟩ = some (.string t.f2) ∧ w'.cell? ⟨gb12, 3, none⟩ = some (.slice A4 t.f3.length c4) ∧ w'.cell? ⟨gb19, 0, none⟩ = some (.string u.f0) ∧ w'.cell? ⟨gb19, 1, none⟩ = some (.string u.f1) ∧ w'.cell? ⟨gb19, 2, none⟩ = some (.string u.f2) ∧ w'.cell? ⟨gb19, 3, none⟩ = some (.slice A6 u.f3.length c6)) (ds := []) #[false, false, false, false, false, false, false, false, false, false, false, false, false, false, false, false, false, false, false] (by kernel_rfl) rfl rfl ⟨(blk_cell BX17.out 0).trans rfl, (blk_cell BX17.out 1).trans rfl, (blk_cell BX17.out 2).trans rfl, (blk_cell BX17.out 3).trans rfl, (blk_cell BX12.out 0).trans rfl, (blk_cell BX12.out 1).trans rfl, (blk_cell BX12.out 2).trans rfl, (blk_cell BX12.out 3).trans rfl, (blk_cell BX19.out 0).trans rfl, (blk_cell BX19.out 1).trans rfl, (blk_cell BX19.out 2).trans rfl, (blk_cell BX19.out 3).trans rfl⟩ (fun hHeld => ?_)
                refine with_tabW negoOnes.tab27 negoOnes.bits27 (fun HT_ HW_ => ?_)
                have hb : Below w85.heap.size w85 w85.drew := ⟨rfl, rfl, rfl, Nat.le_refl _, fun _ _ => rfl⟩
                have n0_ := Aside0.mk (below_step HB.out hb)
                have n1_ := Aside0.mk (Kd.F_below HZ.out hb)
                have n2_ := Aside0.mk (blk_below BX7.out hb)
                have n3_ := Aside0.mk (Kd.C_below HG.out hb)
                have n4_ := Aside0.mk (Kd.C_below HFt.out hb)
                have n5_ := Aside0.mk (blk_below BX12.out hb)
                have n6_ := Aside0.mk (Kd.C_below HTS.out hb)
                have n7_ := Aside0.mk (Kd.C_below HFx.out hb)
                have n8_ := Aside0.mk (blk_below BX17.out hb)
                have n9_ := Aside0.mk (Kd.C_below HWS.out hb)
                have n10_ := Aside0.mk (Kd.C_below HFu.out hb)
                have n11_ := Aside0.mk (blk_below BX19.out hb)
                clear HB HZ BX7 HG HFt BX12 HTS HFx BX17 HWS HFu BX19 hb
                have HB := n0_
                have HZ := n1_
                have BX7 := n2_
                have HG := n3_
                have HFt := n4_
                have BX12 := n5_
                have HTS := n6_
                have HFx := n7_
                have BX17 := n8_
                have HWS := n9_
                have HFu := n10_
                have BX19 := n11_
                clear n0_ n1_ n2_ n3_ n4_ n5_ n6_ n7_ n8_ n9_ n10_ n11_
                generalize w85.drew = w86 at HB HZ BX7 HG HFt BX12 HTS HFx BX17 HWS HFu BX19 hHeld ⊢
                refine pure_ (i := 0) (N := some 96) (v := ?_) (a' := ?_) #[true, false, false, false, false, false, false, false, false, false, false, false, false, false, false, false, false, false, false] rfl rfl (any_of HT_.out (by kernel_rfl)) (fun _ _ _ h => h) (Or.inl ⟨by rfl, ?_⟩) ?_ ?_
                rotate_left
                · intro w'
                  go_simp
                  with_reducible rfl
                rotate_left
                · simp only [Act.put, List.setIfInBounds_toArray, List.set_cons_zero, List.set_cons_succ, i64_w, i32_w]
                  rfl
                refine pure_ (i := 1) (N := some 97) (v := ?_) (a' := ?_) #[true, true, false, false, false, false, false, false, false, false, false, false, false, false, false, false, false, false, false] rfl rfl (any_of HT_.out (by kernel_rfl)) (fun _ _ _ h => h) (Or.inl ⟨by rfl, ?_⟩) ?_ ?_
                rotate_left
                · intro w'
                  go_simp
                  with_reducible rfl
                rotate_left
                · simp only [Act.put, List.setIfInBounds_toArray, List.set_cons_zero, List.set_cons_succ, i64_w, i32_w]
                  rfl
                refine pure_ (i := 2) (N := some 98) (v := undef) (a' := ?_) #[true, true, true, false, false, false, false, false, false, false, false, false, false, false, false, false, false, false, false] rfl rfl (any_of HT_.out (by kernel_rfl)) (fun _ _ _ h => h) (Or.inr ⟨by rfl, rfl⟩) ?_ ?_
                rotate_left
                · simp only [Act.put, List.setIfInBounds_toArray, List.set_cons_zero, List.set_cons_succ, i64_w, i32_w]
                  rfl
                refine pure_ (i := 3) (N := some 99) (v := undef) (a' := ?_) #[true, true, true, true, false, false, false, false, false, false, false, false, false, false, false, false, false, false, false] rfl rfl (any_of HT_.out (by kernel_rfl)) (fun _ _ _ h => h) (Or.inr ⟨by rfl, rfl⟩) ?_ ?_
                rotate_left
                · simp only [Act.put, List.setIfInBounds_toArray, List.set_cons_zero, List.set_cons_succ, i64_w, i32_w]
                  rfl
                refine pure_ (i := 4) (N := some 100) (v := undef) (a' := ?_) #[true, true, true, true, true, false, false, false, false, false, false, false, false, false, false, false, false, false, false] rfl rfl (any_of HT_.out (by kernel_rfl)) (fun _ _ _ h => h) (Or.inr ⟨by rfl, rfl⟩) ?_ ?_
                rotate_left
                · simp only [Act.put, List.setIfInBounds_toArray, List.set_cons_zero, List.set_cons_succ, i64_w, i32_w]
                  rfl
                refine pure_ (i := 5) (N := some 101) (v := undef) (a' := ?_) #[true, true, true, true, true, true, false, false, false, false, false, false, false, false, false, false, false, false, false] rfl rfl (any_of HT_.out (by kernel_rfl)) (fun _ _ _ h => h) (Or.inr ⟨by rfl, rfl⟩) ?_ ?_
                rotate_left
                · simp only [Act.put, List.setIfInBounds_toArray, List.set_cons_zero, List.set_cons_succ, i64_w, i32_w]
                  rfl
                refine pure_ (i := 6) (N := some 102) (v := undef) (a' := ?_) #[true, true, true, true, true, true, true, false, false, false, false, false, false, false, false, false, false, false, false] rfl rfl (any_of HT_.out (by kernel_rfl)) (fun _ _ _ h => h) (Or.inr ⟨by rfl, rfl⟩) ?_ ?_
                rotate_left
                · simp only [Act.put, List.setIfInBounds_toArray, List.set_cons_zero, List.set_cons_succ, i64_w, i32_w]
                  rfl
                refine pure_ (i := 7) (N := some 103) (v := undef) (a' := ?_) #[true, true, true, true, true, true, true, true, false, false, false, false, false, false, false, false, false, false, false] rfl rfl (any_of HT_.out (by kernel_rfl)) (fun _ _ _ h => h) (Or.inr ⟨by rfl, rfl⟩) ?_ ?_
                rotate_left
                · simp only [Act.put, List.setIfInBounds_toArray, List.set_cons_zero, List.set_cons_succ, i64_w, i32_w]
                  rfl
                refine pure_ (i := 8) (N := some 104) (v := undef) (a' := ?_) #[true, true, true, true, true, true, true, true, true, false, false, false, false, false, false, false, false, false, false] rfl rfl (any_of HT_.out (by kernel_rfl)) (fun _ _ _ h => h) (Or.inr ⟨by rfl, rfl⟩) ?_ ?_
                rotate_left
                · simp only [Act.put, List.setIfInBounds_toArray, List.set_cons_zero, List.set_cons_succ, i64_w, i32_w]
                  rfl
                refine pure_ (i := 9) (N := some 105) (v := undef) (a' := ?_) #[true, true, true, true, true, true, true, true, true, true, false, false, false, false, false, false, false, false, false] rfl rfl (any_of HT_.out (by kernel_rfl)) (fun _ _ _ h => h) (Or.inr ⟨by rfl, rfl⟩) ?_ ?_
                rotate_left
                · simp only [Act.put, List.setIfInBounds_toArray, List.set_cons_zero, List.set_cons_succ, i64_w, i32_w]
                  rfl
                refine pure_ (i := 10) (N := some 106) (v := undef) (a' := ?_) #[true, true, true, true, true, true, true, true, true, true, true, false, false, false, false, false, false, false, false] rfl rfl (any_of HT_.out (by kernel_rfl)) (fun _ _ _ h => h) (Or.inr ⟨by rfl, rfl⟩) ?_ ?_
                rotate_left
                · simp only [Act.put, List.setIfInBounds_toArray, List.set_cons_zero, List.set_cons_succ, i64_w, i32_w]
                  rfl
                refine pure_ (i := 11) (N := some 107) (v := undef) (a' := ?_) #[true, true, true, true, true, true, true, true, true, true, true, true, false, false, false, false, false, false, false] rfl rfl (any_of HT_.out (by kernel_rfl)) (fun _ _ _ h => h) (Or.inr ⟨by rfl, rfl⟩) ?_ ?_
                rotate_left
                · simp only [Act.put, List.setIfInBounds_toArray, List.set_cons_zero, List.set_cons_succ, i64_w, i32_w]
                  rfl
                refine pure_ (i := 12) (N := some 108) (v := undef) (a' := ?_) #[true, true, true, true, true, true, true, true, true, true, true, true, true, false, false, false, false, false, false] rfl rfl (any_of HT_.out (by kernel_rfl)) (fun _ _ _ h => h) (Or.inr ⟨by rfl, rfl⟩) ?_ ?_
                rotate_left
                · simp only [Act.put, List.setIfInBounds_toArray, List.set_cons_zero, List.set_cons_succ, i64_w, i32_w]
                  rfl
                refine pure_ (i := 13) (N := some 109) (v := undef) (a' := ?_) #[true, true, true, true, true, true, true, true, true, true, true, true, true, true, false, false, false, false, false] rfl rfl (any_of HT_.out (by kernel_rfl)) (fun _ _ _ h => h) (Or.inr ⟨by rfl, rfl⟩) ?_ ?_
                rotate_left
                · simp only [Act.put, List.setIfInBounds_toArray, List.set_cons_zero, List.set_cons_succ, i64_w, i32_w]
                  rfl
                refine pure_ (i := 14) (N := some 110) (v := undef) (a' := ?_) #[true, true, true, true, true, true, true, true, true, true, true, true, true, true, true, false, false, false, false] rfl rfl (any_of HT_.out (by kernel_rfl)) (fun _ _ _ h => h) (Or.inr ⟨by rfl, rfl⟩) ?_ ?_
                rotate_left
                · simp only [Act.put, List.setIfInBounds_toArray, List.set_cons_zero, List.set_cons_succ, i64_w, i32_w]
                  rfl
                refine pure_ (i := 15) (N := some 111) (v := undef) (a' := ?_) #[true, true, true, true, true, true, true, true, true, true, true, true, true, true, true, true, false, false, false] rfl rfl (any_of HT_.out (by kernel_rfl)) (fun _ _ _ h => h) (Or.inr ⟨by rfl, rfl⟩) ?_ ?_
                rotate_left
                · simp only [Act.put, List.setIfInBounds_toArray, List.set_cons_zero, List.set_cons_succ, i64_w, i32_w]
                  rfl
                refine pure_ (i := 16) (N := some 112) (v := undef) (a' := ?_) #[true, true, true, true, true, true, true, true, true, true, true, true, true, true, true, true, true, false, false] rfl rfl (any_of HT_.out (by kernel_rfl)) (fun _ _ _ h => h) (Or.inr ⟨by rfl, rfl⟩) ?_ ?_
                rotate_left
                · simp only [Act.put, List.setIfInBounds_toArray, List.set_cons_zero, List.set_cons_succ, i64_w, i32_w]
                  rfl
                refine pure_ (i := 17) (N := some 113) (v := ?_) (a' := ?_) #[true, true, true, true, true, true, true, true, true, true, true, true, true, true, true, true, true, true, false] rfl rfl (any_of HT_.out (by kernel_rfl)) (fun _ _ _ h => h) (Or.inl ⟨by rfl, ?_⟩) ?_ ?_
                rotate_left
                · intro w'
                  go_simp
                  with_reducible rfl
                rotate_left
                · simp only [Act.put, List.setIfInBounds_toArray, List.set_cons_zero, List.set_cons_succ, i64_w, i32_w]
                  rfl
                refine pure_ (i := 18) (N := some 15) (v := ?_) (a' := ?_) #[true, true, true, true, true, true, true, true, true, true, true, true, true, true, true, true, true, true, true] rfl rfl (any_of HT_.out (by kernel_rfl)) (fun _ _ _ h => h) (Or.inl ⟨by rfl, ?_⟩) ?_ ?_
                rotate_left
                · intro w'
                  go_simp
                  with_reducible rfl
                rotate_left
                · simp only [Act.put, List.setIfInBounds_toArray, List.set_cons_zero, List.set_cons_succ, i64_w, i32_w]
                  rfl
                refine done_ (done_of HT_.out (by kernel_rfl)) ?_
                go_wp2
                go_roundg (tw.length - ju)
                case measure => have := HJu.out; omega
                case rel => exact ⟨x92 + 1, ju + 1, true, rfl, by simp [hw4], ⟨by have := HJu.out; omega, by have := HJu.out; omega, by have := HJu.out; omega⟩, HD3, HB, HZ, BX7, HG, HFt, BX12, HTS, HFx, BX17, HWS⟩
              | false =>
                refine start_ (n := 19) (S := fun w' => w'.cell? ⟨gb17, 0, none⟩ = some (.string x.f0) ∧ w'.cell? ⟨gb17, 1, none⟩ = some (.string x.f1) ∧ w'.cell? ⟨gb17, 2, none⟩ = some (.string x.f2) ∧ w'.cell? ⟨gb17, 3, none⟩ = some (.slice A5 x.f3.length c5) ∧ w'.cell? ⟨gb12, 0, none⟩ = some (.string t.f0) ∧ w'.cell? ⟨gb12, 1, none⟩ = some (.string t.f1) ∧ w'.cell? ⟨gb12, 2, none⟩ = some (.string t.f2) ∧ w'.cell? ⟨gb12, 3, none⟩ = some (.slice A4 t.f3.length c4) ∧ w'.cell? ⟨gb19, 0, none⟩ = some (.string u.f0) ∧ w'.cell? ⟨gb19, 1, none⟩ = some (.string u.f1) ∧ w'.cell? ⟨gb19, 2, none⟩ = some (.string u.f2) ∧ w'.cell? ⟨gb19, 3, none⟩ = some (.slice A6 u.f3.length c6)) (ds := []) #[false, false, false, false, false, false, false, false, false, false, false, false, false, false, false, false, false, false, false] (by kernel_rfl) rfl rfl ⟨(blk_cell BX17.out 0).trans rfl, (blk_cell BX17.out 1).trans rfl, (blk_cell BX17.out 2).trans rfl, (blk_cell BX17.out 3).trans rfl, (blk_cell BX12.out 0).trans rfl, (blk_cell BX12.out 1).trans rfl, (blk_cell BX12.out 2).trans rfl, (blk_cell BX12.out 3).trans rfl, (blk_cell BX19.out 0).trans rfl, (blk_cell BX19.out 1).trans rfl, (blk_cell BX19.out 2).trans rfl, (blk_cell BX19.out 3).trans rfl⟩ (fun hHeld => ?_)
                refine with_tabW negoOnes.tab27 negoOnes.bits27 (fun HT_ HW_ => ?_)
                have hb : Below w85.heap.size w85 w85.drew := ⟨rfl, rfl, rfl, Nat.le_refl _, fun _ _ => rfl⟩
                have n0_ := Aside0.mk (below_step HB.out hb)
                have n1_ := Aside0.mk (Kd.F_below HZ.out hb)
                have n2_ := Aside0.mk (blk_below BX7.out hb)
                have n3_ := Aside0.mk (Kd.C_below HG.out hb)
                have n4_ := Aside0.mk (Kd.C_below HFt.out hb)
                have n5_ := Aside0.mk (blk_below BX12.out hb)
                have n6_ := Aside0.mk (Kd.C_below HTS.out hb)
                have n7_ := Aside0.mk (Kd.C_below HFx.out hb)
                have n8_ := Aside0.mk (blk_below BX17.out hb)
                have n9_ := Aside0.mk (Kd.C_below HWS.out hb)
                have n10_ := Aside0.mk (Kd.C_below HFu.out hb)
                have n11_ := Aside0.mk (blk_below BX19.out hb)
                clear HB HZ BX7 HG HFt BX12 HTS HFx BX17 HWS HFu BX19 hb
                have HB := n0_
                have HZ := n1_
                have BX7 := n2_
                have HG := n3_
                have HFt := n4_
                have BX12 := n5_
                have HTS := n6_
                have HFx := n7_
                have BX17 := n8_
                have HWS := n9_
                have HFu := n10_
                have BX19 := n11_
                clear n0_ n1_ n2_ n3_ n4_ n5_ n6_ n7_ n8_ n9_ n10_ n11_
                generalize w85.drew = w86 at HB HZ BX7 HG HFt BX12 HTS HFx BX17 HWS HFu BX19 hHeld ⊢
                refine pure_ (i := 0) (N := some 96) (v := ?_) (a' := ?_) #[true, false, false, false, false, false, false, false, false, false, false, false, false, false, false, false, false, false, false] rfl rfl (any_of HT_.out (by kernel_rfl)) (fun _ _ _ h => h) (Or.inl ⟨by rfl, ?_⟩) ?_ ?_
                rotate_left
                · intro w'
                  go_simp
                  with_reducible rfl
                rotate_left
                · simp only [Act.put, List.setIfInBounds_toArray, List.set_cons_zero, List.set_cons_succ, i64_w, i32_w]
                  rfl
                refine pure_ (i := 1) (N := some 97) (v := ?_) (a' := ?_) #[true, true, false, false, false, false, false, false, false, false, false, false, false, false, false, false, false, false, false] rfl rfl (any_of HT_.out (by kernel_rfl)) (fun _ _ _ h => h) (Or.inl ⟨by rfl, ?_⟩) ?_ ?_
                rotate_left
                · intro w'
                  go_simp
                  with_reducible rfl
                rotate_left
                · simp only [Act.put, List.setIfInBounds_toArray, List.set_cons_zero, List.set_cons_succ, i64_w, i32_w]
                  rfl
                refine take_ (i := 2) (N := some 98) (v := ?_) (a' := ?_) #[true, true, true, false, false, false, false, false, false, false, false, false, false, false, false, false, false, false, false] rfl rfl (take_ofW HT_.out HW_.out (by kernel_rfl)) (fun _ _ _ h => h) (Or.inl ⟨by rfl, ?_⟩) hHeld ?_ ?_
                rotate_left
                · rintro w' ⟨s0_, s1_, s2_, s3_, s4_, s5_, s6_, s7_, s8_, s9_, s10_, s11_⟩
                  go_simp
                  with_reducible rfl
                rotate_left
                · simp only [Act.put, List.setIfInBounds_toArray, List.set_cons_zero, List.set_cons_succ, i64_w, i32_w]
                  rfl
                refine take_ (i := 4) (N := some 100) (v := ?_) (a' := ?_) #[true, true, true, false, true, false, false, false, false, false, false, false, false, false, false, false, false, false, false] rfl rfl (take_ofW HT_.out HW_.out (by kernel_rfl)) (fun _ _ _ h => h) (Or.inl ⟨by rfl, ?_⟩) hHeld ?_ ?_
                rotate_left
                · rintro w' ⟨s0_, s1_, s2_, s3_, s4_, s5_, s6_, s7_, s8_, s9_, s10_, s11_⟩
                  go_simp
                  with_reducible rfl
                rotate_left
                · simp only [Act.put, List.setIfInBounds_toArray, List.set_cons_zero, List.set_cons_succ, i64_w, i32_w]
                  rfl
                refine one_ (i := 3) (N := some 99) #[true, true, true, true, true, false, false, false, false, false, false, false, false, false, false, false, false, false, false] rfl rfl (one_of HT_.out (by kernel_rfl)) (by decide) (fun K hK => ?_)
                refine goes_ Tryd.func17 (by kernel_rfl) rfl #[.agg #[.string x.f0, .string x.f1, .string x.f2, .slice A5 x.f3.length c5]] (by rfl) rfl rfl (by (try simp only [List.map_toArray, List.map_cons, List.map_nil]); first | done | rfl | (simp only [List.length_drop, List.length_take]; rfl)) ?_
                with_reducible refine (tag_Str.calls x.f0 x.f1 x.f2 A5 c5 x.f3 yx _ (HFx.out) hlx HYyx.out).mono ?_
                rintro e w87 ⟨rfl, hb⟩
                refine ⟨_, rfl, ?_⟩
                have n0_ := Aside0.mk (below_step HB.out hb)
                have n1_ := Aside0.mk (Kd.F_below HZ.out hb)
                have n2_ := Aside0.mk (blk_below BX7.out hb)
                have n3_ := Aside0.mk (Kd.C_below HG.out hb)
                have n4_ := Aside0.mk (Kd.C_below HFt.out hb)
                have n5_ := Aside0.mk (blk_below BX12.out hb)
                have n6_ := Aside0.mk (Kd.C_below HTS.out hb)
                have n7_ := Aside0.mk (Kd.C_below HFx.out hb)
                have n8_ := Aside0.mk (blk_below BX17.out hb)
                have n9_ := Aside0.mk (Kd.C_below HWS.out hb)
                have n10_ := Aside0.mk (Kd.C_below HFu.out hb)
                have n11_ := Aside0.mk (blk_below BX19.out hb)
                clear HB HZ BX7 HG HFt BX12 HTS HFx BX17 HWS HFu BX19 hb
                have HB := n0_
                have HZ := n1_
                have BX7 := n2_
                have HG := n3_
                have HFt := n4_
                have BX12 := n5_
                have HTS := n6_
                have HFx := n7_
                have BX17 := n8_
                have HWS := n9_
                have HFu := n10_
                have BX19 := n11_
                clear n0_ n1_ n2_ n3_ n4_ n5_ n6_ n7_ n8_ n9_ n10_ n11_

                refine hK.out _ _ ⟨(blk_cell BX17.out 0).trans rfl, (blk_cell BX17.out 1).trans rfl, (blk_cell BX17.out 2).trans rfl, (blk_cell BX17.out 3).trans rfl, (blk_cell BX12.out 0).trans rfl, (blk_cell BX12.out 1).trans rfl, (blk_cell BX12.out 2).trans rfl, (blk_cell BX12.out 3).trans rfl, (blk_cell BX19.out 0).trans rfl, (blk_cell BX19.out 1).trans rfl, (blk_cell BX19.out 2).trans rfl, (blk_cell BX19.out 3).trans rfl⟩ (fun hHeld => ?_)
                refine norm_ (a' := ?_) ?_ ?_
                rotate_left
                · show Act.put _ (some 99) _ = _
                  simp only [Act.put, List.setIfInBounds_toArray, List.set_cons_zero, List.set_cons_succ, i64_w, i32_w]
                  rfl
                refine one_ (i := 5) (N := some 101) #[true, true, true, true, true, true, false, false, false, false, false, false, false, false, false, false, false, false, false] rfl rfl (one_of HT_.out (by kernel_rfl)) (by decide) (fun K hK => ?_)
                refine goes_ Tryd.func17 (by kernel_rfl) rfl #[.agg #[.string t.f0, .string t.f1, .string t.f2, .slice A4 t.f3.length c4]] (by rfl) rfl rfl (by (try simp only [List.map_toArray, List.map_cons, List.map_nil]); first | done | rfl | (simp only [List.length_drop, List.length_take]; rfl)) ?_
                with_reducible refine (tag_Str.calls t.f0 t.f1 t.f2 A4 c4 t.f3 yt _ (HFt.out) hlt HYyt.out).mono ?_
                rintro e w88 ⟨rfl, hb⟩
                refine ⟨_, rfl, ?_⟩
                have n0_ := Aside0.mk (below_step HB.out hb)
                have n1_ := Aside0.mk (Kd.F_below HZ.out hb)
                have n2_ := Aside0.mk (blk_below BX7.out hb)
                have n3_ := Aside0.mk (Kd.C_below HG.out hb)
                have n4_ := Aside0.mk (Kd.C_below HFt.out hb)
                have n5_ := Aside0.mk (blk_below BX12.out hb)
                have n6_ := Aside0.mk (Kd.C_below HTS.out hb)
                have n7_ := Aside0.mk (Kd.C_below HFx.out hb)
                have n8_ := Aside0.mk (blk_below BX17.out hb)
                have n9_ := Aside0.mk (Kd.C_below HWS.out hb)
                have n10_ := Aside0.mk (Kd.C_below HFu.out hb)
                have n11_ := Aside0.mk (blk_below BX19.out hb)
                clear HB HZ BX7 HG HFt BX12 HTS HFx BX17 HWS HFu BX19 hb
                have HB := n0_
                have HZ := n1_
                have BX7 := n2_
                have HG := n3_
                have HFt := n4_
                have BX12 := n5_
                have HTS := n6_
                have HFx := n7_
                have BX17 := n8_
                have HWS := n9_
                have HFu := n10_
                have BX19 := n11_
                clear n0_ n1_ n2_ n3_ n4_ n5_ n6_ n7_ n8_ n9_ n10_ n11_

                refine hK.out _ _ ⟨(blk_cell BX17.out 0).trans rfl, (blk_cell BX17.out 1).trans rfl, (blk_cell BX17.out 2).trans rfl, (blk_cell BX17.out 3).trans rfl, (blk_cell BX12.out 0).trans rfl, (blk_cell BX12.out 1).trans rfl, (blk_cell BX12.out 2).trans rfl, (blk_cell BX12.out 3).trans rfl, (blk_cell BX19.out 0).trans rfl, (blk_cell BX19.out 1).trans rfl, (blk_cell BX19.out 2).trans rfl, (blk_cell BX19.out 3).trans rfl⟩ (fun hHeld => ?_)
                refine norm_ (a' := ?_) ?_ ?_
                rotate_left
                · show Act.put _ (some 101) _ = _
                  simp only [Act.put, List.setIfInBounds_toArray, List.set_cons_zero, List.set_cons_succ, i64_w, i32_w]
                  rfl
                refine pure_ (i := 6) (N := some 102) (v := ?_) (a' := ?_) #[true, true, true, true, true, true, true, false, false, false, false, false, false, false, false, false, false, false, false] rfl rfl (any_of HT_.out (by kernel_rfl)) (fun _ _ _ h => h) (Or.inl ⟨by rfl, ?_⟩) ?_ ?_
                rotate_left
                · intro w'
                  go_simp
                  with_reducible rfl
                rotate_left
                · simp only [Act.put, List.setIfInBounds_toArray, List.set_cons_zero, List.set_cons_succ, i64_w, i32_w]
                  rfl
                rw [HBX2.out]
                cases bx with
                | false =>
                  refine pure_ (i := 7) (N := some 103) (v := ?_) (a' := ?_) #[true, true, true, true, true, true, true, true, false, false, false, false, false, false, false, false, false, false, false] rfl rfl (any_of HT_.out (by kernel_rfl)) (fun _ _ _ h => h) (Or.inl ⟨by rfl, ?_⟩) ?_ ?_
                  rotate_left
                  · intro w'
                    go_simp
                    with_reducible rfl
                  rotate_left
                  · simp only [Act.put, List.setIfInBounds_toArray, List.set_cons_zero, List.set_cons_succ, i64_w, i32_w]
                    rfl
                  refine pure_ (i := 8) (N := some 104) (v := undef) (a' := ?_) #[true, true, true, true, true, true, true, true, true, false, false, false, false, false, false, false, false, false, false] rfl rfl (any_of HT_.out (by kernel_rfl)) (fun _ _ _ h => h) (Or.inr ⟨by rfl, rfl⟩) ?_ ?_
                  rotate_left
                  · simp only [Act.put, List.setIfInBounds_toArray, List.set_cons_zero, List.set_cons_succ, i64_w, i32_w]
                    rfl
                  refine pure_ (i := 9) (N := some 105) (v := undef) (a' := ?_) #[true, true, true, true, true, true, true, true, true, true, false, false, false, false, false, false, false, false, false] rfl rfl (any_of HT_.out (by kernel_rfl)) (fun _ _ _ h => h) (Or.inr ⟨by rfl, rfl⟩) ?_ ?_
                  rotate_left
                  · simp only [Act.put, List.setIfInBounds_toArray, List.set_cons_zero, List.set_cons_succ, i64_w, i32_w]
                    rfl
                  refine pure_ (i := 10) (N := some 106) (v := undef) (a' := ?_) #[true, true, true, true, true, true, true, true, true, true, true, false, false, false, false, false, false, false, false] rfl rfl (any_of HT_.out (by kernel_rfl)) (fun _ _ _ h => h) (Or.inr ⟨by rfl, rfl⟩) ?_ ?_
                  rotate_left
                  · simp only [Act.put, List.setIfInBounds_toArray, List.set_cons_zero, List.set_cons_succ, i64_w, i32_w]
                    rfl
                  refine pure_ (i := 11) (N := some 107) (v := undef) (a' := ?_) #[true, true, true, true, true, true, true, true, true, true, true, true, false, false, false, false, false, false, false] rfl rfl (any_of HT_.out (by kernel_rfl)) (fun _ _ _ h => h) (Or.inr ⟨by rfl, rfl⟩) ?_ ?_
                  rotate_left
                  · simp only [Act.put, List.setIfInBounds_toArray, List.set_cons_zero, List.set_cons_succ, i64_w, i32_w]
                    rfl
                  refine pure_ (i := 12) (N := some 108) (v := undef) (a' := ?_) #[true, true, true, true, true, true, true, true, true, true, true, true, true, false, false, false, false, false, false] rfl rfl (any_of HT_.out (by kernel_rfl)) (fun _ _ _ h => h) (Or.inr ⟨by rfl, rfl⟩) ?_ ?_
                  rotate_left
                  · simp only [Act.put, List.setIfInBounds_toArray, List.set_cons_zero, List.set_cons_succ, i64_w, i32_w]
                    rfl
                  refine pure_ (i := 13) (N := some 109) (v := undef) (a' := ?_) #[true, true, true, true, true, true, true, true, true, true, true, true, true, true, false, false, false, false, false] rfl rfl (any_of HT_.out (by kernel_rfl)) (fun _ _ _ h => h) (Or.inr ⟨by rfl, rfl⟩) ?_ ?_
                  rotate_left
                  · simp only [Act.put, List.setIfInBounds_toArray, List.set_cons_zero, List.set_cons_succ, i64_w, i32_w]
                    rfl
                  refine pure_ (i := 14) (N := some 110) (v := undef) (a' := ?_) #[true, true, true, true, true, true, true, true, true, true, true, true, true, true, true, false, false, false, false] rfl rfl (any_of HT_.out (by kernel_rfl)) (fun _ _ _ h => h) (Or.inr ⟨by rfl, rfl⟩) ?_ ?_
                  rotate_left
                  · simp only [Act.put, List.setIfInBounds_toArray, List.set_cons_zero, List.set_cons_succ, i64_w, i32_w]
                    rfl
                  refine pure_ (i := 15) (N := some 111) (v := undef) (a' := ?_) #[true, true, true, true, true, true, true, true, true, true, true, true, true, true, true, true, false, false, false] rfl rfl (any_of HT_.out (by kernel_rfl)) (fun _ _ _ h => h) (Or.inr ⟨by rfl, rfl⟩) ?_ ?_
                  rotate_left
                  · simp only [Act.put, List.setIfInBounds_toArray, List.set_cons_zero, List.set_cons_succ, i64_w, i32_w]
                    rfl
                  refine pure_ (i := 16) (N := some 112) (v := ?_) (a' := ?_) #[true, true, true, true, true, true, true, true, true, true, true, true, true, true, true, true, true, false, false] rfl rfl (any_of HT_.out (by kernel_rfl)) (fun _ _ _ h => h) (Or.inl ⟨by rfl, ?_⟩) ?_ ?_
                  rotate_left
                  · intro w'
                    go_simp
                    with_reducible rfl
                  rotate_left
                  · simp only [Act.put, List.setIfInBounds_toArray, List.set_cons_zero, List.set_cons_succ, i64_w, i32_w]
                    rfl
                  refine pure_ (i := 17) (N := some 113) (v := ?_) (a' := ?_) #[true, true, true, true, true, true, true, true, true, true, true, true, true, true, true, true, true, true, false] rfl rfl (any_of HT_.out (by kernel_rfl)) (fun _ _ _ h => h) (Or.inl ⟨by rfl, ?_⟩) ?_ ?_
                  rotate_left
                  · intro w'
                    go_simp
                    with_reducible rfl
                  rotate_left
                  · simp only [Act.put, List.setIfInBounds_toArray, List.set_cons_zero, List.set_cons_succ, i64_w, i32_w]
                    rfl
                  refine pure_ (i := 18) (N := some 15) (v := ?_) (a' := ?_) #[true, true, true, true, true, true, true, true, true, true, true, true, true, true, true, true, true, true, true] rfl rfl (any_of HT_.out (by kernel_rfl)) (fun _ _ _ h => h) (Or.inl ⟨by rfl, ?_⟩) ?_ ?_
                  rotate_left
                  · intro w'
                    go_simp
                    with_reducible rfl
                  rotate_left
                  · simp only [Act.put, List.setIfInBounds_toArray, List.set_cons_zero, List.set_cons_succ, i64_w, i32_w]
                    rfl
                  refine done_ (done_of HT_.out (by kernel_rfl)) ?_
                  go_wp2
                  go_roundg (tw.length - ju)
                  case measure => have := HJu.out; omega
                  case rel => exact ⟨x92 + 1, ju + 1, false, rfl, by simp [hw4], ⟨by have := HJu.out; omega, by have := HJu.out; omega, by have := HJu.out; omega⟩, HD3, HB, HZ, BX7, HG, HFt, BX12, HTS, HFx, BX17, HWS⟩
                | true =>
                  refine pure_ (i := 7) (N := some 103) (v := ?_) (a' := ?_) #[true, true, true, true, true, true, true, true, false, false, false, false, false, false, false, false, false, false, false] rfl rfl (any_of HT_.out (by kernel_rfl)) (fun _ _ _ h => h) (Or.inl ⟨by rfl, ?_⟩) ?_ ?_
                  rotate_left
                  · intro w'
                    go_simp
                    with_reducible rfl
                  rotate_left
                  · simp only [Act.put, List.setIfInBounds_toArray, List.set_cons_zero, List.set_cons_succ, i64_w, i32_w]
                    rfl
                  refine take_ (i := 8) (N := some 104) (v := ?_) (a' := ?_) #[true, true, true, true, true, true, true, true, true, false, false, false, false, false, false, false, false, false, false] rfl rfl (take_ofW HT_.out HW_.out (by kernel_rfl)) (fun _ _ _ h => h) (Or.inl ⟨by rfl, ?_⟩) hHeld ?_ ?_
                  rotate_left
                  · rintro w' ⟨s0_, s1_, s2_, s3_, s4_, s5_, s6_, s7_, s8_, s9_, s10_, s11_⟩
                    go_simp
                    with_reducible rfl
                  rotate_left
                  · simp only [Act.put, List.setIfInBounds_toArray, List.set_cons_zero, List.set_cons_succ, i64_w, i32_w]
                    rfl
                  refine take_ (i := 9) (N := some 105) (v := ?_) (a' := ?_) #[true, true, true, true, true, true, true, true, true, true, false, false, false, false, false, false, false, false, false] rfl rfl (take_ofW HT_.out HW_.out (by kernel_rfl)) (fun _ _ _ h => h) (Or.inl ⟨by rfl, ?_⟩) hHeld ?_ ?_
                  rotate_left
                  · rintro w' ⟨s0_, s1_, s2_, s3_, s4_, s5_, s6_, s7_, s8_, s9_, s10_, s11_⟩
                    go_simp
                    with_reducible rfl
                  rotate_left
                  · simp only [Act.put, List.setIfInBounds_toArray, List.set_cons_zero, List.set_cons_succ, i64_w, i32_w]
                    rfl
                  refine one_ (i := 10) (N := some 106) #[true, true, true, true, true, true, true, true, true, true, true, false, false, false, false, false, false, false, false] rfl rfl (one_of HT_.out (by kernel_rfl)) (by decide) (fun K hK => ?_)
                  refine goes_ Tryd.func19 (by kernel_rfl) rfl #[.agg #[.string t.f0, .string t.f1, .string t.f2, .slice A4 t.f3.length c4], .agg #[.string u.f0, .string u.f1, .string u.f2, .slice A6 u.f3.length c6]] (by rfl) rfl rfl (by (try simp only [List.map_toArray, List.map_cons, List.map_nil]); first | done | rfl | (simp only [List.length_drop, List.length_take]; rfl)) ?_
                  with_reducible refine (tag_Fit.calls t.f0 t.f1 t.f2 A4 c4 t.f3 u.f0 u.f1 u.f2 A6 c6 u.f3 b1 _ (HFt.out) hlt (HFu.out) hlu (fit_t t u HSt.out HSu.out _ HB1.out)).mono ?_
                  rintro e w89 ⟨rfl, hb⟩
                  refine ⟨_, rfl, ?_⟩
                  have n0_ := Aside0.mk (below_step HB.out hb)
                  have n1_ := Aside0.mk (Kd.F_below HZ.out hb)
                  have n2_ := Aside0.mk (blk_below BX7.out hb)
                  have n3_ := Aside0.mk (Kd.C_below HG.out hb)
                  have n4_ := Aside0.mk (Kd.C_below HFt.out hb)
                  have n5_ := Aside0.mk (blk_below BX12.out hb)
                  have n6_ := Aside0.mk (Kd.C_below HTS.out hb)
                  have n7_ := Aside0.mk (Kd.C_below HFx.out hb)
                  have n8_ := Aside0.mk (blk_below BX17.out hb)
                  have n9_ := Aside0.mk (Kd.C_below HWS.out hb)
                  have n10_ := Aside0.mk (Kd.C_below HFu.out hb)
                  have n11_ := Aside0.mk (blk_below BX19.out hb)
                  clear HB HZ BX7 HG HFt BX12 HTS HFx BX17 HWS HFu BX19 hb
                  have HB := n0_
                  have HZ := n1_
                  have BX7 := n2_
                  have HG := n3_
                  have HFt := n4_
                  have BX12 := n5_
                  have HTS := n6_
                  have HFx := n7_
                  have BX17 := n8_
                  have HWS := n9_
                  have HFu := n10_
                  have BX19 := n11_
                  clear n0_ n1_ n2_ n3_ n4_ n5_ n6_ n7_ n8_ n9_ n10_ n11_

                  refine hK.out _ _ ⟨(blk_cell BX17.out 0).trans rfl, (blk_cell BX17.out 1).trans rfl, (blk_cell BX17.out 2).trans rfl, (blk_cell BX17.out 3).trans rfl, (blk_cell BX12.out 0).trans rfl, (blk_cell BX12.out 1).trans rfl, (blk_cell BX12.out 2).trans rfl, (blk_cell BX12.out 3).trans rfl, (blk_cell BX19.out 0).trans rfl, (blk_cell BX19.out 1).trans rfl, (blk_cell BX19.out 2).trans rfl, (blk_cell BX19.out 3).trans rfl⟩ (fun hHeld => ?_)
                  refine norm_ (a' := ?_) ?_ ?_
                  rotate_left
                  · show Act.put _ (some 106) _ = _
                    simp only [Act.put, List.setIfInBounds_toArray, List.set_cons_zero, List.set_cons_succ, i64_w, i32_w]
                    rfl
                  cases b1 with
                  | true =>
                    refine pure_ (i := 11) (N := some 107) (v := ?_) (a' := ?_) #[true, true, true, true, true, true, true, true, true, true, true, true, false, false, false, false, false, false, false] rfl rfl (any_of HT_.out (by kernel_rfl)) (fun _ _ _ h => h) (Or.inl ⟨by rfl, ?_⟩) ?_ ?_
                    rotate_left
                    · intro w'
                      go_simp
                      with_reducible rfl
                    rotate_left
                    · simp only [Act.put, List.setIfInBounds_toArray, List.set_cons_zero, List.set_cons_succ, i64_w, i32_w]
                      rfl
                    refine pure_ (i := 12) (N := some 108) (v := undef) (a' := ?_) #[true, true, true, true, true, true, true, true, true, true, true, true, true, false, false, false, false, false, false] rfl rfl (any_of HT_.out (by kernel_rfl)) (fun _ _ _ h => h) (Or.inr ⟨by rfl, rfl⟩) ?_ ?_
                    rotate_left
                    · simp only [Act.put, List.setIfInBounds_toArray, List.set_cons_zero, List.set_cons_succ, i64_w, i32_w]
                      rfl
                    refine pure_ (i := 13) (N := some 109) (v := undef) (a' := ?_) #[true, true, true, true, true, true, true, true, true, true, true, true, true, true, false, false, false, false, false] rfl rfl (any_of HT_.out (by kernel_rfl)) (fun _ _ _ h => h) (Or.inr ⟨by rfl, rfl⟩) ?_ ?_
                    rotate_left
                    · simp only [Act.put, List.setIfInBounds_toArray, List.set_cons_zero, List.set_cons_succ, i64_w, i32_w]
                      rfl
                    refine pure_ (i := 14) (N := some 110) (v := undef) (a' := ?_) #[true, true, true, true, true, true, true, true, true, true, true, true, true, true, true, false, false, false, false] rfl rfl (any_of HT_.out (by kernel_rfl)) (fun _ _ _ h => h) (Or.inr ⟨by rfl, rfl⟩) ?_ ?_
                    rotate_left
                    · simp only [Act.put, List.setIfInBounds_toArray, List.set_cons_zero, List.set_cons_succ, i64_w, i32_w]
                      rfl
                    refine pure_ (i := 15) (N := some 111) (v := ?_) (a' := ?_) #[true, true, true, true, true, true, true, true, true, true, true, true, true, true, true, true, false, false, false] rfl rfl (any_of HT_.out (by kernel_rfl)) (fun _ _ _ h => h) (Or.inl ⟨by rfl, ?_⟩) ?_ ?_
                    rotate_left
                    · intro w'
                      go_simp
                      with_reducible rfl
                    rotate_left
                    · simp only [Act.put, List.setIfInBounds_toArray, List.set_cons_zero, List.set_cons_succ, i64_w, i32_w]
                      rfl
                    refine pure_ (i := 16) (N := some 112) (v := ?_) (a' := ?_) #[true, true, true, true, true, true, true, true, true, true, true, true, true, true, true, true, true, false, false] rfl rfl (any_of HT_.out (by kernel_rfl)) (fun _ _ _ h => h) (Or.inl ⟨by rfl, ?_⟩) ?_ ?_
                    rotate_left
                    · intro w'
                      go_simp
                      with_reducible rfl
                    rotate_left
                    · simp only [Act.put, List.setIfInBounds_toArray, List.set_cons_zero, List.set_cons_succ, i64_w, i32_w]
                      rfl
                    refine pure_ (i := 17) (N := some 113) (v := ?_) (a' := ?_) #[true, true, true, true, true, true, true, true, true, true, true, true, true, true, true, true, true, true, false] rfl rfl (any_of HT_.out (by kernel_rfl)) (fun _ _ _ h => h) (Or.inl ⟨by rfl, ?_⟩) ?_ ?_
                    rotate_left
                    · intro w'
                      go_simp
                      with_reducible rfl
                    rotate_left
                    · simp only [Act.put, List.setIfInBounds_toArray, List.set_cons_zero, List.set_cons_succ, i64_w, i32_w]
                      rfl
                    refine pure_ (i := 18) (N := some 15) (v := ?_) (a' := ?_) #[true, true, true, true, true, true, true, true, true, true, true, true, true, true, true, true, true, true, true] rfl rfl (any_of HT_.out (by kernel_rfl)) (fun _ _ _ h => h) (Or.inl ⟨by rfl, ?_⟩) ?_ ?_
                    rotate_left
                    · intro w'
                      go_simp
                      with_reducible rfl
                    rotate_left
                    · simp only [Act.put, List.setIfInBounds_toArray, List.set_cons_zero, List.set_cons_succ, i64_w, i32_w]
                      rfl
                    refine done_ (done_of HT_.out (by kernel_rfl)) ?_
                    go_wp2
                    go_roundg (tw.length - ju)
                    case measure => have := HJu.out; omega
                    case rel => exact ⟨x92 + 1, ju + 1, true, rfl, by simp [hw4], ⟨by have := HJu.out; omega, by have := HJu.out; omega, by have := HJu.out; omega⟩, HD3, HB, HZ, BX7, HG, HFt, BX12, HTS, HFx, BX17, HWS⟩
                  | false =>
                    refine pure_ (i := 11) (N := some 107) (v := ?_) (a' := ?_) #[true, true, true, true, true, true, true, true, true, true, true, true, false, false, false, false, false, false, false] rfl rfl (any_of HT_.out (by kernel_rfl)) (fun _ _ _ h => h) (Or.inl ⟨by rfl, ?_⟩) ?_ ?_
                    rotate_left
                    · intro w'
                      go_simp
                      with_reducible rfl
                    rotate_left
                    · simp only [Act.put, List.setIfInBounds_toArray, List.set_cons_zero, List.set_cons_succ, i64_w, i32_w]
                      rfl
                    refine take_ (i := 12) (N := some 108) (v := ?_) (a' := ?_) #[true, true, true, true, true, true, true, true, true, true, true, true, true, false, false, false, false, false, false] rfl rfl (take_ofW HT_.out HW_.out (by kernel_rfl)) (fun _ _ _ h => h) (Or.inl ⟨by rfl, ?_⟩) hHeld ?_ ?_
                    rotate_left
                    · rintro w' ⟨s0_, s1_, s2_, s3_, s4_, s5_, s6_, s7_, s8_, s9_, s10_, s11_⟩
                      go_simp
                      with_reducible rfl
                    rotate_left
                    · simp only [Act.put, List.setIfInBounds_toArray, List.set_cons_zero, List.set_cons_succ, i64_w, i32_w]
                      rfl
                    refine take_ (i := 13) (N := some 109) (v := ?_) (a' := ?_) #[true, true, true, true, true, true, true, true, true, true, true, true, true, true, false, false, false, false, false] rfl rfl (take_ofW HT_.out HW_.out (by kernel_rfl)) (fun _ _ _ h => h) (Or.inl ⟨by rfl, ?_⟩) hHeld ?_ ?_
                    rotate_left
                    · rintro w' ⟨s0_, s1_, s2_, s3_, s4_, s5_, s6_, s7_, s8_, s9_, s10_, s11_⟩
                      go_simp
                      with_reducible rfl
                    rotate_left
                    · simp only [Act.put, List.setIfInBounds_toArray, List.set_cons_zero, List.set_cons_succ, i64_w, i32_w]
                      rfl
                    refine one_ (i := 14) (N := some 110) #[true, true, true, true, true, true, true, true, true, true, true, true, true, true, true, false, false, false, false] rfl rfl (one_of HT_.out (by kernel_rfl)) (by decide) (fun K hK => ?_)
                    refine goes_ Tryd.func19 (by kernel_rfl) rfl #[.agg #[.string u.f0, .string u.f1, .string u.f2, .slice A6 u.f3.length c6], .agg #[.string t.f0, .string t.f1, .string t.f2, .slice A4 t.f3.length c4]] (by rfl) rfl rfl (by (try simp only [List.map_toArray, List.map_cons, List.map_nil]); first | done | rfl | (simp only [List.length_drop, List.length_take]; rfl)) ?_
                    with_reducible refine (tag_Fit.calls u.f0 u.f1 u.f2 A6 c6 u.f3 t.f0 t.f1 t.f2 A4 c4 t.f3 b2 _ (HFu.out) hlu (HFt.out) hlt (fit_t u t HSu.out HSt.out _ HB2.out)).mono ?_
                    rintro e w90 ⟨rfl, hb⟩
                    refine ⟨_, rfl, ?_⟩
                    have n0_ := Aside0.mk (below_step HB.out hb)
                    have n1_ := Aside0.mk (Kd.F_below HZ.out hb)
                    have n2_ := Aside0.mk (blk_below BX7.out hb)
                    have n3_ := Aside0.mk (Kd.C_below HG.out hb)
                    have n4_ := Aside0.mk (Kd.C_below HFt.out hb)
                    have n5_ := Aside0.mk (blk_below BX12.out hb)
                    have n6_ := Aside0.mk (Kd.C_below HTS.out hb)
                    have n7_ := Aside0.mk (Kd.C_below HFx.out hb)
                    have n8_ := Aside0.mk (blk_below BX17.out hb)
                    have n9_ := Aside0.mk (Kd.C_below HWS.out hb)
                    have n10_ := Aside0.mk (Kd.C_below HFu.out hb)
                    have n11_ := Aside0.mk (blk_below BX19.out hb)
                    clear HB HZ BX7 HG HFt BX12 HTS HFx BX17 HWS HFu BX19 hb
                    have HB := n0_
                    have HZ := n1_
                    have BX7 := n2_
                    have HG := n3_
                    have HFt := n4_
                    have BX12 := n5_
                    have HTS := n6_
                    have HFx := n7_
                    have BX17 := n8_
                    have HWS := n9_
                    have HFu := n10_
                    have BX19 := n11_
                    clear n0_ n1_ n2_ n3_ n4_ n5_ n6_ n7_ n8_ n9_ n10_ n11_

                    refine hK.out _ _ ⟨(blk_cell BX17.out 0).trans rfl, (blk_cell BX17.out 1).trans rfl, (blk_cell BX17.out 2).trans rfl, (blk_cell BX17.out 3).trans rfl, (blk_cell BX12.out 0).trans rfl, (blk_cell BX12.out 1).trans rfl, (blk_cell BX12.out 2).trans rfl, (blk_cell BX12.out 3).trans rfl, (blk_cell BX19.out 0).trans rfl, (blk_cell BX19.out 1).trans rfl, (blk_cell BX19.out 2).trans rfl, (blk_cell BX19.out 3).trans rfl⟩ (fun hHeld => ?_)
                    refine norm_ (a' := ?_) ?_ ?_
                    rotate_left
                    · show Act.put _ (some 110) _ = _
                      simp only [Act.put, List.setIfInBounds_toArray, List.set_cons_zero, List.set_cons_succ, i64_w, i32_w]
                      rfl
                    refine pure_ (i := 15) (N := some 111) (v := ?_) (a' := ?_) #[true, true, true, true, true, true, true, true, true, true, true, true, true, true, true, true, false, false, false] rfl rfl (any_of HT_.out (by kernel_rfl)) (fun _ _ _ h => h) (Or.inl ⟨by rfl, ?_⟩) ?_ ?_
                    rotate_left
                    · intro w'
                      go_simp
                      with_reducible rfl
                    rotate_left
                    · simp only [Act.put, List.setIfInBounds_toArray, List.set_cons_zero, List.set_cons_succ, i64_w, i32_w]
                      rfl
                    refine pure_ (i := 16) (N := some 112) (v := ?_) (a' := ?_) #[true, true, true, true, true, true, true, true, true, true, true, true, true, true, true, true, true, false, false] rfl rfl (any_of HT_.out (by kernel_rfl)) (fun _ _ _ h => h) (Or.inl ⟨by rfl, ?_⟩) ?_ ?_
                    rotate_left
                    · intro w'
                      go_simp
                      with_reducible rfl
                    rotate_left
                    · simp only [Act.put, List.setIfInBounds_toArray, List.set_cons_zero, List.set_cons_succ, i64_w, i32_w]
                      rfl
                    refine pure_ (i := 17) (N := some 113) (v := ?_) (a' := ?_) #[true, true, true, true, true, true, true, true, true, true, true, true, true, true, true, true, true, true, false] rfl rfl (any_of HT_.out (by kernel_rfl)) (fun _ _ _ h => h) (Or.inl ⟨by rfl, ?_⟩) ?_ ?_
                    rotate_left
                    · intro w'
                      go_simp
                      with_reducible rfl
                    rotate_left
                    · simp only [Act.put, List.setIfInBounds_toArray, List.set_cons_zero, List.set_cons_succ, i64_w, i32_w]
                      rfl
                    refine pure_ (i := 18) (N := some 15) (v := ?_) (a' := ?_) #[true, true, true, true, true, true, true, true, true, true, true, true, true, true, true, true, true, true, true] rfl rfl (any_of HT_.out (by kernel_rfl)) (fun _ _ _ h => h) (Or.inl ⟨by rfl, ?_⟩) ?_ ?_
                    rotate_left
                    · intro w'
                      go_simp
                      with_reducible rfl
                    rotate_left
                    · simp only [Act.put, List.setIfInBounds_toArray, List.set_cons_zero, List.set_cons_succ, i64_w, i32_w]
                      rfl
                    refine done_ (done_of HT_.out (by kernel_rfl)) ?_
                    go_wp2
                    go_roundg (tw.length - ju)
                    case measure => have := HJu.out; omega
                    case rel => exact ⟨x92 + 1, ju + 1, b2, rfl, by simp [hw4], ⟨by have := HJu.out; omega, by have := HJu.out; omega, by have := HJu.out; omega⟩, HD3, HB, HZ, BX7, HG, HFt, BX12, HTS, HFx, BX17, HWS⟩
      have d2 : decide (x59 < (got1.length : Int)) = true := decide_eq_true hi
      have hjl : js < got1.length := by have := HJs.out; omega
      have hx0 : 0 ≤ x59 := by have := HJs.out; omega
      have HG2 := Aside0.mk (show Kd.C k25 wr (some adg) got1.length got1 by rw [← HG1.out]; exact Kd.C_take HG.out (by omega))
      have HSS := Aside0.mk (show ∀ x ∈ got1, SmallT x from fun x hx => HSG.out.1 x (by rw [← HG1.out] at hx; exact List.mem_of_mem_take hx))
      obtain ⟨ad2, A7, c7, e4, hx_0, hx_1, hx_2, hx_3, hls, hi4⟩ := at_T25 HG2.out x59 hx0 hi
      cases e4
      obtain ⟨s, hx⟩ : ∃ s, rd_T25 got1 x59 = s := ⟨_, rfl⟩
      have hxj : got1[js]'(hjl) = s := by
        rw [← hx, HJs.out.1]
        unfold rd_T25
        simp [List.getD_eq_getElem?_getD, List.getElem?_eq_getElem hjl]
      rw [hx] at hx_0 hx_1 hx_2 hx_3 hls hi4
      have HSs := Aside0.mk (HSS.out s (by rw [← hxj]; exact List.getElem_mem hjl))
      have HFs := Aside0.mk hi4
      have HXs := Aside0.mk hxj
      obtain ⟨ys, hy⟩ : ∃ y, txt s = y := ⟨_, rfl⟩
      have HYys := Aside0.mk (show tag_Str.f s.f0 s.f1 s.f2 s.f3 = some ys by rw [← hy]; exact str_t s HSs.out)
      have HTs := Aside0.mk hy
      clear hx hxj hi4 hy
      have hne : ys.toList ≠ yt.toList := by
        have k := List.pairwise_iff_getElem.1 HON.out js jt (by omega) (by have := HJt.out; omega) (by omega)
        have e1 : got[js]'(by omega) = s := by
          have := HXs.out
          simp only [← HG1.out, List.getElem_take] at this
          exact this
        rw [e1, HXt.out, HTs.out, HTt.out] at k
        exact k
      have HNE := Aside0.mk (beq_eq_false_iff_ne.mpr hne)
      clear hne HG2 HSS
      have pi2 : (0 ≤ x59) = True := eq_true hx0
      have pl2 : (x59 < (got1.length : Int)) = True := eq_true hi
      have hw2 : wrap64 (x59 + 1) = x59 + 1 := wrap_id (by omega) (by have := HSG.out.2; have := HJt.out; omega)
      go_upto_region 16 with (first | ((with_reducible refine gate_dst (N := 14) rfl ?_); refine box_event ?hg (N := 14) ?hd (cs := #[.string (⟨#[]⟩ : ByteArray), .string (⟨#[]⟩ : ByteArray), .string (⟨#[]⟩ : ByteArray), .slice none 0 0]) (t := 25) ?hr ?_; (case hd => rfl); (case hg => rfl); (case hr => first | (go_simp; done) | (go_simp; rfl)); intro gb14 hg w61 hbox hb; have HBX := Aside0.mk hb; have HGX := Aside0.mk hg; have BK14 := Aside0.mk hbox; clear hb hg hbox; have hz0 : w61.cell? ⟨gb14, 0, none⟩ = some (.string (⟨#[]⟩ : ByteArray)) := (blk_cell BK14.out 0).trans rfl; have hzf0 := blk_frozen BK14.out 0; have hz1 : w61.cell? ⟨gb14, 1, none⟩ = some (.string (⟨#[]⟩ : ByteArray)) := (blk_cell BK14.out 1).trans rfl; have hzf1 := blk_frozen BK14.out 1; have hz2 : w61.cell? ⟨gb14, 2, none⟩ = some (.string (⟨#[]⟩ : ByteArray)) := (blk_cell BK14.out 2).trans rfl; have hzf2 := blk_frozen BK14.out 2; have hz3 : w61.cell? ⟨gb14, 3, none⟩ = some (.slice none 0 0) := (blk_cell BK14.out 3).trans rfl; have hzf3 := blk_frozen BK14.out 3))
      (try simp only [Act.put, List.setIfInBounds_toArray, List.set_cons_zero, List.set_cons_succ])
      obtain ⟨w62, hw⟩ : ∃ w62 : World, w62 = put4 w61 gb14 s A7 c7 := ⟨_, rfl⟩
      unfold put4 at hw
      rw [← hw]
      have hw' : w62 = put4 w61 gb14 s A7 c7 := hw
      have BX14 := Aside0.mk (show w62.heap[gb14]? = some (.cells #[.string s.f0, .string s.f1, .string s.f2, .slice A7 s.f3.length c7] 25 (0, 0)) by rw [hw']; exact put4_box s A7 c7 BK14.out)
      have hb : Below wr.heap.size wr w62 := by rw [hw']; exact made4 s A7 c7 HBX.out HGX.out
      clear hw hw' HBX HGX BK14 hz0 hz1 hz2 hz3 hzf0 hzf1 hzf2 hzf3 hx_0 hx_1 hx_2 hx_3
      have n0_ := Aside0.mk (below_step HB.out hb)
      have n1_ := Aside0.mk (Kd.F_below HZ.out hb)
      have n2_ := Aside0.mk (blk_below BX7.out hb)
      have n3_ := Aside0.mk (Kd.C_below HG.out hb)
      have n4_ := Aside0.mk (Kd.C_below HFt.out hb)
      have n5_ := Aside0.mk (blk_below BX12.out hb)
      have n6_ := Aside0.mk (Kd.C_below HFs.out hb)
      clear HB HZ BX7 HG HFt BX12 HFs hb
      have HB := n0_
      have HZ := n1_
      have BX7 := n2_
      have HG := n3_
      have HFt := n4_
      have BX12 := n5_
      have HFs := n6_
      clear n0_ n1_ n2_ n3_ n4_ n5_ n6_
      refine start_ (n := 5) (S := fun w' => w'.cell? ⟨gb14, 0, none⟩ = some (.string s.f0) ∧ w'.cell? ⟨gb14, 1, none⟩ = some (.string s.f1) ∧ w'.cell? ⟨gb14, 2, none⟩ = some (.string s.f2) ∧ w'.cell? ⟨gb14, 3, none⟩ = some (.slice A7 s.f3.length c7) ∧ w'.cell? ⟨gb12, 0, none⟩ = some (.string t.f0) ∧ w'.cell? ⟨gb12, 1, none⟩ = some (.string t.f1) ∧ w'.cell? ⟨gb12, 2, none⟩ = some (.string t.f2) ∧ w'.cell? ⟨gb12, 3, none⟩ = some (.slice A4 t.f3.length c4)) (ds := []) #[false, false, false, false, false] (by kernel_rfl) rfl rfl ⟨(blk_cell BX14.out 0).trans rfl, (blk_cell BX14.out 1).trans rfl, (blk_cell BX14.out 2).trans rfl, (blk_cell BX14.out 3).trans rfl, (blk_cell BX12.out 0).trans rfl, (blk_cell BX12.out 1).trans rfl, (blk_cell BX12.out 2).trans rfl, (blk_cell BX12.out 3).trans rfl⟩ (fun hHeld => ?_)
      refine with_tabW negoOnes.tab16 negoOnes.bits16 (fun HT_ HW_ => ?_)
      have hb : Below w62.heap.size w62 w62.drew := ⟨rfl, rfl, rfl, Nat.le_refl _, fun _ _ => rfl⟩
      have n0_ := Aside0.mk (below_step HB.out hb)
      have n1_ := Aside0.mk (Kd.F_below HZ.out hb)
      have n2_ := Aside0.mk (blk_below BX7.out hb)
      have n3_ := Aside0.mk (Kd.C_below HG.out hb)
      have n4_ := Aside0.mk (Kd.C_below HFt.out hb)
      have n5_ := Aside0.mk (blk_below BX12.out hb)
      have n6_ := Aside0.mk (Kd.C_below HFs.out hb)
      have n7_ := Aside0.mk (blk_below BX14.out hb)
      clear HB HZ BX7 HG HFt BX12 HFs BX14 hb
      have HB := n0_
      have HZ := n1_
      have BX7 := n2_
      have HG := n3_
      have HFt := n4_
      have BX12 := n5_
      have HFs := n6_
      have BX14 := n7_
      clear n0_ n1_ n2_ n3_ n4_ n5_ n6_ n7_
      generalize w62.drew = w63 at HB HZ BX7 HG HFt BX12 HFs BX14 hHeld ⊢
      refine take_ (i := 0) (N := some 63) (v := ?_) (a' := ?_) #[true, false, false, false, false] rfl rfl (take_ofW HT_.out HW_.out (by kernel_rfl)) (fun _ _ _ h => h) (Or.inl ⟨by rfl, ?_⟩) hHeld ?_ ?_
      rotate_left
      · rintro w' ⟨s0_, s1_, s2_, s3_, s4_, s5_, s6_, s7_⟩
        go_simp
        with_reducible rfl
      rotate_left
      · simp only [Act.put, List.setIfInBounds_toArray, List.set_cons_zero, List.set_cons_succ, i64_w, i32_w]
        rfl
      refine take_ (i := 2) (N := some 65) (v := ?_) (a' := ?_) #[true, false, true, false, false] rfl rfl (take_ofW HT_.out HW_.out (by kernel_rfl)) (fun _ _ _ h => h) (Or.inl ⟨by rfl, ?_⟩) hHeld ?_ ?_
      rotate_left
      · rintro w' ⟨s0_, s1_, s2_, s3_, s4_, s5_, s6_, s7_⟩
        go_simp
        with_reducible rfl
      rotate_left
      · simp only [Act.put, List.setIfInBounds_toArray, List.set_cons_zero, List.set_cons_succ, i64_w, i32_w]
        rfl
      refine one_ (i := 1) (N := some 64) #[true, true, true, false, false] rfl rfl (one_of HT_.out (by kernel_rfl)) (by decide) (fun K hK => ?_)
      refine goes_ Tryd.func17 (by kernel_rfl) rfl #[.agg #[.string s.f0, .string s.f1, .string s.f2, .slice A7 s.f3.length c7]] (by rfl) rfl rfl (by (try simp only [List.map_toArray, List.map_cons, List.map_nil]); first | done | rfl | (simp only [List.length_drop, List.length_take]; rfl)) ?_
      with_reducible refine (tag_Str.calls s.f0 s.f1 s.f2 A7 c7 s.f3 ys _ (HFs.out) hls HYys.out).mono ?_
      rintro e w64 ⟨rfl, hb⟩
      refine ⟨_, rfl, ?_⟩
      have n0_ := Aside0.mk (below_step HB.out hb)
      have n1_ := Aside0.mk (Kd.F_below HZ.out hb)
      have n2_ := Aside0.mk (blk_below BX7.out hb)
      have n3_ := Aside0.mk (Kd.C_below HG.out hb)
      have n4_ := Aside0.mk (Kd.C_below HFt.out hb)
      have n5_ := Aside0.mk (blk_below BX12.out hb)
      have n6_ := Aside0.mk (Kd.C_below HFs.out hb)
      have n7_ := Aside0.mk (blk_below BX14.out hb)
      clear HB HZ BX7 HG HFt BX12 HFs BX14 hb
      have HB := n0_
      have HZ := n1_
      have BX7 := n2_
      have HG := n3_
      have HFt := n4_
      have BX12 := n5_
      have HFs := n6_
      have BX14 := n7_
      clear n0_ n1_ n2_ n3_ n4_ n5_ n6_ n7_

      refine hK.out _ _ ⟨(blk_cell BX14.out 0).trans rfl, (blk_cell BX14.out 1).trans rfl, (blk_cell BX14.out 2).trans rfl, (blk_cell BX14.out 3).trans rfl, (blk_cell BX12.out 0).trans rfl, (blk_cell BX12.out 1).trans rfl, (blk_cell BX12.out 2).trans rfl, (blk_cell BX12.out 3).trans rfl⟩ (fun hHeld => ?_)
      refine norm_ (a' := ?_) ?_ ?_
      rotate_left
      · show Act.put _ (some 64) _ = _
        simp only [Act.put, List.setIfInBounds_toArray, List.set_cons_zero, List.set_cons_succ, i64_w, i32_w]
        rfl
      refine one_ (i := 3) (N := some 66) #[true, true, true, true, false] rfl rfl (one_of HT_.out (by kernel_rfl)) (by decide) (fun K hK => ?_)
      refine goes_ Tryd.func17 (by kernel_rfl) rfl #[.agg #[.string t.f0, .string t.f1, .string t.f2, .slice A4 t.f3.length c4]] (by rfl) rfl rfl (by (try simp only [List.map_toArray, List.map_cons, List.map_nil]); first | done | rfl | (simp only [List.length_drop, List.length_take]; rfl)) ?_
      with_reducible refine (tag_Str.calls t.f0 t.f1 t.f2 A4 c4 t.f3 yt _ (HFt.out) hlt HYyt.out).mono ?_
      rintro e w65 ⟨rfl, hb⟩
      refine ⟨_, rfl, ?_⟩
      have n0_ := Aside0.mk (below_step HB.out hb)
      have n1_ := Aside0.mk (Kd.F_below HZ.out hb)
      have n2_ := Aside0.mk (blk_below BX7.out hb)
      have n3_ := Aside0.mk (Kd.C_below HG.out hb)
      have n4_ := Aside0.mk (Kd.C_below HFt.out hb)
      have n5_ := Aside0.mk (blk_below BX12.out hb)
      have n6_ := Aside0.mk (Kd.C_below HFs.out hb)
      have n7_ := Aside0.mk (blk_below BX14.out hb)
      clear HB HZ BX7 HG HFt BX12 HFs BX14 hb
      have HB := n0_
      have HZ := n1_
      have BX7 := n2_
      have HG := n3_
      have HFt := n4_
      have BX12 := n5_
      have HFs := n6_
      have BX14 := n7_
      clear n0_ n1_ n2_ n3_ n4_ n5_ n6_ n7_

      refine hK.out _ _ ⟨(blk_cell BX14.out 0).trans rfl, (blk_cell BX14.out 1).trans rfl, (blk_cell BX14.out 2).trans rfl, (blk_cell BX14.out 3).trans rfl, (blk_cell BX12.out 0).trans rfl, (blk_cell BX12.out 1).trans rfl, (blk_cell BX12.out 2).trans rfl, (blk_cell BX12.out 3).trans rfl⟩ (fun hHeld => ?_)
      refine norm_ (a' := ?_) ?_ ?_
      rotate_left
      · show Act.put _ (some 66) _ = _
        simp only [Act.put, List.setIfInBounds_toArray, List.set_cons_zero, List.set_cons_succ, i64_w, i32_w]
        rfl
      refine pure_ (i := 4) (N := some 67) (v := ?_) (a' := ?_) #[true, true, true, true, true] rfl rfl (any_of HT_.out (by kernel_rfl)) (fun _ _ _ h => h) (Or.inl ⟨by rfl, ?_⟩) ?_ ?_
      rotate_left
      · intro w'
        go_simp
        with_reducible rfl
      rotate_left
      · simp only [Act.put, List.setIfInBounds_toArray, List.set_cons_zero, List.set_cons_succ, i64_w, i32_w]
        rfl
      refine done_ (done_of HT_.out (by kernel_rfl)) ?_
      rw [HNE.out]
      go_wp2
      go_roundg (got1.length - js)
      case measure => have := HJs.out; omega
      case rel => exact ⟨x59 + 1, js + 1, by simp [hw2], ⟨by have := HJs.out; omega, by omega, by omega⟩, HB, HZ, BX7, HG, HFt, BX12⟩
end Go.Proofs.YtpedajhcfkohlaaDoorHand
