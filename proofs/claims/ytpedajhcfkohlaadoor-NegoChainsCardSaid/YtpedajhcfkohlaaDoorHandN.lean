import Derived.Test.YtpedajhcfkohlaaDoorHandF
import Derived.Test.YtpedajhcfkohlaaDoorPNegx0
import Derived.Test.YtpedajhcfkohlaaDoorPTLessx1
import Derived.Test.YtpedajhcfkohlaaDoorTagE
/- The walks of the negotiation's functions over tags: has, add, fitted, Chain. -/
namespace Go.Proofs.YtpedajhcfkohlaaDoorHand
open Go.RowKit Go.Proofs.YtpedajhcfkohlaaDoor Go.Proofs.YtpedajhcfkohlaaDoor.PNeg Go.Proofs.YtpedajhcfkohlaaDoor.Pure Go.Proofs.YtpedajhcfkohlaaDoorW.PrintWords Go.Proofs.YtpedajhcfkohlaaDoorW.PrintLast Go.Proofs.YtpedajhcfkohlaaDoorW.PrintMore
attribute [local go_sem] max2_int min2_int max_two min_two max_three min_three max_four min_four
set_option linter.unusedVariables false
set_option linter.unusedSimpArgs false
def txt (t : S25) : ByteArray := textL (partsL t.f0 t.f1 t.f2 t.f3)
def SmallT (t : S25) : Prop := (t.f0.size ≤ 900 ∧ t.f1.size ≤ 900 ∧ t.f2.size ≤ 900 ∧ ∀ v ∈ t.f3, v.size ≤ 900) ∧ t.f3.length ≤ 900
def hasT (l : List S25) (t : S25) : Bool := l.any (fun x => (txt x).toList == (txt t).toList)
theorem str_t (t : S25) (h : SmallT t) : tag_Str.f t.f0 t.f1 t.f2 t.f3 = some (txt t) := by unfold tag_Str.f; unfold SmallT at h; rw [if_pos h]; rfl
set_option maxRecDepth 100000 in
theorem inv25 (a b c d : Value) (w : World) : (callMethod (.iface 25 (.agg #[a, b, c, d])) "String" #[]).run Tryd.prog w = .ok (.enter 17 #[.agg #[a, b, c, d]]) w := by kernel_rfl
theorem inv_op (ac : Act) (w : World) (oi : Oper) (t : Operand) (ts : Array TypeId) (a b c d : Value) (hop : oi.op = .call { callee := .invoke t "String", args := #[], argTypes := ts }) (hx : ac.eval t = .iface 25 (.agg #[a, b, c, d])) : (execOp ac.eval oi).run Tryd.prog w = .ok (.enter 17 #[.agg #[a, b, c, d]]) w := by
  have h := inv25 a b c d w
  unfold execOp
  simp [hop, resolve, invoke, hx]
  exact h
/-- The cells of a tag. -/
def cellsT (t : S25) (A : Option Addr) (c : Nat) : Array Value := #[.string t.f0, .string t.f1, .string t.f2, .slice A t.f3.length c]
def put4 (W : World) (g : Nat) (t : S25) (A : Option Addr) (c : Nat) : World := (((W.setCell ⟨g, 0, none⟩ (.string t.f0)).setCell ⟨g, 1, none⟩ (.string t.f1)).setCell ⟨g, 2, none⟩ (.string t.f2)).setCell ⟨g, 3, none⟩ (.slice A t.f3.length c)
theorem put4_far {W : World} {g k : Nat} (t : S25) (A : Option Addr) (c : Nat) (h : k ≠ g) : (put4 W g t A c).heap[k]? = W.heap[k]? := by
  unfold put4
  rw [Below.heap_setCell _ _ _ _ (by exact h), Below.heap_setCell _ _ _ _ (by exact h), Below.heap_setCell _ _ _ _ (by exact h), Below.heap_setCell _ _ _ _ (by exact h)]
theorem put4_box {W : World} {g : Nat} {a b c d : Value} (t : S25) (A : Option Addr) (n : Nat) (h : W.heap[g]? = some (.cells #[a, b, c, d] 25 (0, 0))) : (put4 W g t A n).heap[g]? = some (.cells (cellsT t A n) 25 (0, 0)) := by
  unfold put4 cellsT
  refine blk_put (cs := #[.string t.f0, .string t.f1, .string t.f2, d]) ?_ 3 _ rfl
  refine blk_put (cs := #[.string t.f0, .string t.f1, c, d]) ?_ 2 _ rfl
  refine blk_put (cs := #[.string t.f0, b, c, d]) ?_ 1 _ rfl
  refine blk_put (cs := #[a, b, c, d]) ?_ 0 _ rfl
  exact h
theorem put4_below {B : Nat} {w W : World} {g : Nat} (t : S25) (A : Option Addr) (c : Nat) (h : Below B w W) (hg : B ≤ g) : Below B w (put4 W g t A c) := by
  unfold put4
  exact (((h.setCell (p := ⟨g, 0, none⟩) hg _).setCell (p := ⟨g, 1, none⟩) hg _).setCell (p := ⟨g, 2, none⟩) hg _).setCell (p := ⟨g, 3, none⟩) hg _

def nego_has.T4 : Bool × List (List Nat × List Nat) := (true, [([], []), ([0], [0]), ([1], [1]), ([], []), ([3], [3]), ([4, 2], [4]), ([2, 5], [2, 5])])
def nego_has.B4 : List Nat := [0, 1, 3, 0, 8, 31, 63]
theorem nego_has.tab4 : rtab .any (opsOf Tryd.f56 4) = nego_has.T4 := by kernel_rfl
theorem nego_has.bits4 : waitsOk nego_has.T4.2 nego_has.B4 = true := by kernel_rfl
set_option maxHeartbeats 8000000 in
set_option maxRecDepth 100000 in
theorem nego_has.calls (A0 : Option Addr) (c0 : Nat) (l0 : List S25) (t : S25) (A3 : Option Addr) (c3 : Nat) (w : World) (hr : Kd.C k25 w A0 l0.length l0) (hc : l0.length ≤ c0) (ht : Kd.C Kd.string w A3 t.f3.length t.f3) (hc3 : t.f3.length ≤ c3) (hs : ∀ x ∈ l0, SmallT x) (hst : SmallT t) (hl : l0.length ≤ 1000000) :
    Calls Tryd.prog 56 #[.slice A0 l0.length c0, .agg #[.string t.f0, .string t.f1, .string t.f2, .slice A3 t.f3.length c3]] w fun e w' => e = .returned (.bool (hasT l0 t)) ∧ Below w.heap.size w w' := by
  have hu25 := Tryd.underlying25
  have HB := Aside0.mk (Below.refl w.heap.size w)
  have HR := Aside0.mk hr
  have HT3 := Aside0.mk ht
  have HS := Aside0.mk hs
  have HST := Aside0.mk (str_t t hst)
  clear hr ht hs hst
  go_enter Tryd.func56, Tryd.ntmps56
  go_wp2_with (first | ((with_reducible refine gate_dst (N := 3) rfl ?_); refine box_event ?hg (N := 3) ?hd (cs := #[.string t.f0, .string t.f1, .string t.f2, .slice A3 t.f3.length c3]) (t := 25) ?hr ?_; (case hd => rfl); (case hg => rfl); (case hr => first | (go_simp; done) | (go_simp; rfl)); intro gb3 hg w3 hbox hb; have n0_ := Aside0.mk (below_step (by exact HB.out) hb); have n1_ := Aside0.mk hbox; clear HB; have HB := n0_; have BK3 := n1_; clear n0_ n1_ hb hbox hg))
  go_loopg [9] (l0.length + 1) (fun kq v9 w' => ∃ (x9 : Int) (j : Nat), v9 = .int .i64 x9 ∧ Aside0 (x9 = j ∧ j ≤ l0.length ∧ kq = l0.length - j + 1) ∧ Aside0 (hasT (l0.take j) t = false) ∧ Aside0 (w'.heap[gb3]? = some (.cells #[.string t.f0, .string t.f1, .string t.f2, .slice A3 t.f3.length c3] 25 (0, 0))) ∧ Aside0 (Below w.heap.size w w'))
  case atStart => exact ⟨0, 0, rfl, ⟨rfl, Nat.zero_le _, rfl⟩, ⟨rfl⟩, BK3, HB⟩
  case round =>
    clear BK3 HB
    obtain ⟨x9, j, rfl, HJ, HH, BK3, HB⟩ := hrel
    by_cases hi : x9 < (l0.length : Int)
    case neg =>
      have d1 : decide (x9 < (l0.length : Int)) = false := decide_eq_false hi
      have e1 : hasT l0 t = false := by
        have k := HH.out
        rw [List.take_of_length_le (by have := HJ.out; omega)] at k
        exact k
      go_wp2
      go_ret
      exact ⟨by first | rfl | (rw [e1]; rfl), HB.out⟩
    have d1 : decide (x9 < (l0.length : Int)) = true := decide_eq_true hi
    have hjl : j < l0.length := by have := HJ.out; omega
    have hx0 : 0 ≤ x9 := by have := HJ.out; omega
    obtain ⟨ad, A4, c4, e4, hx_0, hx_1, hx_2, hx_3, hl4, hi4⟩ := at_T25 HR.out x9 hx0 hi
    cases e4
    obtain ⟨x, hx⟩ : ∃ x, rd_T25 l0 x9 = x := ⟨_, rfl⟩
    have hxj : l0[j] = x := by
      rw [← hx, HJ.out.1]
      unfold rd_T25
      simp [List.getD_eq_getElem?_getD, List.getElem?_eq_getElem hjl]
    rw [hx] at hx_0 hx_1 hx_2 hx_3 hl4 hi4
    replace hx_0 := (HB.out.cell (World.block_lt_of_cell? w _ hx_0)).trans hx_0
    replace hx_1 := (HB.out.cell (World.block_lt_of_cell? w _ hx_1)).trans hx_1
    replace hx_2 := (HB.out.cell (World.block_lt_of_cell? w _ hx_2)).trans hx_2
    replace hx_3 := (HB.out.cell (World.block_lt_of_cell? w _ hx_3)).trans hx_3
    have HX := Aside0.mk (str_t x (HS.out x (by rw [← hxj]; exact List.getElem_mem hjl)))
    have HXJ := Aside0.mk hxj
    have HI4 := Aside0.mk hi4
    clear hx hxj hi4
    have pi : (0 ≤ x9) = True := eq_true hx0
    have pl : (x9 < (l0.length : Int)) = True := eq_true hi
    have hw1 : wrap64 (x9 + 1) = x9 + 1 := wrap_id (by omega) (by omega)
    obtain ⟨y1, hy1⟩ : ∃ y, txt x = y := ⟨_, rfl⟩
    obtain ⟨y2, hy2⟩ : ∃ y, txt t = y := ⟨_, rfl⟩
    go_upto_region 4 with (first | ((with_reducible refine gate_dst (N := 6) rfl ?_); refine box_event ?hg (N := 6) ?hd (cs := #[.string (⟨#[]⟩ : ByteArray), .string (⟨#[]⟩ : ByteArray), .string (⟨#[]⟩ : ByteArray), .slice none 0 0]) (t := 25) ?hr ?_; (case hd => rfl); (case hg => rfl); (case hr => first | (go_simp; done) | (go_simp; rfl)); intro gb6 hg w9 hbox hb; have n0_ := Aside0.mk (below_step (by exact HB.out) hb); have n1_ := Aside0.mk hbox; have GE6 := Aside0.mk ((by rw [hg]; exact below_size HB.out) : w.heap.size ≤ gb6); have NB := Aside0.mk ((by rw [hg]; exact Nat.ne_of_lt (blk_lt BK3.out)) : gb3 ≠ gb6); have n2_ := Aside0.mk (blk_below BK3.out hb); clear HB BK3; have HB := n0_; have BK6 := n1_; have BK3 := n2_; clear n0_ n1_ n2_ hb hbox hg; have hcz0 : w9.cell? ⟨gb6, 0, none⟩ = some (.string (⟨#[]⟩ : ByteArray)) := (blk_cell BK6.out 0).trans rfl; have hfz0 := blk_frozen BK6.out 0; have hcz1 : w9.cell? ⟨gb6, 1, none⟩ = some (.string (⟨#[]⟩ : ByteArray)) := (blk_cell BK6.out 1).trans rfl; have hfz1 := blk_frozen BK6.out 1; have hcz2 : w9.cell? ⟨gb6, 2, none⟩ = some (.string (⟨#[]⟩ : ByteArray)) := (blk_cell BK6.out 2).trans rfl; have hfz2 := blk_frozen BK6.out 2; have hcz3 : w9.cell? ⟨gb6, 3, none⟩ = some (.slice none 0 0) := (blk_cell BK6.out 3).trans rfl; have hfz3 := blk_frozen BK6.out 3))
    (try simp only [Act.put, List.setIfInBounds_toArray, List.set_cons_zero, List.set_cons_succ])
    obtain ⟨w10, hw⟩ : ∃ w10 : World, w10 = put4 w9 gb6 x A4 c4 := ⟨_, rfl⟩
    unfold put4 at hw
    rw [← hw]
    have hw' : w10 = put4 w9 gb6 x A4 c4 := hw
    have n0_ : Aside0 (w10.heap[gb3]? = some (.cells #[.string t.f0, .string t.f1, .string t.f2, .slice A3 t.f3.length c3] 25 (0, 0))) := ⟨by rw [hw', put4_far _ _ _ NB.out]; exact BK3.out⟩
    have n1_ : Aside0 (w10.heap[gb6]? = some (.cells #[.string x.f0, .string x.f1, .string x.f2, .slice A4 x.f3.length c4] 25 (0, 0))) := ⟨by rw [hw']; exact put4_box _ _ _ BK6.out⟩
    have n2_ : Aside0 (Below w.heap.size w w10) := ⟨by rw [hw']; exact put4_below _ _ _ HB.out GE6.out⟩
    clear hw hw' BK3 BK6 HB
    have BK3 := n0_
    have BK6 := n1_
    have HB := n2_
    clear n0_ n1_ n2_ hx_0 hx_1 hx_2 hx_3
    refine start_ (n := 7) (S := fun w' => w'.cell? ⟨gb3, 0, none⟩ = some (.string t.f0) ∧ w'.cell? ⟨gb3, 1, none⟩ = some (.string t.f1) ∧ w'.cell? ⟨gb3, 2, none⟩ = some (.string t.f2) ∧ w'.cell? ⟨gb3, 3, none⟩ = some (.slice A3 t.f3.length c3) ∧ w'.cell? ⟨gb6, 0, none⟩ = some (.string x.f0) ∧ w'.cell? ⟨gb6, 1, none⟩ = some (.string x.f1) ∧ w'.cell? ⟨gb6, 2, none⟩ = some (.string x.f2) ∧ w'.cell? ⟨gb6, 3, none⟩ = some (.slice A4 x.f3.length c4)) (ds := []) #[false, false, false, false, false, false, false] (by kernel_rfl) rfl rfl ⟨(blk_cell BK3.out 0).trans rfl, (blk_cell BK3.out 1).trans rfl, (blk_cell BK3.out 2).trans rfl, (blk_cell BK3.out 3).trans rfl, (blk_cell BK6.out 0).trans rfl, (blk_cell BK6.out 1).trans rfl, (blk_cell BK6.out 2).trans rfl, (blk_cell BK6.out 3).trans rfl⟩ (fun hHeld => ?_)
    refine with_tabW nego_has.tab4 nego_has.bits4 (fun HT_ HW_ => ?_)
    have n0_ := Aside0.mk (blk_drew BK3.out)
    have n1_ := Aside0.mk (blk_drew BK6.out)
    have n2_ := Aside0.mk (below_drew1 HB.out)
    clear BK3 BK6 HB
    have BK3 := n0_
    have BK6 := n1_
    have HB := n2_
    clear n0_ n1_ n2_
    generalize w10.drew = w39 at BK3 BK6 HB hHeld ⊢
    refine take_ (i := 0) (N := some 13) (v := ?_) (a' := ?_) #[true, false, false, false, false, false, false] rfl rfl (take_ofW HT_.out HW_.out (by kernel_rfl)) (fun _ _ _ h => h) (Or.inl ⟨by rfl, ?_⟩) hHeld ?_ ?_
    rotate_left
    · rintro w' ⟨s0, s1, s2, s3, s4, s5, s6, s7⟩
      go_simp
      with_reducible rfl
    rotate_left
    · simp only [Act.put, List.setIfInBounds_toArray, List.set_cons_zero, List.set_cons_succ, i64_w, i32_w]
      rfl
    refine take_ (i := 3) (N := some 16) (v := ?_) (a' := ?_) #[true, false, false, true, false, false, false] rfl rfl (take_ofW HT_.out HW_.out (by kernel_rfl)) (fun _ _ _ h => h) (Or.inl ⟨by rfl, ?_⟩) hHeld ?_ ?_
    rotate_left
    · rintro w' ⟨s0, s1, s2, s3, s4, s5, s6, s7⟩
      go_simp
      with_reducible rfl
    rotate_left
    · simp only [Act.put, List.setIfInBounds_toArray, List.set_cons_zero, List.set_cons_succ, i64_w, i32_w]
      rfl
    refine pure_ (i := 1) (N := some 14) (v := ?_) (a' := ?_) #[true, true, false, true, false, false, false] rfl rfl (any_of HT_.out (by kernel_rfl)) (fun _ _ _ h => h) (Or.inl ⟨by rfl, ?_⟩) ?_ ?_
    rotate_left
    · intro w'
      go_simp
      with_reducible rfl
    rotate_left
    · simp only [Act.put, List.setIfInBounds_toArray, List.set_cons_zero, List.set_cons_succ, i64_w, i32_w]
      rfl
    refine pure_ (i := 4) (N := some 17) (v := ?_) (a' := ?_) #[true, true, false, true, true, false, false] rfl rfl (any_of HT_.out (by kernel_rfl)) (fun _ _ _ h => h) (Or.inl ⟨by rfl, ?_⟩) ?_ ?_
    rotate_left
    · intro w'
      go_simp
      with_reducible rfl
    rotate_left
    · simp only [Act.put, List.setIfInBounds_toArray, List.set_cons_zero, List.set_cons_succ, i64_w, i32_w]
      rfl
    refine one_ (i := 2) (N := some 15) #[true, true, true, true, true, false, false] rfl rfl (one_of HT_.out (by kernel_rfl)) (by decide) (fun K hK => ?_)
    refine call_ 17 #[.agg #[.string x.f0, .string x.f1, .string x.f2, .slice A4 x.f3.length c4]] (by rfl) rfl (inv_op _ _ _ _ _ _ _ _ _ rfl rfl) ?_
    refine (tag_Str.calls x.f0 x.f1 x.f2 A4 c4 x.f3 _ _ (Kd.C_below HI4.out HB.out) hl4 HX.out).mono ?_
    rintro e w40 ⟨rfl, hb⟩
    refine ⟨_, rfl, ?_⟩
    have n0_ := Aside0.mk (blk_below BK3.out hb)
    have n1_ := Aside0.mk (blk_below BK6.out hb)
    have n2_ := Aside0.mk (below_step HB.out hb)
    clear BK3 BK6 HB hb
    have BK3 := n0_
    have BK6 := n1_
    have HB := n2_
    clear n0_ n1_ n2_
    refine hK.out _ _ ⟨(blk_cell BK3.out 0).trans rfl, (blk_cell BK3.out 1).trans rfl, (blk_cell BK3.out 2).trans rfl, (blk_cell BK3.out 3).trans rfl, (blk_cell BK6.out 0).trans rfl, (blk_cell BK6.out 1).trans rfl, (blk_cell BK6.out 2).trans rfl, (blk_cell BK6.out 3).trans rfl⟩ (fun hHeld => ?_)
    refine norm_ (a' := ?_) ?_ ?_
    rotate_left
    · show Act.put _ (some 15) _ = _
      simp only [Act.put, List.setIfInBounds_toArray, List.set_cons_zero, List.set_cons_succ, i64_w, i32_w]
      rfl
    refine one_ (i := 5) (N := some 18) #[true, true, true, true, true, true, false] rfl rfl (one_of HT_.out (by kernel_rfl)) (by decide) (fun K hK => ?_)
    refine call_ 17 #[.agg #[.string t.f0, .string t.f1, .string t.f2, .slice A3 t.f3.length c3]] (by rfl) rfl (inv_op _ _ _ _ _ _ _ _ _ rfl rfl) ?_
    refine (tag_Str.calls t.f0 t.f1 t.f2 A3 c3 t.f3 _ _ (Kd.C_below HT3.out HB.out) hc3 HST.out).mono ?_
    rintro e w40 ⟨rfl, hb⟩
    refine ⟨_, rfl, ?_⟩
    have n0_ := Aside0.mk (blk_below BK3.out hb)
    have n1_ := Aside0.mk (blk_below BK6.out hb)
    have n2_ := Aside0.mk (below_step HB.out hb)
    clear BK3 BK6 HB hb
    have BK3 := n0_
    have BK6 := n1_
    have HB := n2_
    clear n0_ n1_ n2_
    refine hK.out _ _ ⟨(blk_cell BK3.out 0).trans rfl, (blk_cell BK3.out 1).trans rfl, (blk_cell BK3.out 2).trans rfl, (blk_cell BK3.out 3).trans rfl, (blk_cell BK6.out 0).trans rfl, (blk_cell BK6.out 1).trans rfl, (blk_cell BK6.out 2).trans rfl, (blk_cell BK6.out 3).trans rfl⟩ (fun hHeld => ?_)
    refine norm_ (a' := ?_) ?_ ?_
    rotate_left
    · show Act.put _ (some 18) _ = _
      simp only [Act.put, List.setIfInBounds_toArray, List.set_cons_zero, List.set_cons_succ, i64_w, i32_w]
      rfl
    refine pure_ (i := 6) (N := some 19) (v := ?_) (a' := ?_) #[true, true, true, true, true, true, true] rfl rfl (any_of HT_.out (by kernel_rfl)) (fun _ _ _ h => h) (Or.inl ⟨by rfl, ?_⟩) ?_ ?_
    rotate_left
    · intro w'
      go_simp
      with_reducible rfl
    rotate_left
    · simp only [Act.put, List.setIfInBounds_toArray, List.set_cons_zero, List.set_cons_succ, i64_w, i32_w]
      rfl
    refine done_ (done_of HT_.out (by kernel_rfl)) ?_
    by_cases he : y1.toList = y2.toList
    case pos =>
      have eb : (y1.toList == y2.toList) = true := beq_iff_eq.mpr he
      have e1 : hasT l0 t = true := by
        unfold hasT
        rw [List.any_eq_true]
        exact ⟨x, by rw [← HXJ.out]; exact List.getElem_mem hjl, by rw [hy1, hy2]; exact eb⟩
      clear he
      rw [eb]
      go_wp2
      go_ret
      exact ⟨by first | rfl | (rw [e1]; rfl), HB.out⟩
    case neg =>
      have eb : (y1.toList == y2.toList) = false := beq_eq_false_iff_ne.mpr he
      rw [eb]
      go_wp2
      go_roundg (l0.length - j)
      case measure => have := HJ.out; omega
      case rel =>
        refine ⟨x9 + 1, j + 1, by simp [hw1], ⟨by have := HJ.out; omega, by omega, by omega⟩, ⟨?_⟩, BK3, HB⟩
        have k := HH.out
        unfold hasT at k ⊢
        rw [List.take_succ_eq_append_getElem hjl, List.any_append, k, HXJ.out]
        simp only [List.any_cons, List.any_nil, Bool.or_false, Bool.false_or]
        rw [hy1, hy2]
        exact eb
theorem nego_has.calls2 (A0 : Option Addr) (c0 : Nat) (l0 : List S25) (t : S25) (A3 : Option Addr) (c3 : Nat) (b : Bool) (hb : hasT l0 t = b) (w : World) (hr : Kd.C k25 w A0 l0.length l0) (hc : l0.length ≤ c0) (ht : Kd.C Kd.string w A3 t.f3.length t.f3) (hc3 : t.f3.length ≤ c3) (hs : ∀ x ∈ l0, SmallT x) (hst : SmallT t) (hl : l0.length ≤ 1000000) :
    Calls Tryd.prog 56 #[.slice A0 l0.length c0, .agg #[.string t.f0, .string t.f1, .string t.f2, .slice A3 t.f3.length c3]] w fun e w' => e = .returned (.bool b) ∧ Below w.heap.size w w' := hb ▸ nego_has.calls A0 c0 l0 t A3 c3 w hr hc ht hc3 hs hst hl
/-- A tag's cells, whatever else happens: what its variants lie in is in ok. -/
theorem tag_FK {W : World} {ok : Nat → Prop} {t : S25} {A : Option Addr} {c : Nat} (h : Kd.F Kd.string W ok A t.f3.length t.f3) (hc : t.f3.length ≤ c) : Kd.FK k25 W ok t [.string t.f0, .string t.f1, .string t.f2, .slice A t.f3.length c] := fun W' hW => k25_mk W' t hc (h W' hW)
theorem grown_of {w W : World} (h : Below w.heap.size w W) (row : Option Nat) : w.grownBy W row := ⟨h.os, h.tape, h.output, h.size, fun k hk _ => h.block k hk⟩
def addT (l : List S25) (t : S25) : List S25 := if hasT l t = true then l else l ++ [t]
/-- What a change of the row v leaves: behind it the row is v1. -/
structure Left (w w' : World) (v v1 : Value) : Prop where
  grown : w.grownBy w' v.ownBlock
  at_ : v1.ownBlock = v.ownBlock ∨ ∃ b, v1.ownBlock = some b ∧ w.heap.size ≤ b
theorem Left.refl (w : World) (v : Value) : Left w w v v := ⟨World.grownBy.refl w _, .inl rfl⟩
theorem Left.ahead {w w1 w2 : World} {v v1 : Value} (h : Below w.heap.size w w1) (k : Left w1 w2 v v1) : Left w w2 v v1 := by
  refine ⟨(grown_of h _).trans k.grown, ?_⟩
  rcases k.at_ with k | ⟨b, k1, k2⟩
  · exact .inl k
  · exact .inr ⟨b, k1, Nat.le_trans h.size k2⟩
theorem Left.trans {w w1 w2 : World} {v v1 v2 : Value} (h : Left w w1 v v1) (k : Left w1 w2 v1 v2) : Left w w2 v v2 := by
  have hs := h.grown.size
  refine ⟨⟨k.grown.os.trans h.grown.os, k.grown.tape.trans h.grown.tape, k.grown.output.trans h.grown.output, Nat.le_trans hs k.grown.size, fun i hi hne => ?_⟩, ?_⟩
  · refine (k.grown.block i (by omega) ?_).trans (h.grown.block i hi hne)
    rcases h.at_ with e | ⟨b, e1, e2⟩
    · rw [e]; exact hne
    · rw [e1]; intro e; injection e with e; omega
  · rcases k.at_ with e | ⟨b, e1, e2⟩
    · rcases h.at_ with e' | ⟨b, e1, e2⟩
      · exact .inl (e.trans e')
      · exact .inr ⟨b, e.trans e1, e2⟩
    · exact .inr ⟨b, e1, by omega⟩
theorem Left.far {α : Type} {d : Kd α} {w w' : World} {v v1 : Value} (h : Left w w' v v1) {ok : Nat → Prop} {A : Option Addr} {n : Nat} {xs : List α} (hf : Kd.F d w (fun k => ok k ∧ some k ≠ v.ownBlock) A n xs) : Kd.F d w' (fun k => ok k ∧ some k ≠ v1.ownBlock) A n xs := Kd.F_after hf h.grown h.at_
theorem Left.box {w w' : World} {v v1 : Value} (h : Left w w' v v1) {g : Nat} {o : Obj} (hb : w.heap[g]? = some o) (hne : some g ≠ v.ownBlock) : w'.heap[g]? = some o ∧ some g ≠ v1.ownBlock := by
  refine ⟨(h.grown.block g (blk_lt hb) hne).trans hb, ?_⟩
  rcases h.at_ with e | ⟨b, e1, e2⟩
  · rw [e]; exact hne
  · rw [e1]; intro e; injection e with e; have := blk_lt hb; omega
set_option maxHeartbeats 8000000 in
set_option maxRecDepth 100000 in
theorem nego_add.calls (base : Nat) (ok : Nat → Prop) (A : Option Addr) (c : Nat) (l : List S25) (t : S25) (A3 : Option Addr) (c3 : Nat) (r : List S25) (hr : addT l t = r) (w0 w : World) (ho : Kd.N k25 25 w base ok (.slice A l.length c) l)
    (ht : Kd.F Kd.string w (fun k => ok k ∧ some k ≠ (Value.slice A l.length c).ownBlock) A3 t.f3.length t.f3) (hc3 : t.f3.length ≤ c3) (hfresh : ∀ k, base ≤ k → ok k) (hbase : base ≤ w.heap.size) (hb0 : Below base w0 w) (hs : ∀ x ∈ l, SmallT x) (hst : SmallT t) (hl : l.length ≤ 1000000) :
    Calls Tryd.prog 57 #[.slice A l.length c, .agg #[.string t.f0, .string t.f1, .string t.f2, .slice A3 t.f3.length c3]] w fun e w' => ∃ v1, e = .returned v1 ∧ Kd.N k25 25 w' base ok v1 r ∧ Below base w0 w' ∧ Left w w' (.slice A l.length c) v1 := by
  have hu25 := Tryd.underlying25
  have HL := Aside0.mk (Below.refl w.heap.size w)
  have HO := Aside0.mk ho
  have HF := Aside0.mk ht
  have HB0 := Aside0.mk hb0
  have HS := Aside0.mk hs
  have HST := Aside0.mk hst
  have HFR := Aside0.mk hfresh
  have HBS := Aside0.mk hbase
  have HR := Aside0.mk hr
  have HC := Aside0.mk (Kd.N_reads' ho).2.1
  clear ho ht hb0 hs hst hfresh hbase hr
  go_enter Tryd.func57, Tryd.ntmps57
  by_cases ch : hasT l t = true
  case pos =>
    have e1 := Aside0.mk (show l = r by have k := HR.out; unfold addT at k; rw [if_pos ch] at k; exact k)
    have CH := Aside0.mk ch
    clear ch
    go_wp2_with (first | ((with_reducible refine gate_dst (N := 3) rfl ?_); refine box_event ?hg (N := 3) ?hd (cs := #[.string t.f0, .string t.f1, .string t.f2, .slice A3 t.f3.length c3]) (t := 25) ?hr ?_; (case hd => rfl); (case hg => rfl); (case hr => first | (go_simp; done) | (go_simp; rfl)); intro gb3 hg w3 hbox hb; have n0_ := Aside0.mk (below_step (by exact HL.out) hb); have n1_ := Aside0.mk hbox; clear HL; have HL := n0_; have BK3 := n1_; clear n0_ n1_ hb hbox hg; have hcz0 : w3.cell? ⟨gb3, 0, none⟩ = some (.string t.f0) := (blk_cell BK3.out 0).trans rfl; have hcz1 : w3.cell? ⟨gb3, 1, none⟩ = some (.string t.f1) := (blk_cell BK3.out 1).trans rfl; have hcz2 : w3.cell? ⟨gb3, 2, none⟩ = some (.string t.f2) := (blk_cell BK3.out 2).trans rfl; have hcz3 : w3.cell? ⟨gb3, 3, none⟩ = some (.slice A3 t.f3.length c3) := (blk_cell BK3.out 3).trans rfl) | ((with_reducible refine gate_callee (f := 56) rfl ?_); refine goesL_ (some 7) rfl rfl Tryd.func56 (by kernel_rfl) rfl #[.slice A l.length c, .agg #[.string t.f0, .string t.f1, .string t.f2, .slice A3 t.f3.length c3]] rfl (by (try simp only [List.map_toArray, List.map_cons, List.map_nil]); first | done | rfl | (simp only [List.length_drop, List.length_take]; rfl)) ?_; (with_reducible refine (nego_has.calls2 A c l t A3 c3 _ CH.out _ (Kd.C_below (Kd.N_reads' HO.out).2.2 HL.out) HC.out (Kd.C_below (Kd.F_now HF.out) HL.out) hc3 HS.out HST.out hl).mono ?_); rintro e w5 ⟨rfl, hb⟩; refine ⟨_, rfl, ?_⟩; have n0_ := Aside0.mk (below_step HL.out hb); have n1_ := Aside0.mk (blk_below BK3.out hb); clear HL BK3 hb; have HL := n0_; have BK3 := n1_; clear n0_ n1_ hcz0 hcz1 hcz2 hcz3; have hcy0 : w5.cell? ⟨gb3, 0, none⟩ = some (.string t.f0) := (blk_cell BK3.out 0).trans rfl; have hcy1 : w5.cell? ⟨gb3, 1, none⟩ = some (.string t.f1) := (blk_cell BK3.out 1).trans rfl; have hcy2 : w5.cell? ⟨gb3, 2, none⟩ = some (.string t.f2) := (blk_cell BK3.out 2).trans rfl; have hcy3 : w5.cell? ⟨gb3, 3, none⟩ = some (.slice A3 t.f3.length c3) := (blk_cell BK3.out 3).trans rfl))
    go_ret
    exact ⟨_, rfl, (by rw [← e1.out]; exact Kd.N_below HO.out HL.out), HB0.out.trans (HL.out.mono HBS.out), Left.ahead HL.out (Left.refl _ _)⟩
  case neg =>
    have ch' : hasT l t = false := Bool.eq_false_iff.mpr ch
    have e1 := Aside0.mk (show l ++ [t] = r by have k := HR.out; unfold addT at k; rw [if_neg ch] at k; exact k)
    have CH := Aside0.mk ch'
    clear ch ch'
    go_wp2_with (first | ((with_reducible refine gate_dst (N := 3) rfl ?_); refine box_event ?hg (N := 3) ?hd (cs := #[.string t.f0, .string t.f1, .string t.f2, .slice A3 t.f3.length c3]) (t := 25) ?hr ?_; (case hd => rfl); (case hg => rfl); (case hr => first | (go_simp; done) | (go_simp; rfl)); intro gb3 hg w3 hbox hb; have n0_ := Aside0.mk (below_step (by exact HL.out) hb); have n1_ := Aside0.mk hbox; clear HL; have HL := n0_; have BK3 := n1_; clear n0_ n1_ hb hbox hg; have hcz0 : w3.cell? ⟨gb3, 0, none⟩ = some (.string t.f0) := (blk_cell BK3.out 0).trans rfl; have hcz1 : w3.cell? ⟨gb3, 1, none⟩ = some (.string t.f1) := (blk_cell BK3.out 1).trans rfl; have hcz2 : w3.cell? ⟨gb3, 2, none⟩ = some (.string t.f2) := (blk_cell BK3.out 2).trans rfl; have hcz3 : w3.cell? ⟨gb3, 3, none⟩ = some (.slice A3 t.f3.length c3) := (blk_cell BK3.out 3).trans rfl) | ((with_reducible refine gate_callee (f := 56) rfl ?_); refine goesL_ (some 7) rfl rfl Tryd.func56 (by kernel_rfl) rfl #[.slice A l.length c, .agg #[.string t.f0, .string t.f1, .string t.f2, .slice A3 t.f3.length c3]] rfl (by (try simp only [List.map_toArray, List.map_cons, List.map_nil]); first | done | rfl | (simp only [List.length_drop, List.length_take]; rfl)) ?_; (with_reducible refine (nego_has.calls2 A c l t A3 c3 _ CH.out _ (Kd.C_below (Kd.N_reads' HO.out).2.2 HL.out) HC.out (Kd.C_below (Kd.F_now HF.out) HL.out) hc3 HS.out HST.out hl).mono ?_); rintro e w5 ⟨rfl, hb⟩; refine ⟨_, rfl, ?_⟩; have n0_ := Aside0.mk (below_step HL.out hb); have n1_ := Aside0.mk (blk_below BK3.out hb); clear HL BK3 hb; have HL := n0_; have BK3 := n1_; clear n0_ n1_ hcz0 hcz1 hcz2 hcz3; have hcy0 : w5.cell? ⟨gb3, 0, none⟩ = some (.string t.f0) := (blk_cell BK3.out 0).trans rfl; have hcy1 : w5.cell? ⟨gb3, 1, none⟩ = some (.string t.f1) := (blk_cell BK3.out 1).trans rfl; have hcy2 : w5.cell? ⟨gb3, 2, none⟩ = some (.string t.f2) := (blk_cell BK3.out 2).trans rfl; have hcy3 : w5.cell? ⟨gb3, 3, none⟩ = some (.slice A3 t.f3.length c3) := (blk_cell BK3.out 3).trans rfl) | ((with_reducible refine gate_builtin (b := .append) (xs := #[.tmp 9, .tmp 11]) rfl ?_); at_builtin; refine Kd.N_append k25 (w0 := w0) base rfl (.tmp 9) (.tmp 11) 45 25 (.agg #[(.string ⟨#[]⟩), (.string ⟨#[]⟩), (.string ⟨#[]⟩), (.slice none 0 0)]) 72 rfl Tryd.underlying45 info25 rfl (by decide) (by omega) (.slice A l.length c) l t [.string t.f0, .string t.f1, .string t.f2, .slice A3 t.f3.length c3] ok (fun k => ok k ∧ some k ≠ (Value.slice A l.length c).ownBlock) rfl rfl ?aP (fun _ hk => hk) ?aF ?aO ?aB ?aS ?aL ?_; (case aP => exact tag_FK (Kd.F_below HF.out HL.out) hc3); (case aF => exact fun k hk => HFR.out k (Nat.le_trans HBS.out (Nat.le_trans HL.out.size hk))); (case aO => exact Kd.N_below HO.out HL.out); (case aB => exact HB0.out.trans (HL.out.mono HBS.out)); (case aS => exact Nat.le_trans HBS.out HL.out.size); (case aL => omega); intro v1 w9 ho9 hb9 hg9 hat9; have N9 := Aside0.mk ho9; have B9 := Aside0.mk hb9; have L9 := Aside0.mk (Left.ahead HL.out ⟨hg9, hat9⟩); clear ho9 hb9 hg9 hat9))
    go_ret
    exact ⟨_, rfl, (by rw [← e1.out]; exact N9.out), B9.out, L9.out⟩
theorem F_tag {W : World} {ok : Nat → Prop} {A : Option Addr} {n : Nat} {l : List S25} (h : Kd.F k25 W ok A n l) (i : Int) (h0 : 0 ≤ i) (h1 : i < n) : ∃ ad A3 c3, A = some ad ∧ W.cell? (ad.add (i.toNat * 4)) = some (.string (rd_T25 l i).f0) ∧ W.cell? ⟨(ad.add (i.toNat * 4)).block, (ad.add (i.toNat * 4)).off + 1, none⟩ = some (.string (rd_T25 l i).f1) ∧ W.cell? ⟨(ad.add (i.toNat * 4)).block, (ad.add (i.toNat * 4)).off + 2, none⟩ = some (.string (rd_T25 l i).f2) ∧ W.cell? ⟨(ad.add (i.toNat * 4)).block, (ad.add (i.toNat * 4)).off + 3, none⟩ = some (.slice A3 (rd_T25 l i).f3.length c3) ∧ (rd_T25 l i).f3.length ≤ c3 ∧ Kd.F Kd.string W ok A3 (rd_T25 l i).f3.length (rd_T25 l i).f3 := by
  obtain ⟨ad, c, e, _, hK, hc0, _⟩ := Kd.F_get h z25 i h0 h1
  have hc : ∀ j u, c[j]? = some u → W.cell? (ad.add (i.toNat * 4 + j)) = some u := hc0
  obtain ⟨A3, c3, rfl, l3, g3⟩ := k25_open (Kd.FK_now hK)
  refine ⟨ad, A3, c3, e, hc 0 _ rfl, by rw [← add_field _ _ 1 (by omega)]; exact hc 1 _ rfl, by rw [← add_field _ _ 2 (by omega)]; exact hc 2 _ rfl, by rw [← add_field _ _ 3 (by omega)]; exact hc 3 _ rfl, l3, fun W' hW => ?_⟩
  obtain ⟨A3', c3', e3, _, g3'⟩ := k25_open (hK W' hW)
  injection e3 with _ e3
  injection e3 with _ e3
  injection e3 with _ e3
  injection e3 with e3 _
  injection e3 with e3 _ _
  rw [e3]
  exact g3'
def partsT (t : S25) : List ByteArray := partsL t.f0 t.f1 t.f2 t.f3
theorem fit_t (x t : S25) (hx : SmallT x) (ht : SmallT t) (b : Bool) (h : begB (partsT x) (partsT t) = b) : tag_Fit.f x.f0 x.f1 x.f2 x.f3 t.f0 t.f1 t.f2 t.f3 = some b := by
  unfold tag_Fit.f
  rw [if_pos ⟨hx.2, ht.2⟩, ← h]
  rfl
def fitS (t : S25) (o : List S25) (x : S25) : List S25 := if begB (partsT x) (partsT t) = true then addT o x else o
def fitT (l there : List S25) (t : S25) : List S25 := there.foldl (fitS t) (if hasT there t = true then addT l t else l)
theorem addT_small {l : List S25} {t : S25} (hl : ∀ x ∈ l, SmallT x) (ht : SmallT t) : (∀ x ∈ addT l t, SmallT x) ∧ (addT l t).length ≤ l.length + 1 := by
  unfold addT
  split
  · exact ⟨hl, Nat.le_succ _⟩
  · refine ⟨fun x hx => ?_, by simp⟩
    rcases List.mem_append.1 hx with hx | hx
    · exact hl x hx
    · simp only [List.mem_singleton] at hx
      subst hx; exact ht
theorem Left.step {w W W1 : World} {v v1 : Value} (h : Left w W v v1) (hb : Below W.heap.size W W1) : Left w W1 v v1 := h.trans ((Left.refl W1 v1).ahead hb)
/-- The row that is being made: v holds xs, and nothing else is touched. -/
structure OUT (w0 w : World) (ok : Nat → Prop) (v0 : Value) (W : World) (v : Value) (xs : List S25) : Prop where
  row : Kd.N k25 25 W w0.heap.size ok v xs
  bel : Below w0.heap.size w0 W
  left : Left w W v0 v
  small : ∀ x ∈ xs, SmallT x
theorem OUT.step {w0 w W W1 : World} {ok : Nat → Prop} {v0 v : Value} {xs : List S25} (h : OUT w0 w ok v0 W v xs) (hb : Below W.heap.size W W1) : OUT w0 w ok v0 W1 v xs := ⟨Kd.N_below h.row hb, h.bel.trans (hb.mono h.bel.size), h.left.step hb, h.small⟩
/-- A box of the call's own, none of them the row. -/
structure BOX (W : World) (v : Value) (g : Nat) (t : S25) (A : Option Addr) (c : Nat) : Prop where
  box : W.heap[g]? = some (.cells #[.string t.f0, .string t.f1, .string t.f2, .slice A t.f3.length c] 25 (0, 0))
  ne : some g ≠ v.ownBlock
theorem BOX.step {W W1 : World} {v : Value} {g : Nat} {t : S25} {A : Option Addr} {c : Nat} (h : BOX W v g t A c) (hb : Below W.heap.size W W1) : BOX W1 v g t A c := ⟨blk_below h.box hb, h.ne⟩
theorem BOX.left {W W1 : World} {v v1 : Value} {g : Nat} {t : S25} {A : Option Addr} {c : Nat} (h : BOX W v g t A c) (k : Left W W1 v v1) : BOX W1 v1 g t A c := ⟨(k.box h.box h.ne).1, (k.box h.box h.ne).2⟩
theorem OUT.fresh {w0 w W : World} {ok : Nat → Prop} {v0 v : Value} {xs : List S25} (h : OUT w0 w ok v0 W v xs) {g : Nat} (hg : W.heap.size ≤ g) : some g ≠ v.ownBlock := fun e => by
  have := Kd.N_lt h.row g e.symm
  omega
/-- A box is made and filled: no elder block is touched. -/
theorem made4 {W w9 : World} {g : Nat} (t : S25) (A : Option Addr) (c : Nat) (hb : Below W.heap.size W w9) (hg : g = W.heap.size) : Below W.heap.size W (put4 w9 g t A c) := put4_below t A c hb (by omega)
set_option maxHeartbeats 8000000 in
set_option maxRecDepth 100000 in
theorem nego_fitted.calls (ok : Nat → Prop) (A : Option Addr) (c : Nat) (l : List S25) (A1 : Option Addr) (c1 : Nat) (there : List S25) (t : S25) (A3 : Option Addr) (c3 : Nat) (r : List S25) (hr : fitT l there t = r) (w0 w : World) (ho : Kd.N k25 25 w w0.heap.size ok (.slice A l.length c) l)
    (hb0 : Below w0.heap.size w0 w) (hth : Kd.F k25 w (fun k => ok k ∧ some k ≠ (Value.slice A l.length c).ownBlock) A1 there.length there) (hc1 : there.length ≤ c1) (ht : Kd.F Kd.string w (fun k => ok k ∧ some k ≠ (Value.slice A l.length c).ownBlock) A3 t.f3.length t.f3) (hc3 : t.f3.length ≤ c3) (hfresh : ∀ k, w0.heap.size ≤ k → ok k) (hs : ∀ x ∈ l, SmallT x) (hs1 : ∀ x ∈ there, SmallT x) (hst : SmallT t) (hl : l.length + there.length + 1 ≤ 1000000) :
    Calls Tryd.prog 55 #[.slice A l.length c, .slice A1 there.length c1, .agg #[.string t.f0, .string t.f1, .string t.f2, .slice A3 t.f3.length c3]] w fun e w' => ∃ v1, e = .returned v1 ∧ Kd.N k25 25 w' w0.heap.size ok v1 r ∧ Below w0.heap.size w0 w' ∧ Left w w' (.slice A l.length c) v1 := by
  have hu25 := Tryd.underlying25
  have HO := Aside0.mk (show OUT w0 w ok (Value.slice A l.length c) w (Value.slice A l.length c) l from ⟨ho, hb0, Left.refl _ _, hs⟩)
  have HTH := Aside0.mk hth
  have HF := Aside0.mk ht
  have HS1 := Aside0.mk hs1
  have HST := Aside0.mk hst
  have HFR := Aside0.mk hfresh
  have HR := Aside0.mk hr
  clear ho hb0 hth ht hs hs1 hst hfresh hr
  obtain ⟨b0, hb0⟩ : ∃ b0, hasT there t = b0 := ⟨_, rfl⟩
  have CH := Aside0.mk hb0
  clear hb0
  obtain ⟨o1, ho1⟩ : ∃ o1, (if hasT there t = true then addT l t else l) = o1 := ⟨_, rfl⟩
  have HO1 := Aside0.mk ho1
  clear ho1
  have HR1 := Aside0.mk (show there.foldl (fitS t) o1 = r by rw [← HO1.out, ← HR.out]; rfl)
  clear HR
  go_enter Tryd.func55, Tryd.ntmps55
  go_upto_if 11 with (first | ((with_reducible refine gate_dst (N := 5) rfl ?_); refine box_event ?hg (N := 5) ?hd (cs := #[.string t.f0, .string t.f1, .string t.f2, .slice A3 t.f3.length c3]) (t := 25) ?hr ?_; (case hd => rfl); (case hg => rfl); (case hr => first | (go_simp; done) | (go_simp; rfl)); intro gb5 hg w3 hbox hb; have n0_ := Aside0.mk (HO.out.step hb); have n1_ := Aside0.mk (show BOX w3 (Value.slice A l.length c) gb5 t A3 c3 from ⟨hbox, HO.out.fresh (Nat.le_of_eq hg.symm)⟩); clear HO hb hbox hg; have HO := n0_; have BX5 := n1_; clear n0_ n1_; have hcz0 : w3.cell? ⟨gb5, 0, none⟩ = some (.string t.f0) := (blk_cell BX5.out.box 0).trans rfl; have hcz1 : w3.cell? ⟨gb5, 1, none⟩ = some (.string t.f1) := (blk_cell BX5.out.box 1).trans rfl; have hcz2 : w3.cell? ⟨gb5, 2, none⟩ = some (.string t.f2) := (blk_cell BX5.out.box 2).trans rfl; have hcz3 : w3.cell? ⟨gb5, 3, none⟩ = some (.slice A3 t.f3.length c3) := (blk_cell BX5.out.box 3).trans rfl) | ((with_reducible refine gate_callee (f := 56) rfl ?_); refine goesL_ (some 11) rfl rfl Tryd.func56 (by kernel_rfl) rfl #[.slice A1 there.length c1, .agg #[.string t.f0, .string t.f1, .string t.f2, .slice A3 t.f3.length c3]] rfl (by (try simp only [List.map_toArray, List.map_cons, List.map_nil]); first | done | rfl | (simp only [List.length_drop, List.length_take]; rfl)) ?_; (with_reducible refine (nego_has.calls2 A1 c1 there t A3 c3 b0 CH.out _ (Kd.F_now (HO.out.left.far HTH.out)) hc1 (Kd.F_now (HO.out.left.far HF.out)) hc3 HS1.out HST.out (by omega)).mono ?_); rintro e w5 ⟨rfl, hb⟩; refine ⟨_, rfl, ?_⟩; have n0_ := Aside0.mk (HO.out.step hb); have n1_ := Aside0.mk (BX5.out.step hb); clear HO BX5 hb; have HO := n0_; have BX5 := n1_; clear n0_ n1_ hcz0 hcz1 hcz2 hcz3; have hcy0 : w5.cell? ⟨gb5, 0, none⟩ = some (.string t.f0) := (blk_cell BX5.out.box 0).trans rfl; have hcy1 : w5.cell? ⟨gb5, 1, none⟩ = some (.string t.f1) := (blk_cell BX5.out.box 1).trans rfl; have hcy2 : w5.cell? ⟨gb5, 2, none⟩ = some (.string t.f2) := (blk_cell BX5.out.box 2).trans rfl; have hcy3 : w5.cell? ⟨gb5, 3, none⟩ = some (.slice A3 t.f3.length c3) := (blk_cell BX5.out.box 3).trans rfl))
  (try simp only [Act.put, List.setIfInBounds_toArray, List.set_cons_zero, List.set_cons_succ])
  go_cut [0] (fun v0 wc => ∃ (A' : Option Addr) (c' : Nat), v0 = .slice A' o1.length c' ∧ Aside0 (OUT w0 w ok (Value.slice A l.length c) wc (.slice A' o1.length c') o1) ∧ Aside0 (BOX wc (.slice A' o1.length c') gb5 t A3 c3))
  case first =>
    cases b0 with
    | true =>
      have e1 : o1 = addT l t := by rw [← HO1.out, if_pos CH.out]
      have E1 := Aside0.mk e1
      clear e1
      go_wp2_with (first | ((with_reducible refine gate_callee (f := 57) rfl ?_); refine goesL_ (some 14) rfl rfl Tryd.func57 (by kernel_rfl) rfl #[.slice A l.length c, .agg #[.string t.f0, .string t.f1, .string t.f2, .slice A3 t.f3.length c3]] rfl (by (try simp only [List.map_toArray, List.map_cons, List.map_nil]); first | done | rfl | (simp only [List.length_drop, List.length_take]; rfl)) ?_; (with_reducible refine (nego_add.calls w0.heap.size ok A c l t A3 c3 _ rfl w0 _ HO.out.row (HO.out.left.far HF.out) (by assumption) HFR.out HO.out.bel.size HO.out.bel HO.out.small HST.out (by omega)).mono ?_); rintro e w6 ⟨v1, rfl, hN, hB, hL⟩; refine ⟨_, rfl, ?_⟩; obtain ⟨A8, c8, rfl⟩ := Kd.N_slice hN; have n0_ := Aside0.mk (OUT.mk hN hB (HO.out.left.trans hL) (addT_small HO.out.small HST.out).1); have m0_ := Aside0.mk (BX5.out.left hL); clear HO hN hB hL BX5; have HO := n0_; have BX5 := m0_; clear n0_ m0_))
      go_meet
      case rel => exact ⟨A8, c8, by rw [E1.out], by rw [E1.out]; exact HO, by rw [E1.out]; exact BX5⟩
    | false =>
      have e1 : o1 = l := by rw [← HO1.out, if_neg (by rw [CH.out]; simp)]
      have E1 := Aside0.mk e1
      clear e1
      go_wp2
      go_meet
      case rel => exact ⟨A, c, by rw [E1.out], by rw [E1.out]; exact HO, by rw [E1.out]; exact BX5⟩
  case rest =>
    clear HO BX5 hcy0 hcy1 hcy2 hcy3
    obtain ⟨A', c', rfl, HO, BX5⟩ := hcut
    have ho1l : o1.length ≤ l.length + 1 := by
      rw [← HO1.out]
      split
      · unfold addT; split <;> simp
      · omega
    go_wp2
    go_loopg [0, 17] (there.length + 1) (fun kq v0 v17 w' => ∃ (x17 : Int) (j : Nat) (xs : List S25) (A' : Option Addr) (c' : Nat), v0 = .slice A' xs.length c' ∧ v17 = .int .i64 x17 ∧ Aside0 (x17 = j ∧ j ≤ there.length ∧ kq = there.length - j + 1) ∧ Aside0 ((there.drop j).foldl (fitS t) xs = r) ∧ Aside0 (xs.length ≤ l.length + 1 + j) ∧ Aside0 (OUT w0 w ok (Value.slice A l.length c) w' (.slice A' xs.length c') xs) ∧ Aside0 (BOX w' (.slice A' xs.length c') gb5 t A3 c3))
    case atStart => exact ⟨0, 0, o1, A', c', rfl, rfl, ⟨rfl, Nat.zero_le _, rfl⟩, HR1, ⟨by omega⟩, HO, BX5⟩
    case round =>
      clear HO BX5
      obtain ⟨x17, j, xs, A', c', rfl, rfl, HJ, HH, HXL, HO, BX5⟩ := hrel
      by_cases hi : x17 < (there.length : Int)
      case neg =>
        have d1 : decide (x17 < (there.length : Int)) = false := decide_eq_false hi
        have e1 := Aside0.mk (show xs = r by
          have k := HH.out
          rw [List.drop_of_length_le (by have := HJ.out; omega)] at k
          exact k)
        go_wp2
        go_ret
        exact ⟨_, rfl, (by rw [← e1.out]; exact HO.out.row), HO.out.bel, HO.out.left⟩
      have d1 : decide (x17 < (there.length : Int)) = true := decide_eq_true hi
      have hjl : j < there.length := by have := HJ.out; omega
      have hx0 : 0 ≤ x17 := by have := HJ.out; omega
      obtain ⟨ad, A4, c4, e4, hx_0, hx_1, hx_2, hx_3, hl4, hi4⟩ := F_tag (HO.out.left.far HTH.out) x17 hx0 hi
      cases e4
      obtain ⟨x, hx⟩ : ∃ x, rd_T25 there x17 = x := ⟨_, rfl⟩
      have hxj : there[j] = x := by
        rw [← hx, HJ.out.1]
        unfold rd_T25
        simp [List.getD_eq_getElem?_getD, List.getElem?_eq_getElem hjl]
      rw [hx] at hx_0 hx_1 hx_2 hx_3 hl4 hi4
      have HXS := Aside0.mk (HS1.out x (by rw [← hxj]; exact List.getElem_mem hjl))
      have HF4 := Aside0.mk hi4
      have HD := Aside0.mk (show (there.drop (j + 1)).foldl (fitS t) (fitS t xs x) = r by
        have k := HH.out
        rw [List.drop_eq_getElem_cons hjl, hxj] at k
        exact k)
      clear hx hxj hi4
      have pi : (0 ≤ x17) = True := eq_true hx0
      have pl : (x17 < (there.length : Int)) = True := eq_true hi
      have hw1 : wrap64 (x17 + 1) = x17 + 1 := wrap_id (by omega) (by omega)
      have hxl : xs.length ≤ 999999 := by have := HXL.out; have := HJ.out; omega
      go_upto_region 6 with (first | ((with_reducible refine gate_dst (N := 8) rfl ?_); refine box_event ?hg (N := 8) ?hd (cs := #[.string (⟨#[]⟩ : ByteArray), .string (⟨#[]⟩ : ByteArray), .string (⟨#[]⟩ : ByteArray), .slice none 0 0]) (t := 25) ?hr ?_; (case hd => rfl); (case hg => rfl); (case hr => first | (go_simp; done) | (go_simp; rfl)); intro gb8 hg w9 hbox hb; have HBX := Aside0.mk hb; have HG := Aside0.mk hg; have BK8 := Aside0.mk hbox; clear hb hg hbox; have hz0 : w9.cell? ⟨gb8, 0, none⟩ = some (.string (⟨#[]⟩ : ByteArray)) := (blk_cell BK8.out 0).trans rfl; have hzf0 := blk_frozen BK8.out 0; have hz1 : w9.cell? ⟨gb8, 1, none⟩ = some (.string (⟨#[]⟩ : ByteArray)) := (blk_cell BK8.out 1).trans rfl; have hzf1 := blk_frozen BK8.out 1; have hz2 : w9.cell? ⟨gb8, 2, none⟩ = some (.string (⟨#[]⟩ : ByteArray)) := (blk_cell BK8.out 2).trans rfl; have hzf2 := blk_frozen BK8.out 2; have hz3 : w9.cell? ⟨gb8, 3, none⟩ = some (.slice none 0 0) := (blk_cell BK8.out 3).trans rfl; have hzf3 := blk_frozen BK8.out 3))
      (try simp only [Act.put, List.setIfInBounds_toArray, List.set_cons_zero, List.set_cons_succ])
      obtain ⟨w10, hw⟩ : ∃ w10 : World, w10 = put4 w9 gb8 x A4 c4 := ⟨_, rfl⟩
      unfold put4 at hw
      rw [← hw]
      have hw' : w10 = put4 w9 gb8 x A4 c4 := hw
      have hb10 : Below wr.heap.size wr w10 := by rw [hw']; exact made4 x A4 c4 HBX.out HG.out
      have BX8 := Aside0.mk (show BOX w10 (.slice A' xs.length c') gb8 x A4 c4 from ⟨by rw [hw']; exact put4_box x A4 c4 BK8.out, HO.out.fresh (Nat.le_of_eq HG.out.symm)⟩)
      have n0_ := Aside0.mk (HO.out.step hb10)
      have n1_ := Aside0.mk (BX5.out.step hb10)
      have n2_ := Aside0.mk (Kd.F_below HF4.out hb10)
      clear hw hw' hb10 HO BX5 HF4 BK8 HBX HG hz0 hz1 hz2 hz3 hzf0 hzf1 hzf2 hzf3 hx_0 hx_1 hx_2 hx_3
      have HO := n0_
      have BX5 := n1_
      have HF4 := n2_
      clear n0_ n1_ n2_
      have ha0 : w10.cell? ⟨gb8, 0, none⟩ = some (.string x.f0) := (blk_cell BX8.out.box 0).trans rfl
      have ha1 : w10.cell? ⟨gb8, 1, none⟩ = some (.string x.f1) := (blk_cell BX8.out.box 1).trans rfl
      have ha2 : w10.cell? ⟨gb8, 2, none⟩ = some (.string x.f2) := (blk_cell BX8.out.box 2).trans rfl
      have ha3 : w10.cell? ⟨gb8, 3, none⟩ = some (.slice A4 x.f3.length c4) := (blk_cell BX8.out.box 3).trans rfl
      have hb0 : w10.cell? ⟨gb5, 0, none⟩ = some (.string t.f0) := (blk_cell BX5.out.box 0).trans rfl
      have hb1 : w10.cell? ⟨gb5, 1, none⟩ = some (.string t.f1) := (blk_cell BX5.out.box 1).trans rfl
      have hb2 : w10.cell? ⟨gb5, 2, none⟩ = some (.string t.f2) := (blk_cell BX5.out.box 2).trans rfl
      have hb3 : w10.cell? ⟨gb5, 3, none⟩ = some (.slice A3 t.f3.length c3) := (blk_cell BX5.out.box 3).trans rfl
      by_cases cf : begB (partsT x) (partsT t) = true
      case pos =>
        have CF := Aside0.mk cf
        have HD1 := Aside0.mk (show (there.drop (j + 1)).foldl (fitS t) (addT xs x) = r by have k := HD.out; unfold fitS at k; rw [if_pos cf] at k; exact k)
        clear cf
        go_wp2_with (first | ((with_reducible refine gate_callee (f := 19) rfl ?_); refine goesL_ (some 23) rfl rfl Tryd.func19 (by kernel_rfl) rfl #[.agg #[.string x.f0, .string x.f1, .string x.f2, .slice A4 x.f3.length c4], .agg #[.string t.f0, .string t.f1, .string t.f2, .slice A3 t.f3.length c3]] rfl (by (try simp only [List.map_toArray, List.map_cons, List.map_nil]); first | done | rfl | (simp only [List.length_drop, List.length_take]; rfl)) ?_; (with_reducible refine (tag_Fit.calls x.f0 x.f1 x.f2 A4 c4 x.f3 t.f0 t.f1 t.f2 A3 c3 t.f3 true _ (Kd.F_now HF4.out) hl4 (Kd.F_now (HO.out.left.far HF.out)) hc3 (fit_t x t HXS.out HST.out _ CF.out)).mono ?_); rintro e w11 ⟨rfl, hb⟩; refine ⟨_, rfl, ?_⟩; have n0_ := Aside0.mk (HO.out.step hb); have n1_ := Aside0.mk (BX5.out.step hb); have n2_ := Aside0.mk (BX8.out.step hb); have n3_ := Aside0.mk (Kd.F_below HF4.out hb); clear HO BX5 BX8 HF4 hb ha0 ha1 ha2 ha3 hb0 hb1 hb2 hb3; have HO := n0_; have BX5 := n1_; have BX8 := n2_; have HF4 := n3_; clear n0_ n1_ n2_ n3_; have hd0 : w11.cell? ⟨gb8, 0, none⟩ = some (.string x.f0) := (blk_cell BX8.out.box 0).trans rfl; have hd1 : w11.cell? ⟨gb8, 1, none⟩ = some (.string x.f1) := (blk_cell BX8.out.box 1).trans rfl; have hd2 : w11.cell? ⟨gb8, 2, none⟩ = some (.string x.f2) := (blk_cell BX8.out.box 2).trans rfl; have hd3 : w11.cell? ⟨gb8, 3, none⟩ = some (.slice A4 x.f3.length c4) := (blk_cell BX8.out.box 3).trans rfl) | ((with_reducible refine gate_callee (f := 57) rfl ?_); refine goesL_ (some 26) rfl rfl Tryd.func57 (by kernel_rfl) rfl #[.slice A' xs.length c', .agg #[.string x.f0, .string x.f1, .string x.f2, .slice A4 x.f3.length c4]] rfl (by (try simp only [List.map_toArray, List.map_cons, List.map_nil]); first | done | rfl | (simp only [List.length_drop, List.length_take]; rfl)) ?_; (with_reducible refine (nego_add.calls w0.heap.size ok A' c' xs x A4 c4 _ rfl w0 _ HO.out.row (HF4.out) (by assumption) HFR.out HO.out.bel.size HO.out.bel HO.out.small HXS.out (by omega)).mono ?_); rintro e w12 ⟨v1, rfl, hN, hB, hL⟩; refine ⟨_, rfl, ?_⟩; obtain ⟨A8, c8, rfl⟩ := Kd.N_slice hN; have n0_ := Aside0.mk (OUT.mk hN hB (HO.out.left.trans hL) (addT_small HO.out.small HXS.out).1); have m0_ := Aside0.mk (BX5.out.left hL); have HO0 := Aside0.mk HO.out.small; clear HO hN hB hL BX5; have HO := n0_; have BX5 := m0_; clear n0_ m0_))
        go_roundg (there.length - j)
        case measure => have := HJ.out; omega
        case rel => exact ⟨x17 + 1, j + 1, addT xs x, A8, c8, rfl, by simp [hw1], ⟨by have := HJ.out; omega, by omega, by omega⟩, HD1, ⟨by have := HXL.out; have := (addT_small (l := xs) HO0.out HXS.out).2; omega⟩, HO, BX5⟩
      case neg =>
        have CF := Aside0.mk (Bool.eq_false_iff.mpr cf)
        have HD1 := Aside0.mk (show (there.drop (j + 1)).foldl (fitS t) xs = r by have k := HD.out; unfold fitS at k; rw [if_neg cf] at k; exact k)
        clear cf
        go_wp2_with (first | ((with_reducible refine gate_callee (f := 19) rfl ?_); refine goesL_ (some 23) rfl rfl Tryd.func19 (by kernel_rfl) rfl #[.agg #[.string x.f0, .string x.f1, .string x.f2, .slice A4 x.f3.length c4], .agg #[.string t.f0, .string t.f1, .string t.f2, .slice A3 t.f3.length c3]] rfl (by (try simp only [List.map_toArray, List.map_cons, List.map_nil]); first | done | rfl | (simp only [List.length_drop, List.length_take]; rfl)) ?_; (with_reducible refine (tag_Fit.calls x.f0 x.f1 x.f2 A4 c4 x.f3 t.f0 t.f1 t.f2 A3 c3 t.f3 false _ (Kd.F_now HF4.out) hl4 (Kd.F_now (HO.out.left.far HF.out)) hc3 (fit_t x t HXS.out HST.out _ CF.out)).mono ?_); rintro e w11 ⟨rfl, hb⟩; refine ⟨_, rfl, ?_⟩; have n0_ := Aside0.mk (HO.out.step hb); have n1_ := Aside0.mk (BX5.out.step hb); have n2_ := Aside0.mk (BX8.out.step hb); have n3_ := Aside0.mk (Kd.F_below HF4.out hb); clear HO BX5 BX8 HF4 hb ha0 ha1 ha2 ha3 hb0 hb1 hb2 hb3; have HO := n0_; have BX5 := n1_; have BX8 := n2_; have HF4 := n3_; clear n0_ n1_ n2_ n3_; have hd0 : w11.cell? ⟨gb8, 0, none⟩ = some (.string x.f0) := (blk_cell BX8.out.box 0).trans rfl; have hd1 : w11.cell? ⟨gb8, 1, none⟩ = some (.string x.f1) := (blk_cell BX8.out.box 1).trans rfl; have hd2 : w11.cell? ⟨gb8, 2, none⟩ = some (.string x.f2) := (blk_cell BX8.out.box 2).trans rfl; have hd3 : w11.cell? ⟨gb8, 3, none⟩ = some (.slice A4 x.f3.length c4) := (blk_cell BX8.out.box 3).trans rfl))
        go_roundg (there.length - j)
        case measure => have := HJ.out; omega
        case rel => exact ⟨x17 + 1, j + 1, xs, A', c', rfl, by simp [hw1], ⟨by have := HJ.out; omega, by omega, by omega⟩, HD1, ⟨by have := HXL.out; omega⟩, HO, BX5⟩
/-! One part less. -/
def lessS (x : S25) : S25 × Bool := (⟨(lessT x.f0 x.f1 x.f2 x.f3).1, (lessT x.f0 x.f1 x.f2 x.f3).2.1, (lessT x.f0 x.f1 x.f2 x.f3).2.2.1, (lessT x.f0 x.f1 x.f2 x.f3).2.2.2.1⟩, (lessT x.f0 x.f1 x.f2 x.f3).2.2.2.2)
def mT (x : S25) : Nat := x.f3.length + (if x.f2.toList = ([] : List UInt8) then 0 else 1) + (if x.f1.toList = ([] : List UInt8) then 0 else 1)
theorem lessS_small {x : S25} (h : SmallT x) : SmallT (lessS x).1 := by
  obtain ⟨⟨h1, h2, h3, h4⟩, h5⟩ := h
  unfold lessS lessT
  split
  · exact ⟨⟨h1, h2, h3, fun v hv => h4 v (List.dropLast_subset _ hv)⟩, by show x.f3.dropLast.length ≤ 900; rw [List.length_dropLast]; omega⟩
  · split
    · split
      · exact ⟨⟨Nat.zero_le _, Nat.zero_le _, Nat.zero_le _, fun v hv => by cases hv⟩, Nat.zero_le _⟩
      · exact ⟨⟨h1, Nat.zero_le _, h3, h4⟩, h5⟩
    · exact ⟨⟨h1, h2, Nat.zero_le _, h4⟩, h5⟩
theorem lessS_m {x : S25} (h : (lessS x).2 = true) : mT (lessS x).1 < mT x := by
  have e0 : (⟨#[]⟩ : ByteArray).toList = ([] : List UInt8) := tl _
  by_cases hv : 0 < x.f3.length
  · have e : lessS x = (⟨x.f0, x.f1, x.f2, x.f3.dropLast⟩, true) := by unfold lessS lessT; rw [if_pos hv]
    rw [e]
    show x.f3.dropLast.length + (if x.f2.toList = ([] : List UInt8) then 0 else 1) + (if x.f1.toList = ([] : List UInt8) then 0 else 1) < x.f3.length + (if x.f2.toList = ([] : List UInt8) then 0 else 1) + (if x.f1.toList = ([] : List UInt8) then 0 else 1)
    rw [List.length_dropLast]
    omega
  · by_cases h1 : x.f2.toList = ([] : List UInt8)
    · by_cases h2 : x.f1.toList = ([] : List UInt8)
      · have e : (lessS x).2 = false := by unfold lessS lessT; rw [if_neg hv, if_pos h1, if_pos h2]; rfl
        rw [e] at h
        cases h
      · have e : lessS x = (⟨x.f0, (⟨#[]⟩ : ByteArray), x.f2, x.f3⟩, true) := by unfold lessS lessT; rw [if_neg hv, if_pos h1, if_neg h2]
        rw [e]
        show x.f3.length + (if x.f2.toList = ([] : List UInt8) then 0 else 1) + (if (⟨#[]⟩ : ByteArray).toList = ([] : List UInt8) then 0 else 1) < x.f3.length + (if x.f2.toList = ([] : List UInt8) then 0 else 1) + (if x.f1.toList = ([] : List UInt8) then 0 else 1)
        rw [if_pos e0, if_neg h2]
        omega
    · have e : lessS x = (⟨x.f0, x.f1, (⟨#[]⟩ : ByteArray), x.f3⟩, true) := by unfold lessS lessT; rw [if_neg hv, if_neg h1]
      rw [e]
      show x.f3.length + (if (⟨#[]⟩ : ByteArray).toList = ([] : List UInt8) then 0 else 1) + (if x.f1.toList = ([] : List UInt8) then 0 else 1) < x.f3.length + (if x.f2.toList = ([] : List UInt8) then 0 else 1) + (if x.f1.toList = ([] : List UInt8) then 0 else 1)
      rw [if_pos e0, if_neg h1]
      omega
theorem mT_le {x : S25} (h : SmallT x) : mT x ≤ 902 := by
  have := h.2
  unfold mT
  split <;> split <;> omega
theorem less_f2 (l s g : ByteArray) (vs : List ByteArray) (hv : vs.length ≤ 1000) : PTLess.tag_Tag_Less.f l s g vs = some (lessT l s g vs) := by
  unfold PTLess.tag_Tag_Less.f lessT
  by_cases h : 0 < vs.length
  · have e : wrap64 ((vs.length : Int) - 1) = ((vs.length - 1 : Nat) : Int) := by rw [wrap_id (by omega) (by omega)]; omega
    rw [if_pos (by omega), if_pos h, e, if_pos (by omega), if_pos (by omega), Int.toNat_natCast]
    have e2 : slices_Clone.f (vs.take (vs.length - 1)) = some vs.dropLast := by
      unfold slices_Clone.f
      rw [List.dropLast_eq_take]
      first | rfl | (rw [if_pos (by rw [List.length_take]; omega)])
    rw [e2, Option.bind_some]
  · rw [if_neg (by omega), if_neg h]
    by_cases a : g.toList = ([] : List UInt8)
    · rw [if_pos a, if_pos a]
      by_cases b : s.toList = ([] : List UInt8)
      · rw [if_pos b, if_pos b]; rfl
      · rw [if_neg b, if_neg b]
    · rw [if_neg a, if_neg a]
theorem less_calls (x : S25) (okp : Nat → Prop) (A : Option Addr) (c : Nat) (y : S25) (b : Bool) (hy : lessS x = (y, b)) (w : World) (hF : Kd.F Kd.string w okp A x.f3.length x.f3) (hc : x.f3.length ≤ c) (hx : SmallT x) :
    Calls Tryd.prog 20 #[.agg #[.string x.f0, .string x.f1, .string x.f2, .slice A x.f3.length c]] w fun e w' => ∃ A' c', e = .returned (.tuple #[.agg #[.string y.f0, .string y.f1, .string y.f2, .slice A' y.f3.length c'], .bool b]) ∧ Kd.F Kd.string w' (fun k => okp k ∨ w.heap.size ≤ k) A' y.f3.length y.f3 ∧ y.f3.length ≤ c' ∧ Below w.heap.size w w' := by
  have h5 := hx.2
  unfold lessS at hy
  injection hy with hy hb
  subst hy hb
  refine (PTLess.tag_Tag_Less.calls x.f0 x.f1 x.f2 okp A c x.f3 (lessT x.f0 x.f1 x.f2 x.f3).1 (lessT x.f0 x.f1 x.f2 x.f3).2.1 (lessT x.f0 x.f1 x.f2 x.f3).2.2.1 (lessT x.f0 x.f1 x.f2 x.f3).2.2.2.1 (lessT x.f0 x.f1 x.f2 x.f3).2.2.2.2 w (Kd.V_mk hc hF) (less_f2 _ _ _ _ (by omega))).mono ?_
  rintro e w' ⟨v, rfl, hv, hb⟩
  obtain ⟨A', c', rfl⟩ := Kd.V_slice hv
  exact ⟨A', c', rfl, Kd.V_F hv, (Kd.V_at hv).2.1, hb⟩
/-- With fewer and fewer parts: those that are there. -/
def downT : Nat → List S25 → List S25 → S25 → Bool → List S25
  | 0, _, o, _, _ => o
  | n + 1, there, o, y, b => if b = true then downT n there (if hasT there y = true then addT o y else o) (lessS y).1 (lessS y).2 else o
def wishT (there : List S25) (o : List S25) (x : S25) : List S25 := downT (mT (lessS x).1 + 1) there (fitT o there x) (lessS x).1 (lessS x).2
def chainT (wishes there : List S25) (last : S25) : List S25 := addT (wishes.foldl (wishT there) []) last
theorem fitT_small {l there : List S25} {t : S25} (hl : ∀ x ∈ l, SmallT x) (hth : ∀ x ∈ there, SmallT x) (ht : SmallT t) : (∀ x ∈ fitT l there t, SmallT x) ∧ (fitT l there t).length ≤ l.length + 1 + there.length := by
  have key : ∀ (m o : List S25), (∀ x ∈ m, SmallT x) → (∀ x ∈ o, SmallT x) → (∀ x ∈ m.foldl (fitS t) o, SmallT x) ∧ (m.foldl (fitS t) o).length ≤ o.length + m.length := by
    intro m
    induction m with
    | nil => intro o _ ho; exact ⟨ho, Nat.le_refl _⟩
    | cons x m ih =>
      intro o hm ho
      have hx : (∀ y ∈ fitS t o x, SmallT y) ∧ (fitS t o x).length ≤ o.length + 1 := by
        unfold fitS
        split
        · exact addT_small ho (hm x (by simp))
        · exact ⟨ho, Nat.le_succ _⟩
      have := ih (fitS t o x) (fun y hy => hm y (by simp [hy])) hx.1
      refine ⟨this.1, ?_⟩
      have h2 := this.2
      rw [List.foldl_cons, List.length_cons]
      omega
  unfold fitT
  split
  · have a := addT_small hl ht
    have := key there _ hth a.1
    exact ⟨this.1, by have := this.2; omega⟩
  · have := key there _ hth hl
    exact ⟨this.1, by have := this.2; omega⟩
end Go.Proofs.YtpedajhcfkohlaaDoorHand
