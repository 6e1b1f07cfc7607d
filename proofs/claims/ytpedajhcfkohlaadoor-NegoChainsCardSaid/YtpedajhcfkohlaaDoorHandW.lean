import Derived.Test.YtpedajhcfkohlaaDoorHandF
import Derived.Maps.OwnSet
/- The walk of the law's own reading of a tag (a map of what was seen among it). -/
namespace Go.Proofs.YtpedajhcfkohlaaDoorHand
open Go.RowKit Go.Maps Go.Proofs.YtpedajhcfkohlaaDoor.PFit Go.Proofs.YtpedajhcfkohlaaDoor.Pure Go.Proofs.YtpedajhcfkohlaaDoorW.PrintWords Go.Proofs.YtpedajhcfkohlaaDoorW.PrintLast Go.Proofs.YtpedajhcfkohlaaDoorW.PrintMore
attribute [local go_sem] max2_int min2_int max_two min_two max_three min_three max_four min_four
set_option linter.unusedVariables false
set_option linter.unusedSimpArgs false
theorem key9 : Keyed Tryd.prog 9 := string_keyed Tryd.underlying9
theorem zero4 (w : World) : (zeroValue 4).run Tryd.prog w = .ok (.bool false) w := by kernel_rfl
/-- Block b is a map of texts: those of the list l stand in it. -/
def SetAs (W : World) (b : Nat) (l : List ByteArray) : Prop := ∃ (D : DataW Unit), W.ownsMap Tryd.prog 9 (plainElem Tryd.prog 4) b l.length D ∧ IsMap D ∧ ∀ x : ByteArray, D.atKey (.string x.data.toList) (.lit (.bool false)) = .lit (.bool (hasS l x))
theorem SetAs.below {W W1 : World} {b : Nat} {l : List ByteArray} (h : SetAs W b l) (hb : Below W.heap.size W W1) : SetAs W1 b l := by
  obtain ⟨D, h1, h2, h3⟩ := h
  have hlt := h1.lt
  obtain ⟨es, clock, hh, F, hs, hD⟩ := h1
  exact ⟨D, ⟨es, clock, (hb.block b hlt).trans hh, F, hs, hD⟩, h2, h3⟩
theorem SetAs.made (w : World) : SetAs (w.alloc (.map #[] 0)) w.heap.size [] := ⟨_, World.ownsMap_made w _ _ _, isMap_empty, fun x => rfl⟩
theorem SetAs.cells {W : World} {b g : Nat} {l : List ByteArray} {cs : Array Value} {t : TypeId} (h : SetAs W b l) (hg : W.heap[g]? = some (.cells cs t (0, 0))) : g ≠ b := by
  obtain ⟨D, ⟨es, clock, hh, _⟩, _⟩ := h
  intro e
  rw [e, hh] at hg
  cases hg
theorem has_key (x : ByteArray) (hx : x.size ≤ 1000) : keyOf Tryd.prog 9 (.string x) = some (.string x.data.toList) := Go.WideMaps.keyOf_string_mk Tryd.underlying9 (by unfold maxLen; omega)
theorem bool_inv {H : Type} {P : Program} {e : TypeId} (he : P.underlying e = some .bool) {v : Value} {z : DataW H × List MemPlace} (h : plainElem P e v = some z) : ∃ x : Bool, v = .bool x ∧ z = (.lit (.bool x), []) := by
  unfold plainElem at h
  rw [he] at h
  cases v <;> simp at h
  exact ⟨_, rfl, h.symm⟩
set_option maxRecDepth 100000 in
theorem SetAs.look {W : World} {b : Nat} {l : List ByteArray} (h : SetAs W b l) (x : ByteArray) (hx : x.size ≤ 1000) : (Instr.lookup 59 (.map (some b)) (.string x) false).run Tryd.prog W = .ok (.bool (hasS l x)) W := by
  obtain ⟨D, h1, h2, h3⟩ := h
  obtain ⟨v, ps, hrun, hv⟩ := h1.lookup key9 Tryd.underlying59 (zero4 W) (plainElem_bool Tryd.underlying4 false) (has_key x hx)
  rw [h3 x] at hv
  obtain ⟨y, rfl, hy⟩ := bool_inv Tryd.underlying4 hv
  injection hy with hy _
  injection hy with hy
  injection hy with hy
  rw [hrun, hy]
theorem hasS_snoc (l : List ByteArray) (x y : ByteArray) : hasS (l ++ [x]) y = (hasS l y || decide (y.toList = x.toList)) := by
  unfold hasS
  rw [List.any_append]
  simp
theorem SetAs.put {W1 : World} {b : Nat} {l : List ByteArray} (D : DataW Unit) (h2 : IsMap D) (h3 : ∀ x : ByteArray, D.atKey (.string x.data.toList) (.lit (.bool false)) = .lit (.bool (hasS l x))) (x : ByteArray) (h1 : W1.ownsMap Tryd.prog 9 (plainElem Tryd.prog 4) b (l.length + 1) (D.put (.string x.data.toList) (.lit (.bool true)))) : SetAs W1 b (l ++ [x]) := by
  refine ⟨_, by rw [List.length_append]; exact h1, h2.put _ _, fun y => ?_⟩
  rw [hasS_snoc]
  by_cases e : y.data.toList = x.data.toList
  · rw [e, atKey_put_same h2 (k := Lit.string x.data.toList) trivial]
    have : decide (y.toList = x.toList) = true := decide_eq_true (by rw [tl, tl, e])
    rw [this, Bool.or_true]
  · rw [atKey_put_other (fun k => by injection k with k; exact e k), h3 y]
    have : decide (y.toList = x.toList) = false := decide_eq_false (by rw [tl, tl]; exact e)
    rw [this, Bool.or_false]
set_option maxRecDepth 100000 in
theorem SetAs.store {W : World} {b : Nat} {l : List ByteArray} (h : SetAs W b l) (x : ByteArray) (hx : x.size ≤ 1000) (hl : l.length ≤ 1001) : ∃ W1, (Instr.mapUpdate 59 (.map (some b)) (.string x) (.bool true)).run Tryd.prog W = .ok () W1 ∧ SetAs W1 b (l ++ [x]) ∧ W.grownBy W1 (some b) := by
  obtain ⟨D, h1, h2, h3⟩ := h
  obtain ⟨W1, hrun, hown, hg⟩ := h1.update key9 Tryd.underlying59 (by unfold maxLen; omega) (has_key x hx) (plainElem_bool Tryd.underlying4 true)
  exact ⟨W1, hrun, SetAs.put D h2 h3 x hown, hg⟩
/-- What stays from step to step: the row of the pieces, the map, what was there before the call. -/
structure WF (w W : World) (g : Nat) (cs : Array Value) (b : Nat) (l : List ByteArray) : Prop where
  row : W.heap[g]? = some (.cells cs 9 (0, 0))
  set : SetAs W b l
  bel : Below w.heap.size w W
theorem WF.step {w W W1 : World} {g : Nat} {cs : Array Value} {b : Nat} {l : List ByteArray} (h : WF w W g cs b l) (hb : Below W.heap.size W W1) : WF w W1 g cs b l := ⟨blk_below h.row hb, h.set.below hb, below_step h.bel hb⟩
theorem WF.drew {w W : World} {g : Nat} {cs : Array Value} {b : Nat} {l : List ByteArray} (h : WF w W g cs b l) : WF w W.drew g cs b l := ⟨h.row, h.set.below ⟨rfl, rfl, rfl, Nat.le_refl _, fun _ _ => rfl⟩, below_drew1 h.bel⟩
theorem count_calls2 (s : ByteArray) (a b : Int) (h : cntL s = (a, b)) (hs : s.size ≤ 1000000) (w : World) : Calls Tryd.prog 43 #[.string s] w fun e w' => e = .returned (.tuple #[.int .i64 a, .int .i64 b]) ∧ Below w.heap.size w w' := by
  have := count_calls s hs w
  rw [h] at this
  exact this.mono (fun e w' ⟨he, hd⟩ => ⟨he, hd.below⟩)
def law03_Parse.T15 : Bool × List (List Nat × List Nat) := (true, [([], []), ([0], [0]), ([1], [1]), ([], []), ([3], [3]), ([4, 2], [4]), ([2, 5], [2, 5]), ([6, 5, 0, 1, 2, 3, 4, 5, 6], [0, 3, 6])])
def law03_Parse.B15 : List Nat := [0, 1, 3, 0, 8, 31, 63, 127]
def law03_Parse.f (s : ByteArray) : Option (ByteArray × Bool) := if s.size ≤ 1000 then some (LP (pcs s)) else none
theorem law03_Parse.tab15 : rtab .any (opsOf Tryd.f16 15) = law03_Parse.T15 := by kernel_rfl
theorem law03_Parse.bits15 : waitsOk law03_Parse.T15.2 law03_Parse.B15 = true := by kernel_rfl
/-- Round by round: what is left to be read. -/
def LR (l : List ByteArray) (j st : Nat) (seen : List ByteArray) (out : ByteArray) : ByteArray × Bool := if j = 0 then LP l else LS st seen out (l.drop j)
set_option maxHeartbeats 16000000 in
set_option maxRecDepth 100000 in
theorem law03_Parse.calls (a0 : ByteArray) (r1 : ByteArray) (r2 : Bool) (w : World) (h : law03_Parse.f a0 = some (r1, r2)) :
    Calls Tryd.prog 16 #[.string a0] w fun e w' => e = .returned (.tuple #[.string r1, .bool r2]) ∧ Below w.heap.size w w' := by
  have hmm := @run_makeMap Tryd.prog
  unfold law03_Parse.f at h
  by_cases hall : a0.size ≤ 1000
  case neg => rw [if_neg hall] at h; cases h
  rw [if_pos hall] at h
  obtain ⟨l, hl⟩ : ∃ l, pcs a0 = l := ⟨_, rfl⟩
  have hl0 : 0 < l.length := by rw [← hl]; exact (pcs_length a0).1
  have hl1 : l.length ≤ 1001 := by rw [← hl]; have := (pcs_length a0).2; omega
  have HSZ := Aside0.mk (show ∀ p ∈ l, p.size ≤ 1000 from fun p hp => by rw [← hl] at hp; exact Nat.le_trans (pcs_good a0 p hp).2 hall)
  have HSP := Aside0.mk (show law03_split.f a0 = some l by unfold law03_split.f; rw [if_pos (by omega), hl])
  rw [hl] at h
  have H := Aside0.mk (Option.some.inj h)
  clear h hl
  go_enter Tryd.func16, Tryd.ntmps16
  go_wp2_with (first | ((with_reducible refine gate_callee (f := 18) rfl ?_); refine goesL_ (some 14) rfl rfl Tryd.func18 (by kernel_rfl) rfl #[.string a0] rfl (by (try simp only [List.map_toArray, List.map_cons, List.map_nil]); first | done | rfl | (simp only [List.length_drop, List.length_take]; rfl)) ?_; (with_reducible refine (law03_split.calls a0 l _ HSP.out).mono ?_); rintro e w1 ⟨v, rfl, ho, hb⟩; refine ⟨_, rfl, ?_⟩; obtain ⟨ad, c, rfl⟩ := Kd.R_slice1 ho hl0; have HO := ho; have HS := Aside0.mk ((SetAs.made w).below hb); have HB := Aside0.mk (below_step (below_alloc (Below.refl w.heap.size w) _) hb); clear ho hb))
  obtain ⟨cellsP, hoP, hcl, hbP, hCP⟩ := row_block HO hl0
  have HW := Aside0.mk (WF.mk hoP HS.out HB.out)
  have HCP := Aside0.mk hCP
  have NB := Aside0.mk (HS.out.cells hoP)
  clear hoP hbP hCP HS HB HO
  go_loopg [4, 5, 16] (l.length + 1) (fun kq v4 v5 v16 w' => ∃ (x16 x5 : Int) (out : ByteArray) (j st : Nat) (seen : List ByteArray), v16 = .int .i64 x16 ∧ v5 = .int .i64 x5 ∧ v4 = .string out ∧ Aside0 (x16 = j ∧ x5 = st ∧ j ≤ l.length ∧ kq = l.length - j + 1 ∧ (j = 0 → st = 0 ∧ seen = [])) ∧ Aside0 (LR l j st seen out = (r1, r2)) ∧ Aside0 (seen.length ≤ j ∧ out.size ≤ j * 1002) ∧ Aside0 (WF w w' ad.block cellsP w.heap.size seen))
  case atStart => exact ⟨0, 0, ⟨#[]⟩, 0, 0, [], rfl, rfl, rfl, ⟨rfl, rfl, Nat.zero_le _, rfl, fun _ => ⟨rfl, rfl⟩⟩, H, ⟨Nat.le_refl _, Nat.le_refl _⟩, HW⟩
  case round =>
    clear HW H
    obtain ⟨x16, x5, out, j, st, seen, rfl, rfl, rfl, HJ, HL, HZ, HW⟩ := hrel
    by_cases hi : x16 < (l.length : Int)
    case neg =>
      have d1 : decide (x16 < (l.length : Int)) = false := decide_eq_false hi
      have hj : j = l.length := by have := HJ.out; omega
      have e1 : (out, true) = (r1, r2) := by
        rw [← HL.out]
        unfold LR
        rw [if_neg (by omega), hj, List.drop_length]
        rfl
      injection e1 with e1 e2
      subst e1 e2
      clear HL
      go_wp2
      go_ret2
      exact ⟨rfl, HW.out.bel⟩
    have d1 : decide (x16 < (l.length : Int)) = true := decide_eq_true hi
    have hjl : j < l.length := by have := HJ.out; omega
    have hx0 : 0 ≤ x16 := by have := HJ.out; omega
    obtain ⟨p, hp⟩ : ∃ p, l[j] = p := ⟨_, rfl⟩
    have hps : p.size ≤ 1000 := HSZ.out p (by rw [← hp]; exact List.getElem_mem hjl)
    obtain ⟨ad4, e4, hx4⟩ := Kd.at_string (HCP.out _ HW.out.row) x16 hx0 hi
    cases e4
    rw [show rdOf ByteArray.empty l x16 = p by rw [HJ.out.1]; unfold rdOf; rw [← hp]; simp [List.getD_eq_getElem?_getD, List.getElem?_eq_getElem hjl]] at hx4
    have pi : (0 ≤ x16) = True := eq_true hx0
    have pl : (x16 < (l.length : Int)) = True := eq_true hi
    obtain ⟨ps, hdr⟩ : ∃ ps, l.drop (j + 1) = ps := ⟨_, rfl⟩
    have HD := Aside0.mk (show l.drop j = p :: ps by rw [List.drop_eq_getElem_cons hjl, hp, hdr])
    have HD1 := Aside0.mk hdr
    clear hp hdr
    obtain ⟨a, b, hab⟩ : ∃ a b, cntL p = (a, b) := ⟨_, _, rfl⟩
    have HAB := Aside0.mk hab
    have hbd : -1 ≤ a ∧ a ≤ 1000 ∧ -1 ≤ b ∧ b ≤ 1000 := by
      rcases cnt_cases p with ⟨k, _⟩ | ⟨a', b', k, kn, _⟩
      · rw [hab] at k; injection k with k1 k2; omega
      · rw [hab] at k; injection k with k1 k2; omega
    clear hab
    have hw2 : wrap64 (a + b) = a + b := wrap_id (by omega) (by omega)
    have hw1 : wrap64 (x16 + 1) = x16 + 1 := wrap_id (by omega) (by omega)
    by_cases hj0 : j = 0
    case pos =>
      have hxe : x16 = 0 := by have := HJ.out; omega
      have e16 : (x16 == 0) = true := beq_iff_eq.mpr hxe
      have HXE := Aside0.mk hxe
      clear hxe
      have HL0 := Aside0.mk (show (if badB p = true then ((⟨#[]⟩ : ByteArray), false) else LS 0 [] (foldS false p) ps) = (r1, r2) by
        have k := HL.out
        unfold LR at k
        rw [if_pos hj0] at k
        have e0 : l = p :: ps := by have k := HD.out; rw [hj0, List.drop_zero] at k; exact k
        rw [e0] at k
        exact k)
      clear HL
      have hbad := cnt_bad p
      rw [HAB.out] at hbad
      have HBD := Aside0.mk hbad
      clear hbad
      by_cases q1 : b = 0
      case neg =>
        have c1 : (b == 0) = false := beq_eq_false_iff_ne.mpr (by omega); have c1n : (b != 0) = true := bne_iff_ne.mpr (by omega)

        have cb : badB p = true := by rw [HBD.out]; simp only [Bool.or_eq_true, decide_eq_true_eq]; omega
        have e1 : ((⟨#[]⟩ : ByteArray), false) = (r1, r2) := by rw [← HL0.out, if_pos cb]
        injection e1 with e1 e2
        subst e1 e2
        clear HL0 cb
        go_wp2_with (first | ((with_reducible refine gate_callee (f := 43) rfl ?_); refine goesL_ (some 23) rfl rfl Tryd.func43 (by kernel_rfl) rfl #[.string p] rfl (by (try simp only [List.map_toArray, List.map_cons, List.map_nil]); first | done | rfl | (simp only [List.length_drop, List.length_take]; rfl)) ?_; (with_reducible refine (count_calls2 p a b HAB.out (by omega) _).mono ?_); rintro e w6 ⟨rfl, hb⟩; refine ⟨_, rfl, ?_⟩; have n0_ := Aside0.mk (HW.out.step hb); clear HW hb; have HW := n0_; clear n0_) | ((go_at_call 43; (with_reducible refine (count_calls2 p a b HAB.out (by omega) _).mono ?_); rintro e w5 ⟨rfl, hb⟩; have n0_ := Aside0.mk (HW.out.step hb); clear HW hb; have HW := n0_; clear n0_)))
        go_ret2
        exact ⟨rfl, HW.out.bel⟩
      have c1 : (b == 0) = true := beq_iff_eq.mpr (by omega); have c1n : (b != 0) = false := bne_eq_false_iff_eq.mpr (by omega)
      by_cases q2 : a < 2
      case pos =>
        have c2 : decide (a < 2) = true := decide_eq_true (by omega)
        have cb : badB p = true := by rw [HBD.out]; simp only [Bool.or_eq_true, decide_eq_true_eq]; omega
        have e1 : ((⟨#[]⟩ : ByteArray), false) = (r1, r2) := by rw [← HL0.out, if_pos cb]
        injection e1 with e1 e2
        subst e1 e2
        clear HL0 cb
        go_wp2_with (first | ((with_reducible refine gate_callee (f := 43) rfl ?_); refine goesL_ (some 23) rfl rfl Tryd.func43 (by kernel_rfl) rfl #[.string p] rfl (by (try simp only [List.map_toArray, List.map_cons, List.map_nil]); first | done | rfl | (simp only [List.length_drop, List.length_take]; rfl)) ?_; (with_reducible refine (count_calls2 p a b HAB.out (by omega) _).mono ?_); rintro e w6 ⟨rfl, hb⟩; refine ⟨_, rfl, ?_⟩; have n0_ := Aside0.mk (HW.out.step hb); clear HW hb; have HW := n0_; clear n0_) | ((go_at_call 43; (with_reducible refine (count_calls2 p a b HAB.out (by omega) _).mono ?_); rintro e w5 ⟨rfl, hb⟩; have n0_ := Aside0.mk (HW.out.step hb); clear HW hb; have HW := n0_; clear n0_)))
        go_ret2
        exact ⟨rfl, HW.out.bel⟩
      have c2 : decide (a < 2) = false := decide_eq_false (by omega)
      by_cases q3 : 3 < a
      case pos =>
        have c3 : decide (3 < a) = true := decide_eq_true (by omega)
        have cb : badB p = true := by rw [HBD.out]; simp only [Bool.or_eq_true, decide_eq_true_eq]; omega
        have e1 : ((⟨#[]⟩ : ByteArray), false) = (r1, r2) := by rw [← HL0.out, if_pos cb]
        injection e1 with e1 e2
        subst e1 e2
        clear HL0 cb
        go_wp2_with (first | ((with_reducible refine gate_callee (f := 43) rfl ?_); refine goesL_ (some 23) rfl rfl Tryd.func43 (by kernel_rfl) rfl #[.string p] rfl (by (try simp only [List.map_toArray, List.map_cons, List.map_nil]); first | done | rfl | (simp only [List.length_drop, List.length_take]; rfl)) ?_; (with_reducible refine (count_calls2 p a b HAB.out (by omega) _).mono ?_); rintro e w6 ⟨rfl, hb⟩; refine ⟨_, rfl, ?_⟩; have n0_ := Aside0.mk (HW.out.step hb); clear HW hb; have HW := n0_; clear n0_) | ((go_at_call 43; (with_reducible refine (count_calls2 p a b HAB.out (by omega) _).mono ?_); rintro e w5 ⟨rfl, hb⟩; have n0_ := Aside0.mk (HW.out.step hb); clear HW hb; have HW := n0_; clear n0_)))
        go_ret2
        exact ⟨rfl, HW.out.bel⟩
      have c3 : decide (3 < a) = false := decide_eq_false (by omega)
      have cb : badB p = false := by rw [← Bool.not_eq_true, HBD.out]; simp only [Bool.or_eq_true, decide_eq_true_eq]; omega
      have HL1 := Aside0.mk (show LS 0 [] (foldS false p) ps = (r1, r2) by rw [← HL0.out, if_neg (by rw [cb]; simp)])
      clear HL0 cb
      go_wp2_with (first | ((with_reducible refine gate_callee (f := 43) rfl ?_); refine goesL_ (some 23) rfl rfl Tryd.func43 (by kernel_rfl) rfl #[.string p] rfl (by (try simp only [List.map_toArray, List.map_cons, List.map_nil]); first | done | rfl | (simp only [List.length_drop, List.length_take]; rfl)) ?_; (with_reducible refine (count_calls2 p a b HAB.out (by omega) _).mono ?_); rintro e w6 ⟨rfl, hb⟩; refine ⟨_, rfl, ?_⟩; have n0_ := Aside0.mk (HW.out.step hb); clear HW hb; have HW := n0_; clear n0_) | ((go_at_call 43; (with_reducible refine (count_calls2 p a b HAB.out (by omega) _).mono ?_); rintro e w5 ⟨rfl, hb⟩; have n0_ := Aside0.mk (HW.out.step hb); clear HW hb; have HW := n0_; clear n0_)) | ((with_reducible refine gate_callee (f := 22) rfl ?_); refine goesL_ (some 42) rfl rfl Tryd.func22 (by kernel_rfl) rfl #[.string p] rfl (by (try simp only [List.map_toArray, List.map_cons, List.map_nil]); first | done | rfl | (simp only [List.length_drop, List.length_take]; rfl)) ?_; (with_reducible refine (small_calls p (by omega) _).mono ?_); rintro e w6 ⟨rfl, hb⟩; refine ⟨_, rfl, ?_⟩; have n0_ := Aside0.mk (HW.out.step hb); clear HW hb; have HW := n0_; clear n0_))
      go_roundg (l.length - j)
      case measure => have := HJ.out; omega
      case rel =>
        refine ⟨x16 + 1, 0, foldS false p, j + 1, 0, [], by simp [hw1], by have := HJ.out; simp; omega, rfl, ⟨by have := HJ.out; omega, rfl, by omega, by omega, fun k => by omega⟩, ⟨?_⟩, ⟨by simp, by rw [foldS_size]; omega⟩, ⟨?_⟩⟩
        · unfold LR
          rw [if_neg (by omega), HD1.out]
          exact HL1.out
        · have k := HW.out
          rw [(HJ.out.2.2.2.2 hj0).2] at k
          exact k
    have e16 : (x16 == 0) = false := beq_eq_false_iff_ne.mpr (by have := HJ.out; omega)
    have hjl1 : j ≤ 1000 := by omega
    have hsl : seen.length ≤ 1001 := by have := HZ.out.1; omega
    have hout : out.size ≤ 1003000 := by have := HZ.out.2; omega
    have HL1 := Aside0.mk (show LS st seen out (p :: ps) = (r1, r2) by
      have k := HL.out
      unfold LR at k
      rw [if_neg hj0, HD.out] at k
      exact k)
    clear HL
    have cA : out.size + 1 ≤ 9223372036854775807 := by omega
    have cA0 := eq_true cA
    have cA1 : decide (out.size + 1 ≤ 9223372036854775807) = true := decide_eq_true cA
    have cA2 : (9223372036854775807 < out.size + 1) = False := eq_false (Nat.not_lt.2 cA)
    obtain ⟨y4, hy4⟩ : ∃ y, out ++ (⟨#[45]⟩ : ByteArray) = y := ⟨_, rfl⟩
    have hy4s : y4.size ≤ 1003001 := by rw [← hy4, ByteArray.size_append]; have : (⟨#[45]⟩ : ByteArray).size = 1 := rfl; omega
    have HY4 := Aside0.mk hy4
    go_upto_region 14 with (first | ((with_reducible refine gate_callee (f := 43) rfl ?_); refine goesL_ (some 23) rfl rfl Tryd.func43 (by kernel_rfl) rfl #[.string p] rfl (by (try simp only [List.map_toArray, List.map_cons, List.map_nil]); first | done | rfl | (simp only [List.length_drop, List.length_take]; rfl)) ?_; (with_reducible refine (count_calls2 p a b HAB.out (by omega) _).mono ?_); rintro e w6 ⟨rfl, hb⟩; refine ⟨_, rfl, ?_⟩; have n0_ := Aside0.mk (HW.out.step hb); clear HW hb; have HW := n0_; clear n0_) | ((go_at_call 43; (with_reducible refine (count_calls2 p a b HAB.out (by omega) _).mono ?_); rintro e w5 ⟨rfl, hb⟩; have n0_ := Aside0.mk (HW.out.step hb); clear HW hb; have HW := n0_; clear n0_)))
    go_cut [43] (fun v43 wc => v43 = .bool (decide (x5 < 1) && scrB p) ∧ Aside0 (WF w wc ad.block cellsP w.heap.size seen))
    case first =>
      by_cases t1 : x5 < 1
      case pos =>
        have t1f : decide (x5 < 1) = true := decide_eq_true (by omega)
        by_cases t2 : a = 4
        case pos =>
          have t2f : (a == 4) = true := beq_iff_eq.mpr (by omega); have t2fn : (a != 4) = false := bne_eq_false_iff_eq.mpr (by omega)
          have t2A := Aside0.mk t2
          clear t2
          by_cases t3 : b = 0
          case pos =>
            have t3f : (b == 0) = true := beq_iff_eq.mpr (by omega); have t3fn : (b != 0) = false := bne_eq_false_iff_eq.mpr (by omega)
            have t3A := Aside0.mk t3
            clear t3
            have t2 := t2A.out
            have t3 := t3A.out
            have cb : (decide (x5 < 1) && scrB p) = true := by rw [cnt_scr, HAB.out]; simp only [Bool.or_eq_true, Bool.and_eq_true, decide_eq_true_eq]; omega
            have CB := Aside0.mk cb
            clear cb
            clear t2
            clear t3
            go_wp2
            go_meet
            case rel => exact ⟨by rw [CB.out], HW⟩
          case neg =>
            have t3f : (b == 0) = false := beq_eq_false_iff_ne.mpr (by omega); have t3fn : (b != 0) = true := bne_iff_ne.mpr (by omega)
            have t2 := t2A.out
            have cb : (decide (x5 < 1) && scrB p) = false := by rw [← Bool.not_eq_true, cnt_scr, HAB.out]; simp only [Bool.or_eq_true, Bool.and_eq_true, decide_eq_true_eq]; omega
            have CB := Aside0.mk cb
            clear cb
            clear t2
            go_wp2
            go_meet
            case rel => exact ⟨by rw [CB.out], HW⟩
        case neg =>
          have t2f : (a == 4) = false := beq_eq_false_iff_ne.mpr (by omega); have t2fn : (a != 4) = true := bne_iff_ne.mpr (by omega)
          have cb : (decide (x5 < 1) && scrB p) = false := by rw [← Bool.not_eq_true, cnt_scr, HAB.out]; simp only [Bool.or_eq_true, Bool.and_eq_true, decide_eq_true_eq]; omega
          have CB := Aside0.mk cb
          clear cb
          go_wp2
          go_meet
          case rel => exact ⟨by rw [CB.out], HW⟩
      case neg =>
        have t1f : decide (x5 < 1) = false := decide_eq_false (by omega)
        have cb : (decide (x5 < 1) && scrB p) = false := by rw [← Bool.not_eq_true, cnt_scr, HAB.out]; simp only [Bool.or_eq_true, Bool.and_eq_true, decide_eq_true_eq]; omega
        have CB := Aside0.mk cb
        clear cb
        go_wp2
        go_meet
        case rel => exact ⟨by rw [CB.out], HW⟩
    case rest =>
      clear HW
      obtain ⟨rfl, HW⟩ := hcut
      by_cases cs : (decide (x5 < 1) && scrB p) = true
      case pos =>
        rw [cs]
        have cq : x5 < 1 ∧ scrB p = true := by rw [Bool.and_eq_true, decide_eq_true_eq] at cs; exact cs
        have cq4 := scrB_size cq.2
        have HL2 := Aside0.mk (show LS 1 seen (dash out (scrS p)) ps = (r1, r2) by rw [← HL1.out, LS_cons, if_pos ⟨by have := HJ.out; omega, cq.2⟩])
        clear cs cq HL1
        have c20b0 : (1 ≤ (p.size : Int)) = True := eq_true (by omega)
        have c20b1 : decide (1 ≤ (p.size : Int)) = true := decide_eq_true (by omega)
        obtain ⟨y1, hy1⟩ : ∃ y, p.extract 0 1 = y := ⟨_, rfl⟩
        obtain ⟨y2, hy2⟩ : ∃ y, p.extract 1 p.size = y := ⟨_, rfl⟩
        have b1 : y1.size ≤ 4 := by rw [← hy1, ByteArray.size_extract]; omega
        have b2 : y2.size ≤ 4 := by rw [← hy2, ByteArray.size_extract]; omega
        have c25 : (foldS true y1).size + (foldS false y2).size ≤ 9223372036854775807 := by rw [foldS_size, foldS_size]; omega
        have c25b0 := eq_true c25
        have c25b1 : decide ((foldS true y1).size + (foldS false y2).size ≤ 9223372036854775807) = true := decide_eq_true c25
        have c25b2 : (9223372036854775807 < (foldS true y1).size + (foldS false y2).size) = False := eq_false (Nat.not_lt.2 c25)
        obtain ⟨y3, hy3⟩ : ∃ y, foldS true y1 ++ foldS false y2 = y := ⟨_, rfl⟩
        have HY := Aside0.mk (show scrS p = y3 by unfold scrS; rw [hy1, hy2, hy3])
        have hy3s : y3.size ≤ 8 := by rw [← hy3, ByteArray.size_append, foldS_size, foldS_size]; omega
        clear cq4
        have cB : y4.size + y3.size ≤ 9223372036854775807 := by omega
        have cB0 := eq_true cB
        have cB1 : decide (y4.size + y3.size ≤ 9223372036854775807) = true := decide_eq_true cB
        have cB2 : (9223372036854775807 < y4.size + y3.size) = False := eq_false (Nat.not_lt.2 cB)
        obtain ⟨y5, hy5⟩ : ∃ y, y4 ++ y3 = y := ⟨_, rfl⟩
        have HY5 := Aside0.mk (show dash out y3 = y5 by unfold dash; rw [HY4.out, hy5])
        have HS5 := Aside0.mk (show y5.size ≤ out.size + 1 + y3.size by rw [← HY5.out]; unfold dash; rw [ByteArray.size_append, ByteArray.size_append]; exact Nat.le_refl _)
        go_upto_region 15 with (fail)
        (try simp only [Act.put, List.setIfInBounds_toArray, List.set_cons_zero, List.set_cons_succ])
        refine start_ (n := 8) (S := fun w' => True) (ds := []) #[false, false, false, false, false, false, false, false] (by kernel_rfl) rfl rfl trivial (fun hHeld => ?_)
        refine with_tabW law03_Parse.tab15 law03_Parse.bits15 (fun HT_ HW_ => ?_)
        have n0_ := Aside0.mk HW.out.drew
        clear HW
        have HW := n0_
        clear n0_
        generalize wc.drew = w39 at HW hHeld ⊢
        refine pure_ (i := 0) (N := some 54) (v := ?_) (a' := ?_) #[true, false, false, false, false, false, false, false] rfl rfl (any_of HT_.out (by kernel_rfl)) (fun _ _ _ h => h) (Or.inl ⟨by rfl, ?_⟩) ?_ ?_
        rotate_left
        · intro w'
          go_simp
          with_reducible rfl
        rotate_left
        · simp only [Act.put, List.setIfInBounds_toArray, List.set_cons_zero, List.set_cons_succ, i64_w, i32_w]
          rfl
        refine pure_ (i := 1) (N := some 55) (v := ?_) (a' := ?_) #[true, true, false, false, false, false, false, false] rfl rfl (any_of HT_.out (by kernel_rfl)) (fun _ _ _ h => h) (Or.inl ⟨by rfl, ?_⟩) ?_ ?_
        rotate_left
        · intro w'
          go_simp
          with_reducible rfl
        rotate_left
        · simp only [Act.put, List.setIfInBounds_toArray, List.set_cons_zero, List.set_cons_succ, i64_w, i32_w]
          rfl
        refine pure_ (i := 3) (N := some 57) (v := ?_) (a' := ?_) #[true, true, false, true, false, false, false, false] rfl rfl (any_of HT_.out (by kernel_rfl)) (fun _ _ _ h => h) (Or.inl ⟨by rfl, ?_⟩) ?_ ?_
        rotate_left
        · intro w'
          go_simp
          with_reducible rfl
        rotate_left
        · simp only [Act.put, List.setIfInBounds_toArray, List.set_cons_zero, List.set_cons_succ, i64_w, i32_w]
          rfl
        refine pure_ (i := 4) (N := some 58) (v := ?_) (a' := ?_) #[true, true, false, true, true, false, false, false] rfl rfl (any_of HT_.out (by kernel_rfl)) (fun _ _ _ h => h) (Or.inl ⟨by rfl, ?_⟩) ?_ ?_
        rotate_left
        · intro w'
          go_simp
          with_reducible rfl
        rotate_left
        · simp only [Act.put, List.setIfInBounds_toArray, List.set_cons_zero, List.set_cons_succ, i64_w, i32_w]
          rfl
        refine one_ (i := 2) (N := some 56) #[true, true, true, true, true, false, false, false] rfl rfl (one_of HT_.out (by kernel_rfl)) (by decide) (fun K hK => ?_)
        refine goes_ Tryd.func21 (by kernel_rfl) rfl #[.string y1] (by rfl) rfl rfl (by (try simp only [List.map_toArray, List.map_cons, List.map_nil]); first | done | rfl | (simp only [List.length_drop, List.length_take]; rfl)) ?_
        with_reducible refine (big_calls y1 (by omega) _).mono ?_
        rintro e w40 ⟨rfl, hb⟩
        refine ⟨_, rfl, ?_⟩
        have n0_ := Aside0.mk (HW.out.step hb)
        clear HW hb
        have HW := n0_
        clear n0_
        refine hK.out _ _ trivial (fun hHeld => ?_)
        refine norm_ (a' := ?_) ?_ ?_
        rotate_left
        · show Act.put _ (some 56) _ = _
          simp only [Act.put, List.setIfInBounds_toArray, List.set_cons_zero, List.set_cons_succ, i64_w, i32_w]
          rfl
        refine one_ (i := 5) (N := some 59) #[true, true, true, true, true, true, false, false] rfl rfl (one_of HT_.out (by kernel_rfl)) (by decide) (fun K hK => ?_)
        refine goes_ Tryd.func22 (by kernel_rfl) rfl #[.string y2] (by rfl) rfl rfl (by (try simp only [List.map_toArray, List.map_cons, List.map_nil]); first | done | rfl | (simp only [List.length_drop, List.length_take]; rfl)) ?_
        with_reducible refine (small_calls y2 (by omega) _).mono ?_
        rintro e w40 ⟨rfl, hb⟩
        refine ⟨_, rfl, ?_⟩
        have n0_ := Aside0.mk (HW.out.step hb)
        clear HW hb
        have HW := n0_
        clear n0_
        refine hK.out _ _ trivial (fun hHeld => ?_)
        refine norm_ (a' := ?_) ?_ ?_
        rotate_left
        · show Act.put _ (some 59) _ = _
          simp only [Act.put, List.setIfInBounds_toArray, List.set_cons_zero, List.set_cons_succ, i64_w, i32_w]
          rfl
        refine pure_ (i := 6) (N := some 60) (v := ?_) (a' := ?_) #[true, true, true, true, true, true, true, false] rfl rfl (any_of HT_.out (by kernel_rfl)) (fun _ _ _ h => h) (Or.inl ⟨by rfl, ?_⟩) ?_ ?_
        rotate_left
        · intro w'
          go_simp
          with_reducible rfl
        rotate_left
        · simp only [Act.put, List.setIfInBounds_toArray, List.set_cons_zero, List.set_cons_succ, i64_w, i32_w]
          rfl
        refine pure_ (i := 7) (N := some 8) (v := ?_) (a' := ?_) #[true, true, true, true, true, true, true, true] rfl rfl (any_of HT_.out (by kernel_rfl)) (fun _ _ _ h => h) (Or.inl ⟨by rfl, ?_⟩) ?_ ?_
        rotate_left
        · intro w'
          go_simp
          with_reducible rfl
        rotate_left
        · simp only [Act.put, List.setIfInBounds_toArray, List.set_cons_zero, List.set_cons_succ, i64_w, i32_w]
          rfl
        refine done_ (done_of HT_.out (by kernel_rfl)) ?_
        go_wp2
        go_roundg (l.length - j)
        case measure => have := HJ.out; omega
        case rel =>
          refine ⟨x16 + 1, 1, y5, j + 1, 1, seen, by simp [hw1], by first | rfl | (simp; done), rfl, ⟨by have := HJ.out; omega, rfl, by omega, by omega, fun k => by omega⟩, ⟨?_⟩, ⟨?_, ?_⟩, HW⟩
          · unfold LR
            rw [if_neg (by omega), HD1.out]
            rw [← HY5.out, ← HY.out]; exact HL2.out
          · have := HZ.out.1; (try rw [List.length_append]); (try simp); omega
          · have := HS5.out
            have := HZ.out.2
            skip
            omega
      case neg =>
        have cs' : (decide (x5 < 1) && scrB p) = false := Bool.eq_false_iff.mpr cs
        rw [cs']
        have HN1 := Aside0.mk (show ¬ (st < 1 ∧ scrB p = true) from fun k => cs (by rw [Bool.and_eq_true, decide_eq_true_eq]; exact ⟨by have := HJ.out; omega, k.2⟩))
        clear cs cs'
        go_upto_region 17 with (fail)
        go_cut [61] (fun v61 wc => v61 = .bool (decide (x5 < 2) && regB p) ∧ Aside0 (WF w wc ad.block cellsP w.heap.size seen))
        case first =>
          by_cases t4 : x5 < 2
          case pos =>
            have t4f : decide (x5 < 2) = true := decide_eq_true (by omega)
            by_cases t5 : a = 2
            case pos =>
              have t5f : (a == 2) = true := beq_iff_eq.mpr (by omega); have t5fn : (a != 2) = false := bne_eq_false_iff_eq.mpr (by omega)
              have t5A := Aside0.mk t5
              clear t5
              by_cases t6 : b = 0
              case pos =>
                have t6f : (b == 0) = true := beq_iff_eq.mpr (by omega); have t6fn : (b != 0) = false := bne_eq_false_iff_eq.mpr (by omega)
                have t6A := Aside0.mk t6
                clear t6
                have t5 := t5A.out
                have t6 := t6A.out
                have cb : (decide (x5 < 2) && regB p) = true := by rw [cnt_reg, HAB.out]; simp only [Bool.or_eq_true, Bool.and_eq_true, decide_eq_true_eq]; omega
                have CB := Aside0.mk cb
                clear cb
                clear t5
                clear t6
                go_wp2
                go_meet
                case rel => exact ⟨by rw [CB.out], HW⟩
              case neg =>
                have t6f : (b == 0) = false := beq_eq_false_iff_ne.mpr (by omega); have t6fn : (b != 0) = true := bne_iff_ne.mpr (by omega)
                have n0f : (a == 0) = false := beq_eq_false_iff_ne.mpr (by have := t5A.out;  omega)
                have n0fn : (a != 0) = true := bne_iff_ne.mpr (by have := t5A.out;  omega)
                have t5 := t5A.out
                have cb : (decide (x5 < 2) && regB p) = false := by rw [← Bool.not_eq_true, cnt_reg, HAB.out]; simp only [Bool.or_eq_true, Bool.and_eq_true, decide_eq_true_eq]; omega
                have CB := Aside0.mk cb
                clear cb
                clear t5
                go_wp2
                go_meet
                case rel => exact ⟨by rw [CB.out], HW⟩
            case neg =>
              have t5f : (a == 2) = false := beq_eq_false_iff_ne.mpr (by omega); have t5fn : (a != 2) = true := bne_iff_ne.mpr (by omega)
              by_cases t7 : a = 0
              case pos =>
                have t7f : (a == 0) = true := beq_iff_eq.mpr (by omega); have t7fn : (a != 0) = false := bne_eq_false_iff_eq.mpr (by omega)
                have t7A := Aside0.mk t7
                clear t7
                by_cases t8 : b = 3
                case pos =>
                  have t8f : (b == 3) = true := beq_iff_eq.mpr (by omega); have t8fn : (b != 3) = false := bne_eq_false_iff_eq.mpr (by omega)
                  have t8A := Aside0.mk t8
                  clear t8
                  have t7 := t7A.out
                  have t8 := t8A.out
                  have cb : (decide (x5 < 2) && regB p) = true := by rw [cnt_reg, HAB.out]; simp only [Bool.or_eq_true, Bool.and_eq_true, decide_eq_true_eq]; omega
                  have CB := Aside0.mk cb
                  clear cb
                  clear t7
                  clear t8
                  go_wp2
                  go_meet
                  case rel => exact ⟨by rw [CB.out], HW⟩
                case neg =>
                  have t8f : (b == 3) = false := beq_eq_false_iff_ne.mpr (by omega); have t8fn : (b != 3) = true := bne_iff_ne.mpr (by omega)
                  have t7 := t7A.out
                  have cb : (decide (x5 < 2) && regB p) = false := by rw [← Bool.not_eq_true, cnt_reg, HAB.out]; simp only [Bool.or_eq_true, Bool.and_eq_true, decide_eq_true_eq]; omega
                  have CB := Aside0.mk cb
                  clear cb
                  clear t7
                  go_wp2
                  go_meet
                  case rel => exact ⟨by rw [CB.out], HW⟩
              case neg =>
                have t7f : (a == 0) = false := beq_eq_false_iff_ne.mpr (by omega); have t7fn : (a != 0) = true := bne_iff_ne.mpr (by omega)
                have cb : (decide (x5 < 2) && regB p) = false := by rw [← Bool.not_eq_true, cnt_reg, HAB.out]; simp only [Bool.or_eq_true, Bool.and_eq_true, decide_eq_true_eq]; omega
                have CB := Aside0.mk cb
                clear cb
                go_wp2
                go_meet
                case rel => exact ⟨by rw [CB.out], HW⟩
          case neg =>
            have t4f : decide (x5 < 2) = false := decide_eq_false (by omega)
            have cb : (decide (x5 < 2) && regB p) = false := by rw [← Bool.not_eq_true, cnt_reg, HAB.out]; simp only [Bool.or_eq_true, Bool.and_eq_true, decide_eq_true_eq]; omega
            have CB := Aside0.mk cb
            clear cb
            go_wp2
            go_meet
            case rel => exact ⟨by rw [CB.out], HW⟩
        case rest =>
          clear HW
          obtain ⟨rfl, HW⟩ := hcut
          by_cases cr : (decide (x5 < 2) && regB p) = true
          case pos =>
            rw [cr]
            have cq : x5 < 2 ∧ regB p = true := by rw [Bool.and_eq_true, decide_eq_true_eq] at cr; exact cr
            have HL2 := Aside0.mk (show LS 2 seen (dash out (foldS true p)) ps = (r1, r2) by rw [← HL1.out, LS_cons, if_neg HN1.out, if_pos ⟨by have := HJ.out; omega, cq.2⟩])
            clear cr cq HL1
            have cB : y4.size + (foldS true p).size ≤ 9223372036854775807 := by rw [foldS_size]; omega
            have cB0 := eq_true cB
            have cB1 : decide (y4.size + (foldS true p).size ≤ 9223372036854775807) = true := decide_eq_true cB
            have cB2 : (9223372036854775807 < y4.size + (foldS true p).size) = False := eq_false (Nat.not_lt.2 cB)
            obtain ⟨y5, hy5⟩ : ∃ y, y4 ++ (foldS true p) = y := ⟨_, rfl⟩
            have HY5 := Aside0.mk (show dash out (foldS true p) = y5 by unfold dash; rw [HY4.out, hy5])
            have HS5 := Aside0.mk (show y5.size ≤ out.size + 1 + (foldS true p).size by rw [← HY5.out]; unfold dash; rw [ByteArray.size_append, ByteArray.size_append]; exact Nat.le_refl _)
            go_wp2_with (first | ((with_reducible refine gate_callee (f := 21) rfl ?_); refine goesL_ (some 81) rfl rfl Tryd.func21 (by kernel_rfl) rfl #[.string p] rfl (by (try simp only [List.map_toArray, List.map_cons, List.map_nil]); first | done | rfl | (simp only [List.length_drop, List.length_take]; rfl)) ?_; (with_reducible refine (big_calls p (by omega) _).mono ?_); rintro e w6 ⟨rfl, hb⟩; refine ⟨_, rfl, ?_⟩; have n0_ := Aside0.mk (HW.out.step hb); clear HW hb; have HW := n0_; clear n0_))
            go_roundg (l.length - j)
            case measure => have := HJ.out; omega
            case rel =>
              refine ⟨x16 + 1, 2, y5, j + 1, 2, seen, by simp [hw1], by first | rfl | (simp; done), rfl, ⟨by have := HJ.out; omega, rfl, by omega, by omega, fun k => by omega⟩, ⟨?_⟩, ⟨?_, ?_⟩, HW⟩
              · unfold LR
                rw [if_neg (by omega), HD1.out]
                rw [← HY5.out]; exact HL2.out
              · have := HZ.out.1; (try rw [List.length_append]); (try simp); omega
              · have := HS5.out
                have := HZ.out.2
                rw [foldS_size] at *
                omega
          case neg =>
            have cr' : (decide (x5 < 2) && regB p) = false := Bool.eq_false_iff.mpr cr
            rw [cr']
            have HN2 := Aside0.mk (show ¬ (st < 2 ∧ regB p = true) from fun k => cr (by rw [Bool.and_eq_true, decide_eq_true_eq]; exact ⟨by have := HJ.out; omega, k.2⟩))
            have HL2 := Aside0.mk (show (if varB p = true then (if hasS seen (foldS false p) = true then ((⟨#[]⟩ : ByteArray), false) else LS 3 (seen ++ [foldS false p]) (dash out (foldS false p)) ps) else ((⟨#[]⟩ : ByteArray), false)) = (r1, r2) by rw [← HL1.out, LS_cons, if_neg HN1.out, if_neg HN2.out])
            clear cr cr' HL1
            go_upto_region 20 with (fail)
            have hp0 : a + b = 4 → 0 < p.size := fun k => by
              rcases cnt_cases p with ⟨q, _⟩ | ⟨a', b', q, qn, _⟩
              · rw [HAB.out] at q; injection q with q1 q2; omega
              · rw [HAB.out] at q; injection q with q1 q2; omega
            have hcv := cnt_var p
            rw [HAB.out] at hcv
            have HCV := Aside0.mk hcv
            have HP0 := Aside0.mk hp0
            clear hcv hp0
            go_cut [82] (fun v82 wc => v82 = .bool (varB p) ∧ Aside0 (WF w wc ad.block cellsP w.heap.size seen))
            case first =>
              by_cases v1 : 5 ≤ a + b
              case pos =>
                have v1f : decide (5 ≤ a + b) = true := decide_eq_true (by omega)
                by_cases v2 : a + b ≤ 8
                case pos =>
                  have v2f : decide (a + b ≤ 8) = true := decide_eq_true (by omega)
                  have cb : varB p = true := by rw [HCV.out]; simp only [Bool.or_eq_true, Bool.and_eq_true, decide_eq_true_eq]; omega
                  have CB := Aside0.mk cb
                  clear cb
                  go_wp2
                  go_meet
                  case rel => exact ⟨by rw [CB.out], HW⟩
                case neg =>
                  have v2f : decide (a + b ≤ 8) = false := decide_eq_false (by omega)
                  have v3f : (a + b == 4) = false := beq_eq_false_iff_ne.mpr (by omega); have v3fn : (a + b != 4) = true := bne_iff_ne.mpr (by omega)
                  have cb : varB p = false := by rw [← Bool.not_eq_true, HCV.out]; simp only [Bool.or_eq_true, Bool.and_eq_true, decide_eq_true_eq]; omega
                  have CB := Aside0.mk cb
                  clear cb
                  go_wp2
                  go_meet
                  case rel => exact ⟨by rw [CB.out], HW⟩
              case neg =>
                have v1f : decide (5 ≤ a + b) = false := decide_eq_false (by omega)
                by_cases v4 : a + b = 4
                case neg =>
                  have v4f : (a + b == 4) = false := beq_eq_false_iff_ne.mpr (by omega); have v4fn : (a + b != 4) = true := bne_iff_ne.mpr (by omega)
                  have cb : varB p = false := by rw [← Bool.not_eq_true, HCV.out]; simp only [Bool.or_eq_true, Bool.and_eq_true, decide_eq_true_eq]; omega
                  have CB := Aside0.mk cb
                  clear cb
                  go_wp2
                  go_meet
                  case rel => exact ⟨by rw [CB.out], HW⟩
                case pos =>
                  have v4f : (a + b == 4) = true := beq_iff_eq.mpr (by omega); have v4fn : (a + b != 4) = false := bne_eq_false_iff_eq.mpr (by omega)
                  have q0 := HP0.out v4
                  have v4A := Aside0.mk v4
                  clear v4
                  have q0b : decide (0 < (p.size : Int)) = true := decide_eq_true (by omega)
                  have q0c : (0 < (p.size : Int)) = True := eq_true (by omega)
                  have q0d : decide (0 < p.size) = true := decide_eq_true q0
                  by_cases v5 : 0 < b
                  case neg =>
                    have v5f : decide (0 < b) = false := decide_eq_false (by omega)
                    have cb : varB p = false := by have v4 := v4A.out; rw [← Bool.not_eq_true, HCV.out]; simp only [Bool.or_eq_true, Bool.and_eq_true, decide_eq_true_eq]; omega
                    have CB := Aside0.mk cb
                    clear cb
                    go_wp2
                    go_meet
                    case rel => exact ⟨by rw [CB.out], HW⟩
                  case pos =>
                    have v5f : decide (0 < b) = true := decide_eq_true (by omega)
                    have hb0 : bt p 0 = ((p[0]'q0).toNat : Int) := (bt_at p 0 q0).symm
                    have HB0 := Aside0.mk hb0
                    clear hb0
                    by_cases v6 : ((p[0]'q0).toNat : Int) ≤ 57
                    case pos =>
                      have v6f : decide (((p[0]'q0).toNat : Int) ≤ 57) = true := decide_eq_true v6
                      have cb : varB p = true := by have := HB0.out; have v4 := v4A.out; rw [HCV.out]; simp only [Bool.or_eq_true, Bool.and_eq_true, decide_eq_true_eq]; omega
                      have CB := Aside0.mk cb
                      clear cb
                      go_wp2
                      go_meet
                      case rel => exact ⟨by rw [CB.out], HW⟩
                    case neg =>
                      have v6f : decide (((p[0]'q0).toNat : Int) ≤ 57) = false := decide_eq_false v6
                      have cb : varB p = false := by have := HB0.out; have v4 := v4A.out; rw [← Bool.not_eq_true, HCV.out]; simp only [Bool.or_eq_true, Bool.and_eq_true, decide_eq_true_eq]; omega
                      have CB := Aside0.mk cb
                      clear cb
                      go_wp2
                      go_meet
                      case rel => exact ⟨by rw [CB.out], HW⟩
            case rest =>
              clear HW
              obtain ⟨rfl, HW⟩ := hcut
              by_cases cv : varB p = true
              case neg =>
                have cv' : varB p = false := Bool.eq_false_iff.mpr cv
                have e1 : ((⟨#[]⟩ : ByteArray), false) = (r1, r2) := by rw [← HL2.out, if_neg cv]
                injection e1 with e1 e2
                subst e1 e2
                clear HL2
                rw [cv']
                go_wp2
                go_ret2
                exact ⟨rfl, HW.out.bel⟩
              case pos =>
                rw [cv]
                by_cases ch : hasS seen (foldS false p) = true
                case pos =>
                  have e1 : ((⟨#[]⟩ : ByteArray), false) = (r1, r2) := by rw [← HL2.out, if_pos cv, if_pos ch]
                  injection e1 with e1 e2
                  subst e1 e2
                  clear HL2
                  go_wp2_with (first | ((with_reducible refine gate_callee (f := 22) rfl ?_); refine goesL_ (some 103) rfl rfl Tryd.func22 (by kernel_rfl) rfl #[.string p] rfl (by (try simp only [List.map_toArray, List.map_cons, List.map_nil]); first | done | rfl | (simp only [List.length_drop, List.length_take]; rfl)) ?_; (with_reducible refine (small_calls p (by omega) _).mono ?_); rintro e w6 ⟨rfl, hb⟩; refine ⟨_, rfl, ?_⟩; have n0_ := Aside0.mk (HW.out.step hb); clear HW hb; have HW := n0_; clear n0_; have hrun := HW.out.set.look (foldS false p) (by rw [foldS_size]; omega); rw [ch] at hrun))
                  go_ret2
                  exact ⟨rfl, HW.out.bel⟩
                case neg =>
                  have ch' : hasS seen (foldS false p) = false := Bool.eq_false_iff.mpr ch
                  have HL3 := Aside0.mk (show LS 3 (seen ++ [foldS false p]) (dash out (foldS false p)) ps = (r1, r2) by rw [← HL2.out, if_pos cv, if_neg ch])
                  clear HL2 ch
                  have ch := ch'
                  clear ch'
                  have hkey := has_key (foldS false p) (by rw [foldS_size]; omega)
                  have cB : y4.size + (foldS false p).size ≤ 9223372036854775807 := by rw [foldS_size]; omega
                  have cB0 := eq_true cB
                  have cB1 : decide (y4.size + (foldS false p).size ≤ 9223372036854775807) = true := decide_eq_true cB
                  have cB2 : (9223372036854775807 < y4.size + (foldS false p).size) = False := eq_false (Nat.not_lt.2 cB)
                  obtain ⟨y5, hy5⟩ : ∃ y, y4 ++ (foldS false p) = y := ⟨_, rfl⟩
                  have HY5 := Aside0.mk (show dash out (foldS false p) = y5 by unfold dash; rw [HY4.out, hy5])
                  have HS5 := Aside0.mk (show y5.size ≤ out.size + 1 + (foldS false p).size by rw [← HY5.out]; unfold dash; rw [ByteArray.size_append, ByteArray.size_append]; exact Nat.le_refl _)
                  go_wp2_with (first | ((with_reducible refine gate_callee (f := 22) rfl ?_); refine goesL_ (some 103) rfl rfl Tryd.func22 (by kernel_rfl) rfl #[.string p] rfl (by (try simp only [List.map_toArray, List.map_cons, List.map_nil]); first | done | rfl | (simp only [List.length_drop, List.length_take]; rfl)) ?_; (with_reducible refine (small_calls p (by omega) _).mono ?_); rintro e w6 ⟨rfl, hb⟩; refine ⟨_, rfl, ?_⟩; have n0_ := Aside0.mk (HW.out.step hb); clear HW hb; have HW := n0_; clear n0_; have hrun := HW.out.set.look (foldS false p) (by rw [foldS_size]; omega); rw [ch] at hrun; obtain ⟨w7, hrunU, hset7, hgrow7⟩ := HW.out.set.store (foldS false p) (by rw [foldS_size]; omega) hsl; have n0_ := Aside0.mk (show WF w w7 ad.block cellsP w.heap.size (seen ++ [foldS false p]) from ⟨blk_grown HW.out.row hgrow7 (fun k => NB.out (Option.some.inj k)), hset7, HW.out.bel.grown hgrow7 HW.out.bel.size (fun k hk => by cases hk; exact Nat.le_refl _)⟩); clear HW; have HW := n0_; clear n0_ hset7 hgrow7))
                  go_roundg (l.length - j)
                  case measure => have := HJ.out; omega
                  case rel =>
                    refine ⟨x16 + 1, 3, y5, j + 1, 3, seen ++ [foldS false p], by simp [hw1], by first | rfl | (simp; done), rfl, ⟨by have := HJ.out; omega, rfl, by omega, by omega, fun k => by omega⟩, ⟨?_⟩, ⟨?_, ?_⟩, HW⟩
                    · unfold LR
                      rw [if_neg (by omega), HD1.out]
                      rw [← HY5.out]; exact HL3.out
                    · have := HZ.out.1; (try rw [List.length_append]); (try simp); omega
                    · have := HS5.out
                      have := HZ.out.2
                      rw [foldS_size] at *
                      omega
end Go.Proofs.YtpedajhcfkohlaaDoorHand
