import Derived.Test.YtpedajhcfkohlaaDoorHandS
/- The walks of polyglotlaw11.begins and polyglotlaw11.Chain. -/
namespace Go.Proofs.YtpedajhcfkohlaaDoorHand
open Go.RowKit Go.Proofs.YtpedajhcfkohlaaDoor Go.Proofs.YtpedajhcfkohlaaDoor.PNeg Go.Proofs.YtpedajhcfkohlaaDoor.Pure Go.Proofs.YtpedajhcfkohlaaDoorW.PrintWords Go.Proofs.YtpedajhcfkohlaaDoorW.PrintLast Go.Proofs.YtpedajhcfkohlaaDoorW.PrintMore
attribute [local go_sem] max2_int min2_int max_two min_two max_three min_three max_four min_four
set_option linter.unusedVariables false
set_option linter.unusedSimpArgs false
/-- Does a text begin with another one, part by part? -/
def begP (s t : ByteArray) : Bool := decide (t.size ≤ s.size) && ((s.extract 0 t.size).toList == t.toList && (s.size == t.size || bt s (t.size : Int) == 45))
set_option maxHeartbeats 8000000 in
set_option maxRecDepth 100000 in
theorem law11_begins.calls (s t : ByteArray) (b : Bool) (hb : begP s t = b) (w : World) : Calls Tryd.prog 58 #[.string s, .string t] w fun e w' => e = .returned (.bool b) ∧ Drawn0 w w' := by
  subst hb
  by_cases c1 : t.size ≤ s.size
  case neg =>
    have e1 : begP s t = false := by unfold begP; rw [decide_eq_false c1]; rfl
    have d1 : decide ((t.size : Int) ≤ (s.size : Int)) = false := decide_eq_false (by omega)
    have d1b : decide (t.size ≤ s.size) = false := decide_eq_false c1
    rw [e1]
    clear e1 c1
    go_enter Tryd.func58, Tryd.ntmps58
    go_wp2
    go_ret
    exact ⟨by first | rfl | (simp; done) | (simp [*]; done), by repeat (first | exact Drawn0.refl _ | apply Drawn0.step)⟩
  have d1 : decide ((t.size : Int) ≤ (s.size : Int)) = true := decide_eq_true (by omega)
  have d1b : decide (t.size ≤ s.size) = true := decide_eq_true c1
  have p1 : (0 ≤ (t.size : Int)) = True := eq_true (by omega)
  have q1 : ((t.size : Int) ≤ (s.size : Int)) = True := eq_true (by omega)
  have q1b : (t.size ≤ s.size) = True := eq_true c1
  obtain ⟨y, hy⟩ : ∃ y, s.extract 0 t.size = y := ⟨_, rfl⟩
  have hy2 : s.extract 0 (t.size : Int).toNat = y := hy
  by_cases c2 : y.toList = t.toList
  case neg =>
    have e1 : begP s t = false := by unfold begP; rw [d1b, hy, beq_eq_false_iff_ne.mpr c2]; rfl
    have d2 : (y.toList == t.toList) = false := beq_eq_false_iff_ne.mpr c2
    rw [e1]
    clear e1 c1 c2
    go_enter Tryd.func58, Tryd.ntmps58
    go_wp2
    go_ret
    exact ⟨by first | rfl | (simp; done) | (simp [*]; done), by repeat (first | exact Drawn0.refl _ | apply Drawn0.step)⟩
  have d2 : (y.toList == t.toList) = true := beq_iff_eq.mpr c2
  by_cases c3 : s.size = t.size
  case pos =>
    have e1 : begP s t = true := by unfold begP; rw [d1b, hy, d2, beq_iff_eq.mpr c3]; rfl
    have d3 : ((s.size : Int) == (t.size : Int)) = true := beq_iff_eq.mpr (by omega)
    have d3b : (s.size == t.size) = true := beq_iff_eq.mpr c3
    rw [e1]
    clear e1 c1 c2 c3
    go_enter Tryd.func58, Tryd.ntmps58
    go_wp2
    go_ret
    exact ⟨by first | rfl | (simp; done) | (simp [*]; done), by repeat (first | exact Drawn0.refl _ | apply Drawn0.step)⟩
  have d3 : ((s.size : Int) == (t.size : Int)) = false := beq_eq_false_iff_ne.mpr (by omega)
  have d3b : (s.size == t.size) = false := beq_eq_false_iff_ne.mpr c3
  have q3 : ((t.size : Int) < (s.size : Int)) = True := eq_true (by omega)
  have q3b : (t.size < s.size) = True := eq_true (by omega)
  have hx9 : ∀ h : t.size < s.size, ((s[t.size]'h).toNat : Int) = bt s (t.size : Int) := fun h => bt_at s (t.size : Int) h
  obtain ⟨b3, hb3⟩ : ∃ b, (bt s (t.size : Int) == 45) = b := ⟨_, rfl⟩
  have e1 : begP s t = b3 := by unfold begP; rw [d1b, hy, d2, d3b, hb3]; rfl
  rw [e1]
  clear e1 c1 c2 c3
  go_enter Tryd.func58, Tryd.ntmps58
  go_wp2
  go_ret
  exact ⟨by first | rfl | (simp; done) | (simp [*]; done), by repeat (first | exact Drawn0.refl _ | apply Drawn0.step)⟩

def cutsL (w : ByteArray) : Nat → List ByteArray
  | 0 => []
  | n + 1 => (if (bt w ((n + 1 : Nat) : Int) == 45) = true then [w.extract 0 (n + 1)] else []) ++ cutsL w n
def wishL (there : List ByteArray) (w : ByteArray) : List ByteArray := w :: (there.filter (fun t => begP t w) ++ cutsL w (w.size - 1))
def inL (l : List ByteArray) (t : ByteArray) : Bool := l.any (fun x => x.toList == t.toList)
def keepL (there out : List ByteArray) (t : ByteArray) : List ByteArray := if (inL there t && !inL out t) = true then out ++ [t] else out
def lastL (out : List ByteArray) (last : ByteArray) : List ByteArray := if inL out last = true then out else out ++ [last]
def chainL (wishes there : List ByteArray) (last : ByteArray) : List ByteArray := lastL ((wishes.flatMap (wishL there) ++ [last]).foldl (keepL there) []) last
/-- The row of the call's own, and the world. -/
structure OWN (w0 W : World) (v : Value) (xs : List ByteArray) : Prop where
  row : Kd.R Kd.string 9 W w0.heap.size (fun _ => True) v xs
  bel : Below w0.heap.size w0 W
theorem OWN.step {w0 W W1 : World} {v : Value} {xs : List ByteArray} (h : OWN w0 W v xs) (hb : Below W.heap.size W W1) : OWN w0 W1 v xs := ⟨Kd.R_below h.row hb, h.bel.trans (hb.mono h.bel.size)⟩
/-- .. and a row that is read, which is not the call's own one. -/
structure TWO (w0 W : World) (v : Value) (xs : List ByteArray) (A : Option Addr) (ys : List ByteArray) : Prop where
  row : Kd.R Kd.string 9 W w0.heap.size (fun _ => True) v xs
  bel : Below w0.heap.size w0 W
  far : Kd.F Kd.string W (fun k => True ∧ some k ≠ v.ownBlock) A ys.length ys
theorem ownTwo_of {w0 W W1 : World} {v7 v13 : Value} {xs : List ByteArray} (h : OWN w0 W v7 xs) (ho : Kd.R Kd.string 9 W1 W.heap.size (fun _ => True) v13 []) (hb : Below W.heap.size W W1) (hn : ∃ b, v13.ownBlock = some b ∧ W.heap.size ≤ b) :
    Kd.R Kd.string 9 W1 w0.heap.size (fun k => True ∧ some k ≠ v13.ownBlock) v7 xs ∧ Kd.R Kd.string 9 W1 w0.heap.size (fun k => True ∧ some k ≠ v7.ownBlock) v13 [] ∧ Below w0.heap.size w0 W1 := by
  obtain ⟨b, hb1, hb2⟩ := hn
  refine ⟨Kd.R_elder' h.row (fun k hk => by rw [hb1] at hk; injection hk with hk; omega) hb, Kd.R_mono (Kd.R_tight rfl (Kd.R_lower ho h.bel.size)) (fun k hk => ⟨trivial, fun e => ?_⟩), h.bel.trans (hb.mono h.bel.size)⟩
  rw [hb1] at hk
  injection hk with hk
  have := Kd.R_lt h.row k e.symm
  omega

set_option maxHeartbeats 32000000 in
set_option maxRecDepth 100000 in
theorem law11_Chain_walk (A0 : Option Addr) (c0 : Nat) (l0 : List ByteArray) (A1 : Option Addr) (c1 : Nat) (l1 : List ByteArray) (last : ByteArray) (r : List ByteArray) (hr : chainL l0 l1 last = r) (w : World) (hr0 : Kd.C Kd.string w A0 l0.length l0) (hc0 : l0.length ≤ c0) (hr1 : Kd.C Kd.string w A1 l1.length l1) (hc1 : l1.length ≤ c1) (hl0 : l0.length ≤ 1000) (hl1 : l1.length ≤ 1000) (hs : ∀ s ∈ l0, s.size ≤ 1000000) :
    Calls Tryd.prog 34 #[.slice A0 l0.length c0, .slice A1 l1.length c1, .string last] w fun e w' => ∃ v0_ : Value, e = .returned v0_ ∧ Kd.R Kd.string 9 w' w.heap.size (fun _ => True) v0_ r ∧ Below w.heap.size w w' := by
  have HR0 := Aside0.mk hr0
  have HR1 := Aside0.mk hr1
  have HS := Aside0.mk hs
  have HR := Aside0.mk hr
  clear hr0 hr1 hs hr
  obtain ⟨al, hal⟩ : ∃ al, l0.flatMap (wishL l1) = al := ⟨_, rfl⟩
  have HAL := Aside0.mk hal
  have HG0 := Aside0.mk (show [] ++ (l0.drop 0).flatMap (wishL l1) = al from hal)
  clear hal
  go_enter Tryd.func34, Tryd.ntmps34
  go_wp2_with (first | ((with_reducible refine gate_dst (N := 24) rfl ?_); refine Kd.R_lit Kd.string _ 9 ?hg (N := 24) ?hd (xs := ([] : List ByteArray)) (inner := []) (ok := fun _ => True) (okp := fun _ => True) ?hr ?hp (fun _ hk => hk) trivial (Below.refl _ _) (Nat.le_refl _) (by simp) ?_; (case hd => rfl); (case hg => rfl); (case hr => first | (go_simp; done) | (go_simp; rfl)); (case hp => exact (Reps.none _ _)); intro v0 w2 ho hb hg hnew; clear hg hnew; have HO := Aside0.mk (OWN.mk ho hb); clear ho hb))
  go_loopg [7, 27] (l0.length + 1) (fun kq v7 v27 w' => ∃ (x27 : Int) (j : Nat) (xs : List ByteArray), v27 = .int .i64 x27 ∧ Aside0 (x27 = j ∧ j ≤ l0.length ∧ kq = l0.length - j + 1) ∧ Aside0 (xs ++ (l0.drop j).flatMap (wishL l1) = al) ∧ Aside0 (xs.length ≤ j * 1002000) ∧ Aside0 (OWN w w' v7 xs))
  case atStart => exact ⟨0, 0, [], rfl, ⟨rfl, Nat.zero_le _, rfl⟩, HG0, ⟨by simp⟩, HO⟩
  case round =>
    clear HO HG0
    obtain ⟨x27, j, xs, rfl, HJ, HH, HXL, HO⟩ := hrel
    by_cases hi : x27 < (l0.length : Int)
    case neg =>
      have d1 : decide (x27 < (l0.length : Int)) = false := decide_eq_false hi
      have HX := Aside0.mk (show xs = al by
        have k := HH.out
        rw [List.drop_of_length_le (by have := HJ.out; omega), List.flatMap_nil, List.append_nil] at k
        exact k)
      have hxl : xs.length ≤ 1002000000 := by have := HXL.out; have := HJ.out; omega

      obtain ⟨ys, hys⟩ : ∃ ys, xs ++ [last] = ys := ⟨_, rfl⟩
      have HYS := Aside0.mk hys
      have hyl : ys.length ≤ 1002000001 := by rw [← hys]; simp; omega
      have HL := Aside0.mk (show lastL ((ys.drop 0).foldl (keepL l1) []) last = r by
        have k := HR.out
        unfold chainL at k
        rw [HAL.out, ← HX.out, hys] at k
        exact k)
      clear hys
      go_wp2_with (first | ((with_reducible refine gate_dst (N := 67) rfl ?_); refine Kd.R_lit Kd.string _ 9 ?hg (N := 67) ?hd (xs := ([] : List ByteArray)) (inner := []) (ok := fun _ => True) (okp := fun _ => True) ?hr ?hp (fun _ hk => hk) trivial (Below.refl _ _) (Nat.le_refl _) (by simp) ?_; (case hd => rfl); (case hg => rfl); (case hr => first | (go_simp; done) | (go_simp; rfl)); (case hp => exact (Reps.none _ _)); intro v13 w3 ho hb hg hnew; have k := ownTwo_of HO.out ho hb hnew; have H7 := Aside0.mk k.1; have H13 := Aside0.mk k.2.1; have HB := Aside0.mk k.2.2; clear k HO ho hb hg hnew) | ((with_reducible refine gate_builtin (b := .append) (xs := #[.tmp 68, .tmp 70]) rfl ?_); at_builtin; refine Kd.R_append Kd.string (w0 := w) w.heap.size rfl (.tmp 68) (.tmp 70) 23 9 (.string ⟨#[]⟩) 16 rfl Tryd.underlying23 info9 rfl (by decide) (by omega) u7 xs last [.string last] (fun k => True ∧ some k ≠ v13.ownBlock) (fun _ => False) rfl rfl ?aP (fun _ hk => hk.elim) ?aF ?aO ?aB ?aS ?aL ?_; (case aP => exact rfl); (case aB => exact HB.out); (case aF => exact (fun k hk => ⟨trivial, fun e => by have := Kd.R_lt H13.out k e.symm; omega⟩)); (case aO => exact H7.out); (case aS => exact (HB.out).size); (case aL => omega); intro v1 w4 ho hb hg hat; have n0_ := Kd.R_mono (Kd.R_after H13.out hg hat) (fun _ _ => trivial); rw [HYS.out] at ho; obtain ⟨A71, c71, rfl, hc71, hC71⟩ := Kd.R_reads ho; have T2 := Aside0.mk (TWO.mk n0_ hb (Kd.R_F ho)); clear n0_ hC71 H7 H13 HB ho hb hg hat))
      go_loopg [13, 73] (ys.length + 1) (fun kq v13 v73 w' => ∃ (x73 : Int) (m : Nat) (os : List ByteArray), v73 = .int .i64 x73 ∧ Aside0 (x73 = m ∧ m ≤ ys.length ∧ kq = ys.length - m + 1) ∧ Aside0 (lastL ((ys.drop m).foldl (keepL l1) os) last = r) ∧ Aside0 (os.length ≤ m) ∧ Aside0 (TWO w w' v13 os A71 ys))
      case atStart => exact ⟨0, 0, [], rfl, ⟨rfl, Nat.zero_le _, rfl⟩, HL, ⟨by simp⟩, T2⟩
      case round =>
        clear T2 HL
        obtain ⟨x73, m, os, rfl, HM, HH, HOL, T2⟩ := hrel
        obtain ⟨A13, c13, rfl, hc13, hC13⟩ := Kd.R_reads T2.out.row
        clear hC13
        have hol : os.length ≤ 1002000001 := by have := HOL.out; have := HM.out; omega
        by_cases hi : x73 < (ys.length : Int)
        case neg =>
          have d4 : decide (x73 < (ys.length : Int)) = false := decide_eq_false hi
          have HE := Aside0.mk (show lastL os last = r by
            have k := HH.out
            rw [List.drop_of_length_le (by have := HM.out; omega)] at k
            exact k)
          clear HH
          go_wp2
          go_loopg [115] (os.length + 1) (fun kq v115 w' => ∃ (x115 : Int) (i : Nat), v115 = .int .i64 x115 ∧ Aside0 (x115 = i ∧ i ≤ os.length ∧ kq = os.length - i + 1) ∧ Aside0 (inL (os.take i) last = false) ∧ Aside0 (TWO w w' (.slice A13 os.length c13) os A71 ys))
          case atStart => exact ⟨0, 0, rfl, ⟨rfl, Nat.zero_le _, rfl⟩, ⟨rfl⟩, T2⟩
          case round =>
            clear T2
            obtain ⟨x115, i, rfl, HI, HH, T2⟩ := hrel
            by_cases hi2 : x115 < (os.length : Int)
            case neg =>
              have d5 : decide (x115 < (os.length : Int)) = false := decide_eq_false hi2
              have HE2 := Aside0.mk (show os ++ [last] = r by
                have k := HE.out
                have k2 := HH.out
                rw [List.take_of_length_le (by have := HI.out; omega)] at k2
                unfold lastL at k
                rw [k2, if_neg (by simp)] at k
                exact k)
              go_wp2_with (first | ((with_reducible refine gate_builtin (b := .append) (xs := #[.tmp 124, .tmp 126]) rfl ?_); at_builtin; refine Kd.R_append Kd.string (w0 := w) w.heap.size rfl (.tmp 124) (.tmp 126) 23 9 (.string ⟨#[]⟩) 16 rfl Tryd.underlying23 info9 rfl (by decide) (by omega) (.slice A13 os.length c13) os last [.string last] (fun _ => True) (fun _ => False) rfl rfl ?aP (fun _ hk => hk.elim) ?aF ?aO ?aB ?aS ?aL ?_; (case aP => exact rfl); (case aB => exact T2.out.bel); (case aF => exact (fun _ _ => trivial)); (case aO => exact T2.out.row); (case aS => exact (T2.out.bel).size); (case aL => omega); intro v1 w20 ho hb hg hat; have HO := Aside0.mk (OWN.mk ho hb); clear T2 ho hb hg hat))
              go_ret
              exact ⟨_, rfl, by rw [← HE2.out]; exact HO.out.row, HO.out.bel⟩
            have d5 : decide (x115 < (os.length : Int)) = true := decide_eq_true hi2
            have hjl : i < os.length := by have := HI.out; omega
            have hi := hi2
            have hx0 : 0 ≤ x115 := by have := HI.out; omega
            have HC13 := Aside0.mk (Kd.R_reads' T2.out.row).2.2
            obtain ⟨adq_, e_, hx_0⟩ := Kd.at_string HC13.out x115 hx0 hi
            cases e_
            obtain ⟨q, hy⟩ : ∃ y, rdOf ByteArray.empty os x115 = y := ⟨_, rfl⟩
            have hyj : os[i]'(hjl) = q := by
              rw [← hy, HI.out.1]
              unfold rdOf
              simp [List.getD_eq_getElem?_getD, List.getElem?_eq_getElem hjl]
            rw [hy] at hx_0
            have HYq := Aside0.mk hyj
            clear hy hyj
            have pi6 : (0 ≤ x115) = True := eq_true hx0
            have pl6 : (x115 < (os.length : Int)) = True := eq_true hi2
            have hw6 : wrap64 (x115 + 1) = x115 + 1 := wrap_id (by omega) (by omega)
            by_cases ce : q.toList = last.toList
            case pos =>
              have eb : (q.toList == last.toList) = true := beq_iff_eq.mpr ce
              have HE2 := Aside0.mk (show os = r by
                have k := HE.out
                unfold lastL at k
                rw [if_pos (show inL os last = true from List.any_eq_true.mpr ⟨q, by rw [← HYq.out]; exact List.getElem_mem hjl, eb⟩)] at k
                exact k)
              clear ce
              go_wp2
              go_ret
              exact ⟨_, rfl, by rw [← HE2.out]; exact T2.out.row, T2.out.bel⟩
            case neg =>
              have eb : (q.toList == last.toList) = false := beq_eq_false_iff_ne.mpr ce
              clear ce
              go_wp2
              go_roundg (os.length - i)
              case measure => have := HI.out; omega
              case rel =>
                refine ⟨x115 + 1, i + 1, by simp [hw6], ⟨by have := HI.out; omega, by omega, by omega⟩, ⟨?_⟩, T2⟩
                have k := HH.out
                unfold inL at k ⊢
                rw [List.take_succ_eq_append_getElem hjl, List.any_append, k, HYq.out]
                simp only [List.any_cons, List.any_nil, Bool.or_false, Bool.false_or]
                exact eb
        have d4 : decide (x73 < (ys.length : Int)) = true := decide_eq_true hi
        have hjl : m < ys.length := by have := HM.out; omega
        have hx0 : 0 ≤ x73 := by have := HM.out; omega
        have HCY := Aside0.mk (Kd.F_now T2.out.far)
        obtain ⟨adq_, e_, hx_0⟩ := Kd.at_string HCY.out x73 hx0 hi
        cases e_
        obtain ⟨q, hy⟩ : ∃ y, rdOf ByteArray.empty ys x73 = y := ⟨_, rfl⟩
        have hyj : ys[m]'(hjl) = q := by
          rw [← hy, HM.out.1]
          unfold rdOf
          simp [List.getD_eq_getElem?_getD, List.getElem?_eq_getElem hjl]
        rw [hy] at hx_0
        have HYq := Aside0.mk hyj
        clear hy hyj
        clear HCY
        have pi4 : (0 ≤ x73) = True := eq_true hx0
        have pl4 : (x73 < (ys.length : Int)) = True := eq_true hi
        have hw4 : wrap64 (x73 + 1) = x73 + 1 := wrap_id (by omega) (by omega)
        obtain ⟨isb, hisb⟩ : ∃ b, inL l1 q = b := ⟨_, rfl⟩
        obtain ⟨dup, hdup⟩ : ∃ b, inL os q = b := ⟨_, rfl⟩
        have HD := Aside0.mk (show lastL ((ys.drop (m + 1)).foldl (keepL l1) (if (isb && !dup) = true then os ++ [q] else os)) last = r by
          have k := HH.out
          rw [List.drop_eq_getElem_cons hjl, HYq.out, List.foldl_cons] at k
          unfold keepL at k
          rw [hisb, hdup] at k
          exact k)
        have HI0 := Aside0.mk (show (false || inL (l1.drop 0) q) = isb from hisb)
        have HD0 := Aside0.mk (show (false || inL (os.drop 0) q) = dup from hdup)
        clear HH hisb hdup
        go_wp2
        go_loopg [16, 79] (l1.length + 1) (fun kq v16 v79 w' => ∃ (x79 : Int) (i : Nat) (b : Bool), v16 = .bool b ∧ v79 = .int .i64 x79 ∧ Aside0 (x79 = i ∧ i ≤ l1.length ∧ kq = l1.length - i + 1) ∧ Aside0 ((b || inL (l1.drop i) q) = isb) ∧ Aside0 (TWO w w' (.slice A13 os.length c13) os (some adq_) ys))
        case atStart => exact ⟨0, 0, false, rfl, rfl, ⟨rfl, Nat.zero_le _, rfl⟩, HI0, T2⟩
        case round =>
          clear T2 HI0
          obtain ⟨x79, i, b, rfl, rfl, HI, HH, T2⟩ := hrel
          by_cases hi2 : x79 < (l1.length : Int)
          case neg =>
            have d5 : decide (x79 < (l1.length : Int)) = false := decide_eq_false hi2
            have e1 := HH.out
            rw [List.drop_of_length_le (by have := HI.out; omega), show inL [] q = false from rfl, Bool.or_false] at e1
            subst e1
            clear HH
            go_wp2
            go_loopg [19, 92] (os.length + 1) (fun kq v19 v92 w' => ∃ (x92 : Int) (i : Nat) (c : Bool), v19 = .bool c ∧ v92 = .int .i64 x92 ∧ Aside0 (x92 = i ∧ i ≤ os.length ∧ kq = os.length - i + 1) ∧ Aside0 ((c || inL (os.drop i) q) = dup) ∧ Aside0 (TWO w w' (.slice A13 os.length c13) os (some adq_) ys))
            case atStart => exact ⟨0, 0, false, rfl, rfl, ⟨rfl, Nat.zero_le _, rfl⟩, HD0, T2⟩
            case round =>
              clear T2 HD0
              obtain ⟨x92, i5, c, rfl, rfl, HI5, HH, T2⟩ := hrel
              by_cases hi3 : x92 < (os.length : Int)
              case neg =>
                have d6 : decide (x92 < (os.length : Int)) = false := decide_eq_false hi3
                have e1 := HH.out
                rw [List.drop_of_length_le (by have := HI5.out; omega), show inL [] q = false from rfl, Bool.or_false] at e1
                subst e1
                clear HH
                cases b with
                | false =>
                  cases c with
                  | false =>
                    go_wp2
                    go_roundg (ys.length - m)
                    case measure => have := HM.out; omega
                    case rel => exact ⟨x73 + 1, m + 1, os, by simp [hw4], ⟨by have := HM.out; omega, by have := HM.out; omega, by have := HM.out; omega⟩, HD, ⟨by have := HOL.out; omega⟩, T2⟩
                  | true =>
                    go_wp2
                    go_roundg (ys.length - m)
                    case measure => have := HM.out; omega
                    case rel => exact ⟨x73 + 1, m + 1, os, by simp [hw4], ⟨by have := HM.out; omega, by have := HM.out; omega, by have := HM.out; omega⟩, HD, ⟨by have := HOL.out; omega⟩, T2⟩
                | true =>
                  cases c with
                  | true =>
                    go_wp2
                    go_roundg (ys.length - m)
                    case measure => have := HM.out; omega
                    case rel => exact ⟨x73 + 1, m + 1, os, by simp [hw4], ⟨by have := HM.out; omega, by have := HM.out; omega, by have := HM.out; omega⟩, HD, ⟨by have := HOL.out; omega⟩, T2⟩
                  | false =>
                    go_wp2_with (first | ((with_reducible refine gate_builtin (b := .append) (xs := #[.tmp 108, .tmp 110]) rfl ?_); at_builtin; refine Kd.R_append Kd.string (w0 := w) w.heap.size rfl (.tmp 108) (.tmp 110) 23 9 (.string ⟨#[]⟩) 16 rfl Tryd.underlying23 info9 rfl (by decide) (by omega) (.slice A13 os.length c13) os q [.string q] (fun _ => True) (fun _ => False) rfl rfl ?aP (fun _ hk => hk.elim) ?aF ?aO ?aB ?aS ?aL ?_; (case aP => exact rfl); (case aB => exact T2.out.bel); (case aF => exact (fun _ _ => trivial)); (case aO => exact T2.out.row); (case aS => exact (T2.out.bel).size); (case aL => omega); intro v1 w21 ho hb hg hat; have n0_ := Aside0.mk (TWO.mk ho hb (Kd.F_after T2.out.far hg hat)); clear T2 ho hb hg hat; have T2 := n0_; clear n0_))
                    go_roundg (ys.length - m)
                    case measure => have := HM.out; omega
                    case rel => exact ⟨x73 + 1, m + 1, os ++ [q], by simp [hw4], ⟨by have := HM.out; omega, by have := HM.out; omega, by have := HM.out; omega⟩, HD, ⟨by have := HOL.out; simp; omega⟩, T2⟩
              have d9 : decide (x92 < (os.length : Int)) = true := decide_eq_true hi3
              have hjl : i5 < os.length := by have := HI5.out; omega
              have hi := hi3
              have hx0 : 0 ≤ x92 := by have := HI5.out; omega
              have HC13 := Aside0.mk (Kd.R_reads' T2.out.row).2.2
              obtain ⟨ads_, e_, hx_0⟩ := Kd.at_string HC13.out x92 hx0 hi
              cases e_
              obtain ⟨s, hy⟩ : ∃ y, rdOf ByteArray.empty os x92 = y := ⟨_, rfl⟩
              have hyj : os[i5]'(hjl) = s := by
                rw [← hy, HI5.out.1]
                unfold rdOf
                simp [List.getD_eq_getElem?_getD, List.getElem?_eq_getElem hjl]
              rw [hy] at hx_0
              have HYs := Aside0.mk hyj
              clear hy hyj
              have pi9 : (0 ≤ x92) = True := eq_true hx0
              have pl9 : (x92 < (os.length : Int)) = True := eq_true hi
              have hw7 : wrap64 (x92 + 1) = x92 + 1 := wrap_id (by omega) (by omega)
              obtain ⟨be, hbe⟩ : ∃ b, (s.toList == q.toList) = b := ⟨_, rfl⟩
              have HE := Aside0.mk (show ((c || be) || inL (os.drop (i5 + 1)) q) = dup by
                have k := HH.out
                rw [List.drop_eq_getElem_cons hjl, HYs.out, show inL (s :: os.drop (i5 + 1)) q = ((s.toList == q.toList) || inL (os.drop (i5 + 1)) q) from rfl, hbe] at k
                rw [Bool.or_assoc]; exact k)
              clear HH
              cases c with
              | true =>
                go_wp2
                go_roundg (os.length - i5)
                case measure => have := HI5.out; omega
                case rel => exact ⟨x92 + 1, i5 + 1, true, rfl, by simp [hw7], ⟨by have := HI5.out; omega, by omega, by omega⟩, HE, T2⟩
              | false =>
                go_wp2
                go_roundg (os.length - i5)
                case measure => have := HI5.out; omega
                case rel => exact ⟨x92 + 1, i5 + 1, be, rfl, by simp [hw7], ⟨by have := HI5.out; omega, by omega, by omega⟩, HE, T2⟩
          have d9 : decide (x79 < (l1.length : Int)) = true := decide_eq_true hi2
          have hjl : i < l1.length := by have := HI.out; omega
          have hi := hi2
          have hx0 : 0 ≤ x79 := by have := HI.out; omega
          skip
          obtain ⟨ads_, e_, hx_0⟩ := Kd.at_string HR1.out x79 hx0 hi
          cases e_
          obtain ⟨s, hy⟩ : ∃ y, rdOf ByteArray.empty l1 x79 = y := ⟨_, rfl⟩
          have hyj : l1[i]'(hjl) = s := by
            rw [← hy, HI.out.1]
            unfold rdOf
            simp [List.getD_eq_getElem?_getD, List.getElem?_eq_getElem hjl]
          rw [hy] at hx_0
          have HYs := Aside0.mk hyj
          clear hy hyj
          replace hx_0 := (T2.out.bel.cell (World.block_lt_of_cell? w _ hx_0)).trans hx_0
          have pi9 : (0 ≤ x79) = True := eq_true hx0
          have pl9 : (x79 < (l1.length : Int)) = True := eq_true hi
          have hw8 : wrap64 (x79 + 1) = x79 + 1 := wrap_id (by omega) (by omega)
          obtain ⟨be, hbe⟩ : ∃ b, (s.toList == q.toList) = b := ⟨_, rfl⟩
          have HE := Aside0.mk (show ((b || be) || inL (l1.drop (i + 1)) q) = isb by
            have k := HH.out
            rw [List.drop_eq_getElem_cons hjl, HYs.out, show inL (s :: l1.drop (i + 1)) q = ((s.toList == q.toList) || inL (l1.drop (i + 1)) q) from rfl, hbe] at k
            rw [Bool.or_assoc]; exact k)
          clear HH
          cases b with
          | true =>
            go_wp2
            go_roundg (l1.length - i)
            case measure => have := HI.out; omega
            case rel => exact ⟨x79 + 1, i + 1, true, rfl, by simp [hw8], ⟨by have := HI.out; omega, by omega, by omega⟩, HE, T2⟩
          | false =>
            go_wp2
            go_roundg (l1.length - i)
            case measure => have := HI.out; omega
            case rel => exact ⟨x79 + 1, i + 1, be, rfl, by simp [hw8], ⟨by have := HI.out; omega, by omega, by omega⟩, HE, T2⟩
    have d1 : decide (x27 < (l0.length : Int)) = true := decide_eq_true hi
    have hjl : j < l0.length := by have := HJ.out; omega
    have hx0 : 0 ≤ x27 := by have := HJ.out; omega
    obtain ⟨ady_, e_, hx_0⟩ := Kd.at_string HR0.out x27 hx0 hi
    cases e_
    obtain ⟨y, hy⟩ : ∃ y, rdOf ByteArray.empty l0 x27 = y := ⟨_, rfl⟩
    have hyj : l0[j]'(hjl) = y := by
      rw [← hy, HJ.out.1]
      unfold rdOf
      simp [List.getD_eq_getElem?_getD, List.getElem?_eq_getElem hjl]
    rw [hy] at hx_0
    have HYy := Aside0.mk hyj
    clear hy hyj
    replace hx_0 := (HO.out.bel.cell (World.block_lt_of_cell? w _ hx_0)).trans hx_0
    have HYS := Aside0.mk (show y.size ≤ 1000000 from HS.out y (by rw [← HYy.out]; exact List.getElem_mem hjl))
    have HD := Aside0.mk (show (xs ++ [y]) ++ (((l1.drop 0).filter (fun t => begP t y) ++ cutsL y (y.size - 1)) ++ (l0.drop (j + 1)).flatMap (wishL l1)) = al by
      have k := HH.out
      rw [List.drop_eq_getElem_cons hjl, HYy.out, List.flatMap_cons] at k
      rw [← k]
      unfold wishL
      simp [List.append_assoc])
    clear HH
    have pi : (0 ≤ x27) = True := eq_true hx0
    have pl : (x27 < (l0.length : Int)) = True := eq_true hi
    have hw1 : wrap64 (x27 + 1) = x27 + 1 := wrap_id (by omega) (by omega)
    have hxl : xs.length ≤ 1002000000 := by have := HXL.out; have := HJ.out; omega
    go_wp2_with (first | ((with_reducible refine gate_builtin (b := .append) (xs := #[.tmp 31, .tmp 33]) rfl ?_); at_builtin; refine Kd.R_append Kd.string (w0 := w) w.heap.size rfl (.tmp 31) (.tmp 33) 23 9 (.string ⟨#[]⟩) 16 rfl Tryd.underlying23 info9 rfl (by decide) (by omega) u7 xs y [.string y] (fun _ => True) (fun _ => False) rfl rfl ?aP (fun _ hk => hk.elim) ?aF ?aO ?aB ?aS ?aL ?_; (case aP => exact rfl); (case aB => exact HO.out.bel); (case aF => exact (fun _ _ => trivial)); (case aO => exact HO.out.row); (case aS => exact (HO.out.bel).size); (case aL => omega); intro v1 w5 ho hb hg hat; have n0_ := Aside0.mk (OWN.mk ho hb); clear HO ho hb hg hat; have HO := n0_; clear n0_))
    go_loopg [7, 37] (l1.length + 1) (fun kq v7 v37 w' => ∃ (x37 : Int) (i : Nat) (xs : List ByteArray), v37 = .int .i64 x37 ∧ Aside0 (x37 = i ∧ i ≤ l1.length ∧ kq = l1.length - i + 1) ∧ Aside0 (xs ++ (((l1.drop i).filter (fun t => begP t y) ++ cutsL y (y.size - 1)) ++ (l0.drop (j + 1)).flatMap (wishL l1)) = al) ∧ Aside0 (xs.length ≤ j * 1002000 + 1 + i) ∧ Aside0 (OWN w w' v7 xs))
    case atStart => exact ⟨0, 0, xs ++ [y], rfl, ⟨rfl, Nat.zero_le _, rfl⟩, HD, ⟨by have := HXL.out; simp; omega⟩, HO⟩
    case round =>
      clear HO HD HXL hxl
      obtain ⟨x37, i, xs, rfl, HI, HH, HXL, HO⟩ := hrel
      have hxl : xs.length ≤ 1002001001 := by have := HXL.out; have := HJ.out; have := HI.out; omega
      by_cases hi : x37 < (l1.length : Int)
      case neg =>
        have d2 : decide (x37 < (l1.length : Int)) = false := decide_eq_false hi
        have HE := Aside0.mk (show xs ++ (cutsL y (y.size - 1) ++ (l0.drop (j + 1)).flatMap (wishL l1)) = al by
          have k := HH.out
          rw [List.drop_of_length_le (by have := HI.out; omega), List.filter_nil, List.nil_append] at k
          exact k)
        clear HH
        have hwy : wrap64 ((y.size : Int) - 1) = (y.size : Int) - 1 := wrap_id (by omega) (by have := HYS.out; omega)
        go_wp2
        go_loopg [7, 12] (y.size - 1 + 1) (fun kq v7 v12 w' => ∃ (x12 : Int) (n : Nat) (xs : List ByteArray), v12 = .int .i64 x12 ∧ Aside0 (x12.toNat = n ∧ -1 ≤ x12 ∧ x12 < (y.size : Int) ∧ kq = n + 1) ∧ Aside0 (xs ++ (cutsL y n ++ (l0.drop (j + 1)).flatMap (wishL l1)) = al) ∧ Aside0 (xs.length + n ≤ j * 1002000 + 1002000) ∧ Aside0 (OWN w w' v7 xs))

        case atStart => exact ⟨(y.size : Int) - 1, y.size - 1, xs, by simp [hwy], ⟨by omega, by omega, by omega, by omega⟩, HE, ⟨by have := HXL.out; have := HI.out; have := HYS.out; omega⟩, HO⟩
        case round =>
          clear HO HE HXL hxl
          obtain ⟨x12, n, xs, rfl, HN, HH, HXL, HO⟩ := hrel
          have hxl : xs.length ≤ 1003002000 := by have := HXL.out; have := HJ.out; omega
          by_cases hi2 : 0 < x12
          case neg =>
            have d3 : decide (0 < x12) = false := decide_eq_false hi2
            have HE := Aside0.mk (show xs ++ (l0.drop (j + 1)).flatMap (wishL l1) = al by
              have k := HH.out
              rw [show n = 0 by have := HN.out; omega] at k
              exact k)
            go_wp2
            go_roundg (l0.length - j)
            case measure => have := HJ.out; omega
            case rel => exact ⟨x27 + 1, j + 1, xs, by simp [hw1], ⟨by have := HJ.out; omega, by omega, by omega⟩, HE, ⟨by have := HXL.out; omega⟩, HO⟩
          have d3 : decide (0 < x12) = true := decide_eq_true hi2
          have p3 : (0 ≤ x12) = True := eq_true (by omega)
          have q3 : (x12 < (y.size : Int)) = True := eq_true HN.out.2.2.1
          have q3b : (x12 ≤ (y.size : Int)) = True := eq_true (by have := HN.out.2.2.1; omega)
          have hw3 : wrap64 (x12 - 1) = x12 - 1 := wrap_id (by omega) (by have := HN.out.2.2.1; have := HYS.out; omega)
          have hx9 := bt_at y x12
          obtain ⟨m, hm⟩ : ∃ m, n = m + 1 := ⟨n - 1, by have := HN.out; omega⟩
          subst hm
          have HX12 := Aside0.mk (show x12 = ((m + 1 : Nat) : Int) by have := HN.out; omega)
          obtain ⟨cy, hcy⟩ : ∃ c, y.extract 0 x12.toNat = c := ⟨_, rfl⟩
          obtain ⟨b, hb0⟩ : ∃ b, (bt y x12 == 45) = b := ⟨_, rfl⟩
          have HE := Aside0.mk (show xs ++ (((if b = true then [cy] else []) ++ cutsL y m) ++ (l0.drop (j + 1)).flatMap (wishL l1)) = al by
            have k := HH.out
            unfold cutsL at k
            rw [← HX12.out, hb0, show m + 1 = x12.toNat by have := HX12.out; omega, hcy] at k
            exact k)
          clear HH
          cases b with
          | true =>
            have HE2 := Aside0.mk (show (xs ++ [cy]) ++ (cutsL y m ++ (l0.drop (j + 1)).flatMap (wishL l1)) = al by
              have k := HE.out
              rw [if_pos rfl] at k
              rw [← k]; simp [List.append_assoc])
            go_wp2_with (first | ((with_reducible refine gate_builtin (b := .append) (xs := #[.tmp 60, .tmp 64]) rfl ?_); at_builtin; refine Kd.R_append Kd.string (w0 := w) w.heap.size rfl (.tmp 60) (.tmp 64) 23 9 (.string ⟨#[]⟩) 16 rfl Tryd.underlying23 info9 rfl (by decide) (by omega) u7 xs cy [.string cy] (fun _ => True) (fun _ => False) rfl rfl ?aP (fun _ hk => hk.elim) ?aF ?aO ?aB ?aS ?aL ?_; (case aP => exact rfl); (case aB => exact HO.out.bel); (case aF => exact (fun _ _ => trivial)); (case aO => exact HO.out.row); (case aS => exact (HO.out.bel).size); (case aL => omega); intro v1 w9 ho hb hg hat; have n0_ := Aside0.mk (OWN.mk ho hb); clear HO ho hb hg hat; have HO := n0_; clear n0_))
            go_roundg (m + 1)
            case measure => have := HN.out; omega
            case rel => exact ⟨x12 - 1, m, xs ++ [cy], by simp [hw3], ⟨by have := HX12.out; omega, by have := HX12.out; omega, by have := HN.out; omega, by omega⟩, HE2, ⟨by have := HXL.out; simp; omega⟩, HO⟩
          | false =>
            have HE2 := Aside0.mk (show xs ++ (cutsL y m ++ (l0.drop (j + 1)).flatMap (wishL l1)) = al by
              have k := HE.out
              rw [if_neg (by simp), List.nil_append] at k
              exact k)
            go_wp2
            go_roundg (m + 1)
            case measure => have := HN.out; omega
            case rel => exact ⟨x12 - 1, m, xs, by simp [hw3], ⟨by have := HX12.out; omega, by have := HX12.out; omega, by have := HN.out; omega, by omega⟩, HE2, ⟨by have := HXL.out; omega⟩, HO⟩
      have d2 : decide (x37 < (l1.length : Int)) = true := decide_eq_true hi
      have hjl : i < l1.length := by have := HI.out; omega
      have hx0 : 0 ≤ x37 := by have := HI.out; omega
      obtain ⟨ads_, e_, hx_0⟩ := Kd.at_string HR1.out x37 hx0 hi
      cases e_
      obtain ⟨s, hy⟩ : ∃ y, rdOf ByteArray.empty l1 x37 = y := ⟨_, rfl⟩
      have hyj : l1[i]'(hjl) = s := by
        rw [← hy, HI.out.1]
        unfold rdOf
        simp [List.getD_eq_getElem?_getD, List.getElem?_eq_getElem hjl]
      rw [hy] at hx_0
      have HYs := Aside0.mk hyj
      clear hy hyj
      replace hx_0 := (HO.out.bel.cell (World.block_lt_of_cell? w _ hx_0)).trans hx_0
      have pi2 : (0 ≤ x37) = True := eq_true hx0
      have pl2 : (x37 < (l1.length : Int)) = True := eq_true hi
      have hw2 : wrap64 (x37 + 1) = x37 + 1 := wrap_id (by omega) (by omega)
      obtain ⟨b, hb0⟩ : ∃ b, begP s y = b := ⟨_, rfl⟩
      have CH := Aside0.mk hb0
      clear hb0
      have HE := Aside0.mk (show (xs ++ (if b = true then [s] else [])) ++ (((l1.drop (i + 1)).filter (fun t => begP t y) ++ cutsL y (y.size - 1)) ++ (l0.drop (j + 1)).flatMap (wishL l1)) = al by
        have k := HH.out
        rw [List.drop_eq_getElem_cons hjl, HYs.out, List.filter_cons, CH.out] at k
        rw [← k]
        cases b <;> simp [List.append_assoc])
      clear HH
      cases b with
      | true =>
        have HE2 := Aside0.mk (show (xs ++ [s]) ++ (((l1.drop (i + 1)).filter (fun t => begP t y) ++ cutsL y (y.size - 1)) ++ (l0.drop (j + 1)).flatMap (wishL l1)) = al from HE.out)
        go_wp2_with (first | ((with_reducible refine gate_callee (f := 58) rfl ?_); refine goesL_ (some 43) rfl rfl Tryd.func58 (by kernel_rfl) rfl #[.string s, .string y] rfl (by (try simp only [List.map_toArray, List.map_cons, List.map_nil]); first | done | rfl | (simp only [List.length_drop, List.length_take]; rfl)) ?_; (with_reducible refine (law11_begins.calls s y true CH.out _).mono ?_); rintro e w7 ⟨rfl, hd⟩; refine ⟨_, rfl, ?_⟩; have n0_ := Aside0.mk (HO.out.step hd.below); clear HO hd; have HO := n0_; clear n0_) | ((with_reducible refine gate_builtin (b := .append) (xs := #[.tmp 44, .tmp 46]) rfl ?_); at_builtin; refine Kd.R_append Kd.string (w0 := w) w.heap.size rfl (.tmp 44) (.tmp 46) 23 9 (.string ⟨#[]⟩) 16 rfl Tryd.underlying23 info9 rfl (by decide) (by omega) u7 xs s [.string s] (fun _ => True) (fun _ => False) rfl rfl ?aP (fun _ hk => hk.elim) ?aF ?aO ?aB ?aS ?aL ?_; (case aP => exact rfl); (case aB => exact HO.out.bel); (case aF => exact (fun _ _ => trivial)); (case aO => exact HO.out.row); (case aS => exact (HO.out.bel).size); (case aL => omega); intro v1 w8 ho hb hg hat; have n0_ := Aside0.mk (OWN.mk ho hb); clear HO ho hb hg hat; have HO := n0_; clear n0_))
        go_roundg (l1.length - i)
        case measure => have := HI.out; omega
        case rel => exact ⟨x37 + 1, i + 1, xs ++ [s], by simp [hw2], ⟨by have := HI.out; omega, by omega, by omega⟩, HE2, ⟨by have := HXL.out; simp; omega⟩, HO⟩
      | false =>
        have HE2 := Aside0.mk (show xs ++ (((l1.drop (i + 1)).filter (fun t => begP t y) ++ cutsL y (y.size - 1)) ++ (l0.drop (j + 1)).flatMap (wishL l1)) = al by
          have k := HE.out
          rw [if_neg (by simp), List.append_nil] at k
          exact k)
        go_wp2_with (first | ((with_reducible refine gate_callee (f := 58) rfl ?_); refine goesL_ (some 43) rfl rfl Tryd.func58 (by kernel_rfl) rfl #[.string s, .string y] rfl (by (try simp only [List.map_toArray, List.map_cons, List.map_nil]); first | done | rfl | (simp only [List.length_drop, List.length_take]; rfl)) ?_; (with_reducible refine (law11_begins.calls s y false CH.out _).mono ?_); rintro e w7 ⟨rfl, hd⟩; refine ⟨_, rfl, ?_⟩; have n0_ := Aside0.mk (HO.out.step hd.below); clear HO hd; have HO := n0_; clear n0_))
        go_roundg (l1.length - i)
        case measure => have := HI.out; omega
        case rel => exact ⟨x37 + 1, i + 1, xs, by simp [hw2], ⟨by have := HI.out; omega, by omega, by omega⟩, HE2, ⟨by have := HXL.out; omega⟩, HO⟩
def law11_Chain.f (l0 l1 : List ByteArray) (last : ByteArray) : Option (List ByteArray) := if l0.length ≤ 1000 ∧ l1.length ≤ 1000 ∧ ∀ s ∈ l0, s.size ≤ 1000000 then some (chainL l0 l1 last) else none
theorem law11_Chain.calls (A0 : Option Addr) (c0 : Nat) (l0 : List ByteArray) (A1 : Option Addr) (c1 : Nat) (l1 : List ByteArray) (a2 : ByteArray) (r : List ByteArray) (w : World) (hr0 : Kd.C Kd.string w A0 l0.length l0) (hc0 : l0.length ≤ c0) (hr1 : Kd.C Kd.string w A1 l1.length l1) (hc1 : l1.length ≤ c1) (h : law11_Chain.f l0 l1 a2 = some r) :
    Calls Tryd.prog 34 #[.slice A0 l0.length c0, .slice A1 l1.length c1, .string a2] w fun e w' => ∃ v0_ : Value, e = .returned (v0_) ∧ Kd.R Kd.string 9 w' w.heap.size (fun _ => True) v0_ r ∧ Below w.heap.size w w' := by
  unfold law11_Chain.f at h
  by_cases hb : l0.length ≤ 1000 ∧ l1.length ≤ 1000 ∧ ∀ s ∈ l0, s.size ≤ 1000000
  · rw [if_pos hb] at h
    exact law11_Chain_walk A0 c0 l0 A1 c1 l1 a2 r (Option.some.inj h) w hr0 hc0 hr1 hc1 hb.1 hb.2.1 hb.2.2
  · rw [if_neg hb] at h; cases h
end Go.Proofs.YtpedajhcfkohlaaDoorHand
