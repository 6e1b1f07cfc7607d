import Derived.Test.YtpedajhcfkohlaaDoorTagB
import Derived.Test.YtpedajhcfkohlaaDoorPFitx1
import Derived.Test.YtpedajhcfkohlaaDoorPFitx2
/- The printed functions over tags, in plain lists. -/
namespace Go.Proofs.YtpedajhcfkohlaaDoor.Pure
open Go.RowKit Go.Proofs.YtpedajhcfkohlaaDoor.PFit Go.Proofs.YtpedajhcfkohlaaDoorHand Go.Proofs.YtpedajhcfkohlaaDoorW.PrintWords Go.Proofs.YtpedajhcfkohlaaDoorW.PrintLast Go.Proofs.YtpedajhcfkohlaaDoorW.PrintMore
set_option linter.unusedSimpArgs false
theorem parts_f (lang scr reg : ByteArray) (vs : List ByteArray) (h : vs.length ≤ 1000000) : tag_Tag_parts.f lang scr reg vs = some (partsL lang scr reg vs) := by
  unfold tag_Tag_parts.f partsL
  simp only [Option.bind_some, List.length_append, List.length_cons, List.length_nil]
  by_cases a : scr.toList = ([] : List UInt8)
  · simp only [if_pos a]
    by_cases b : reg.toList = ([] : List UInt8)
    · simp only [if_pos b]
      rw [if_pos (by omega)]; simp
    · simp only [if_neg b]
      rw [if_pos (by omega), if_pos (by omega)]; simp
  · simp only [if_neg a]
    rw [if_pos (by omega)]
    by_cases b : reg.toList = ([] : List UInt8)
    · simp only [if_pos b]
      rw [if_pos (by omega)]; simp
    · simp only [if_neg b]
      rw [if_pos (by omega), if_pos (by omega)]
theorem string_f (lang scr reg : ByteArray) (vs : List ByteArray) (n : Nat) (hn : n ≤ 900) (hv : vs.length ≤ 900) (h : GoodT n (lang, scr, reg, vs, true)) : tag_Tag_String.f lang scr reg vs = some (textL (partsL lang scr reg vs)) := by
  unfold tag_Tag_String.f
  rw [parts_f lang scr reg vs (by omega)]
  have := partsL_len lang scr reg vs
  simp only [Option.bind_some]
  rw [join_eq _ n (partsL_good n lang scr reg vs h) (by omega) hn]
  rfl
theorem equal_run (l m : List ByteArray) (hlm : l.length = m.length) (hl : l.length ≤ 1000000) (n : Nat) : ∀ (k i : Nat), n < k → i + n = l.length →
    slices_Equal_string_string.l0 k l m (l.length : Int) (i : Int) = some (decide (l.drop i = m.drop i)) := by
  induction n with
  | zero =>
    intro k i hk hi
    obtain ⟨k, rfl⟩ : ∃ j, k = j + 1 := ⟨k - 1, by omega⟩
    rw [slices_Equal_string_string.l0, if_neg (by omega), List.drop_of_length_le (by omega), List.drop_of_length_le (by omega)]
    rfl
  | succ n ih =>
    intro k i hk hi
    obtain ⟨k, rfl⟩ : ∃ j, k = j + 1 := ⟨k - 1, by omega⟩
    have h1 : i < l.length := by omega
    have h2 : i < m.length := by omega
    have e1 : rdOf ByteArray.empty l (i : Int) = l[i] := by
      unfold rdOf; simp [List.getD_eq_getElem?_getD, List.getElem?_eq_getElem h1]
    have e2 : rdOf ByteArray.empty m (i : Int) = m[i] := by
      unfold rdOf; simp [List.getD_eq_getElem?_getD, List.getElem?_eq_getElem h2]
    rw [slices_Equal_string_string.l0, if_pos (by omega), if_pos (by omega), if_pos (by omega), if_pos (by omega), e1, e2, wrap_id (x := (i : Int) + 1) (by omega) (by omega), List.drop_eq_getElem_cons h1, List.drop_eq_getElem_cons h2]
    by_cases h : l[i].toList = m[i].toList
    · rw [if_pos h]
      have he : l[i] = m[i] := ba_ext (by rw [← tl, ← tl]; exact h)
      have := ih k (i + 1) (by omega) (by omega)
      refine Eq.trans this ?_
      have hh : (l.drop (i + 1) = m.drop (i + 1)) ↔ (l[i] :: l.drop (i + 1) = m[i] :: m.drop (i + 1)) := ⟨fun e => by rw [he, e], fun e => (List.cons.inj e).2⟩
      exact congrArg some (decide_eq_decide.2 hh)
    · rw [if_neg h]
      congr 1
      rw [eq_comm, decide_eq_false_iff_not]
      intro e
      injection e with e _
      exact h (by rw [e])
theorem equal_f (k : Nat) (l m : List ByteArray) (hl : l.length ≤ 1000000) (hk : l.length < k) : slices_Equal_string_string.f k l m = some (decide (l = m)) := by
  unfold slices_Equal_string_string.f
  by_cases h : l.length = m.length
  · rw [if_pos (by omega)]
    exact equal_run l m h hl l.length k 0 hk (by omega)
  · rw [if_neg (by omega)]
    congr 1
    rw [eq_comm, decide_eq_false_iff_not]
    intro e
    exact h (by rw [e])
/-- Does a row begin with another one? -/
def begB (a b : List ByteArray) : Bool := decide (b.length ≤ a.length) && decide (a.take b.length = b)
theorem fits_f (k : Nat) (l1 s1 g1 : ByteArray) (v1 : List ByteArray) (l2 s2 g2 : ByteArray) (v2 : List ByteArray) (h1 : v1.length ≤ 900) (h2 : v2.length ≤ 900) (hk : 1000 ≤ k) :
    tag_Tag_Fits.f k l1 s1 g1 v1 l2 s2 g2 v2 = some (begB (partsL l1 s1 g1 v1) (partsL l2 s2 g2 v2)) := by
  unfold tag_Tag_Fits.f
  rw [parts_f _ _ _ v1 (by omega), parts_f _ _ _ v2 (by omega)]
  have a1 := partsL_len l1 s1 g1 v1
  have a2 := partsL_len l2 s2 g2 v2
  simp only [Option.bind_some]
  generalize partsL l1 s1 g1 v1 = p at *
  generalize partsL l2 s2 g2 v2 = q at *
  unfold begB
  by_cases h : q.length ≤ p.length
  · rw [if_pos (by omega), if_pos (by omega), if_pos (by omega), Int.toNat_natCast]
    have ht : (p.take q.length).length ≤ 1000000 := by rw [List.length_take]; omega
    rw [equal_f k _ _ ht (by rw [List.length_take]; omega)]
    simp [h]
  · rw [if_neg (by omega)]
    simp [h]
def glue (a : List UInt8) : List (List UInt8) → List (List UInt8)
  | [] => [a]
  | h :: t => (a ++ h) :: t
theorem split_run (s : ByteArray) (hs : s.size ≤ 1000000) (n : Nat) : ∀ (k i fr : Nat) (out : List ByteArray), n + 1 < k → fr ≤ i → i + n = s.size → out.length ≤ i →
    polyglotlaw03_split.l0 k s out (fr : Int) (i : Int) = some (out ++ (glue ((s.data.toList.drop fr).take (i - fr)) (cuts (s.data.toList.drop i))).map mkB) := by
  induction n with
  | zero =>
    intro k i fr out hk hf hi ho
    obtain ⟨k, rfl⟩ : ∃ j, k = j + 1 + 1 := ⟨k - 2, by omega⟩
    have ei : (i : Int) = (s.size : Int) := by omega
    rw [polyglotlaw03_split.l0, if_pos (by omega), if_pos ei, if_pos (by omega), if_pos (by omega)]
    simp only [Option.bind_some]
    rw [if_pos (by omega), wrap_id (x := (i : Int) + 1) (by omega) (by omega), polyglotlaw03_split.l0, if_neg (by omega)]
    have e0 : s.data.toList.drop i = [] := List.drop_of_length_le (by rw [tl_len]; omega)
    rw [e0]
    congr 2
    simp only [cuts, glue, List.append_nil, List.map_cons, List.map_nil]
    congr 1
    apply ba_ext
    rw [extract_list, mkB_data, Int.toNat_natCast, Int.toNat_natCast]
  | succ n ih =>
    intro k i fr out hk hf hi ho
    obtain ⟨k, rfl⟩ : ∃ j, k = j + 1 := ⟨k - 1, by omega⟩
    have hil : i < s.data.toList.length := by rw [tl_len]; omega
    rw [polyglotlaw03_split.l0, if_pos (by omega), if_neg (by omega), if_pos (by omega), if_pos (by omega)]
    have hb : bt s (i : Int) = (s.data.toList[i].toNat : Int) := by
      rw [← bt_at s (i : Int) (by omega)]
      rfl
    rw [hb, List.drop_eq_getElem_cons hil]
    by_cases hc : s.data.toList[i] = 45
    · rw [if_pos (by rw [hc]; rfl), if_pos (by omega), if_pos (by omega)]
      simp only [Option.bind_some]
      rw [if_pos (by omega), wrap_id (x := (i : Int) + 1) (by omega) (by omega)]
      have := ih k (i + 1) (i + 1) (out ++ [s.extract fr i]) (by omega) (by omega) (by omega) (by rw [List.length_append, List.length_singleton]; omega)
      refine Eq.trans this ?_
      rw [hc]
      congr 1
      have e0 : cuts (45 :: s.data.toList.drop (i + 1)) = [] :: cuts (s.data.toList.drop (i + 1)) := by
        show (if (45 : UInt8) = 45 then _ else _) = _
        rw [if_pos rfl]
      rw [e0]
      have e1 : glue ((s.data.toList.drop (i + 1)).take (i + 1 - (i + 1))) (cuts (s.data.toList.drop (i + 1))) = cuts (s.data.toList.drop (i + 1)) := by
        rw [Nat.sub_self, List.take_zero]
        cases h : cuts (s.data.toList.drop (i + 1)) with
        | nil => exact absurd h (cuts_ne _)
        | cons a b => rfl
      rw [e1]
      simp only [glue, List.append_nil, List.map_cons, List.append_assoc, List.cons_append, List.nil_append]
      congr 2
      apply ba_ext
      rw [extract_list, mkB_data]
    · have h45 : (45 : UInt8).toNat = 45 := rfl
      rw [if_neg (fun e => hc (UInt8.toNat_inj.1 (by omega))), wrap_id (x := (i : Int) + 1) (by omega) (by omega)]
      have := ih k (i + 1) fr out (by omega) (by omega) (by omega) (by omega)
      refine Eq.trans this ?_
      congr 3
      have e0 : cuts (s.data.toList[i] :: s.data.toList.drop (i + 1)) = match cuts (s.data.toList.drop (i + 1)) with | [] => [[s.data.toList[i]]] | h :: t => (s.data.toList[i] :: h) :: t := by
        show (if s.data.toList[i] = 45 then _ else _) = _
        rw [if_neg hc]
        rfl
      rw [e0]
      cases h : cuts (s.data.toList.drop (i + 1)) with
      | nil => exact absurd h (cuts_ne _)
      | cons a b =>
        simp only [glue]
        congr 1
        have e2 : (s.data.toList.drop fr).take (i + 1 - fr) = (s.data.toList.drop fr).take (i - fr) ++ [s.data.toList[i]] := by
          have e3 : i + 1 - fr = (i - fr) + 1 := by omega
          rw [e3, List.take_add_one, List.getElem?_drop]
          have e4 : fr + (i - fr) = i := by omega
          rw [e4, List.getElem?_eq_getElem hil]
          rfl
        rw [e2]
        simp
theorem lsplit_f (k : Nat) (s : ByteArray) (hs : s.size ≤ 1000000) (hk : s.size + 1 < k) : polyglotlaw03_split.f k s = some (pcs s) := by
  have := split_run s hs s.size k 0 0 [] hk (Nat.le_refl _) (by omega) (Nat.le_refl _)
  unfold polyglotlaw03_split.f
  refine Eq.trans this ?_
  unfold pcs
  simp only [List.drop_zero, Nat.sub_self, List.take_zero, List.nil_append]
  cases h : cuts s.data.toList with
  | nil => exact absurd h (cuts_ne _)
  | cons a b => rfl
end Go.Proofs.YtpedajhcfkohlaaDoor.Pure
