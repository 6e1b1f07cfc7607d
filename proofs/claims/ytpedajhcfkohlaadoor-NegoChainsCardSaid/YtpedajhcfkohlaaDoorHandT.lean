import Derived.Test.YtpedajhcfkohlaaDoorPLowx1
/- The small functions of the tags, in plain words, for every input of any size at hand. -/
namespace Go.Proofs.YtpedajhcfkohlaaDoorHand
open Go.RowKit Go.Proofs.YtpedajhcfkohlaaDoor.PLow Go.Proofs.YtpedajhcfkohlaaDoorW.PrintWords Go.Proofs.YtpedajhcfkohlaaDoorW.PrintLast Go.Proofs.YtpedajhcfkohlaaDoorW.PrintMore
set_option linter.unusedVariables false
set_option linter.unusedSimpArgs false
theorem wrap_id {x : Int} (h1 : -9223372036854775808 ≤ x) (h2 : x ≤ 9223372036854775807) : wrap64 x = x := by unfold wrap64; omega
def letB (c : Int) : Bool := decide ((97 ≤ c ∧ c ≤ 122) ∨ (65 ≤ c ∧ c ≤ 90))
def digB (c : Int) : Bool := decide (48 ≤ c ∧ c ≤ 57)
def eitB (c : Int) : Bool := letB c || digB c
theorem letter_eq (c : Int) : tag_letter.f c = some (letB c) := by
  unfold tag_letter.f letB
  by_cases a : c ≥ 97
  · rw [if_pos a]
    by_cases b : c ≤ 122
    · rw [if_pos b]; congr 1; rw [eq_comm, decide_eq_true_eq]; omega
    · rw [if_neg b, if_pos (by omega)]; congr 1; apply decide_eq_decide.2; omega
  · rw [if_neg a]
    by_cases b : c ≥ 65
    · rw [if_pos b]; congr 1; apply decide_eq_decide.2; omega
    · rw [if_neg b]; congr 1; rw [eq_comm, decide_eq_false_iff_not]; omega
theorem digit_eq (c : Int) : tag_digit.f c = some (digB c) := by
  unfold tag_digit.f digB
  by_cases a : c ≥ 48
  · rw [if_pos a]; congr 1; apply decide_eq_decide.2; omega
  · rw [if_neg a]; congr 1; rw [eq_comm, decide_eq_false_iff_not]; omega
theorem either_eq (c : Int) : tag_either.f c = some (eitB c) := by
  unfold tag_either.f eitB
  rw [letter_eq, digit_eq]
  simp only [Option.bind_some]
  cases letB c <;> simp
def allB (P : Int → Bool) (s : ByteArray) : Bool := (bytesOf s).all P && (s.toList != ([] : List UInt8))
theorem all_run (P : Int → Bool) (s : ByteArray) (hs : s.size ≤ 1000000) (L : Nat → Int → Option Bool)
    (hL : ∀ k x, L (k + 1) x = if x < (s.size : Int) then (if 0 ≤ x then (if x < (s.size : Int) then ((some (P (bt s x))).bind fun t => (if t = true then L k (wrap64 (x + 1)) else some false)) else none) else none) else some (s.toList != ([] : List UInt8))) (n : Nat) :
    ∀ (k i : Nat), n < k → i + n = s.size → L k (i : Int) = some (((bytesOf s).drop i).all P && (s.toList != ([] : List UInt8))) := by
  induction n with
  | zero =>
    intro k i hk hi
    obtain ⟨k, rfl⟩ : ∃ j, k = j + 1 := ⟨k - 1, by omega⟩
    rw [hL, if_neg (by omega), List.drop_of_length_le (by rw [bytesOf_length]; omega)]
    rfl
  | succ n ih =>
    intro k i hk hi
    obtain ⟨k, rfl⟩ : ∃ j, k = j + 1 := ⟨k - 1, by omega⟩
    rw [hL, if_pos (by omega), if_pos (by omega), if_pos (by omega), wrap_id (x := (i : Int) + 1) (by omega) (by omega)]
    have hl : i < (bytesOf s).length := by rw [bytesOf_length]; omega
    have e : (bytesOf s)[i] = bt s i := by
      have := rd_bytesOf s i
      rw [← this]
      unfold rd
      simp [List.getD_eq_getElem?_getD, List.getElem?_eq_getElem hl]
    rw [List.drop_eq_getElem_cons hl, List.all_cons, e]
    simp only [Option.bind_some]
    cases h : P (bt s i) with
    | true =>
      rw [if_pos rfl, Bool.true_and]
      have := ih k (i + 1) (by omega) (by omega)
      rw [← this]; rfl
    | false => rw [if_neg (by simp)]; rfl
theorem all37_eq (k : Nat) (s : ByteArray) (a : Nat) (hs : s.size ≤ 1000000) (hk : s.size < k) : tag_all_37.f k s a = some (allB letB s) := by
  have := all_run letB s hs (fun k x => tag_all_37.l0 k s (s.size : Int) x) (fun k x => by show tag_all_37.l0 (k + 1) s (s.size : Int) x = _; rw [tag_all_37.l0, letter_eq]) s.size k 0 hk (by omega)
  exact this
theorem all60_eq (k : Nat) (s : ByteArray) (a : Nat) (hs : s.size ≤ 1000000) (hk : s.size < k) : tag_all_60.f k s a = some (allB digB s) := by
  have := all_run digB s hs (fun k x => tag_all_60.l0 k s (s.size : Int) x) (fun k x => by show tag_all_60.l0 (k + 1) s (s.size : Int) x = _; rw [tag_all_60.l0, digit_eq]) s.size k 0 hk (by omega)
  exact this
theorem all61_eq (k : Nat) (s : ByteArray) (a : Nat) (hs : s.size ≤ 1000000) (hk : s.size < k) : tag_all_61.f k s a = some (allB eitB s) := by
  have := all_run eitB s hs (fun k x => tag_all_61.l0 k s (s.size : Int) x) (fun k x => by show tag_all_61.l0 (k + 1) s (s.size : Int) x = _; rw [tag_all_61.l0, either_eq]) s.size k 0 hk (by omega)
  exact this
def scrB (s : ByteArray) : Bool := decide (s.size = 4) && allB letB s
def regB (s : ByteArray) : Bool := decide (s.size = 2) && allB letB s || decide (s.size = 3) && allB digB s
def varB (s : ByteArray) : Bool := allB eitB s && (decide (5 ≤ s.size ∧ s.size ≤ 8) || decide (s.size = 4) && digB (bt s 0))
theorem script_eq (k : Nat) (s : ByteArray) (hs : s.size ≤ 1000000) (hk : s.size < k) : tag_isScript.f k s = some (scrB s) := by
  unfold tag_isScript.f scrB
  rw [all37_eq k s 37 hs hk]
  by_cases h : s.size = 4
  · rw [if_pos (by omega)]; simp [h]
  · rw [if_neg (by omega)]; simp [h]
theorem region_eq (k : Nat) (s : ByteArray) (hs : s.size ≤ 1000000) (hk : s.size < k) : tag_isRegion.f k s = some (regB s) := by
  unfold tag_isRegion.f regB
  rw [all37_eq k s 37 hs hk, all60_eq k s 60 hs hk]
  simp only [Option.bind_some]
  by_cases h : s.size = 2
  · rw [if_pos (by omega)]
    cases allB letB s with
    | true => rw [if_pos rfl]; simp [h]
    | false => rw [if_neg (by simp), if_neg (by omega)]; simp [h]
  · rw [if_neg (by omega)]
    by_cases h3 : s.size = 3
    · rw [if_pos (by omega)]; simp [h, h3]
    · rw [if_neg (by omega)]; simp [h, h3]
theorem variant_eq (k : Nat) (s : ByteArray) (hs : s.size ≤ 1000000) (hk : s.size < k) : tag_isVariant.f k s = some (varB s) := by
  unfold tag_isVariant.f varB
  rw [all61_eq k s 61 hs hk, digit_eq]
  simp only [Option.bind_some]
  cases allB eitB s with
  | false => simp
  | true =>
    rw [if_pos rfl]
    by_cases h4 : s.size = 4
    · rw [if_neg (by omega), if_pos (by omega), if_pos (by omega)]
      simp [h4]
    · by_cases h5 : (s.size : Int) ≥ 5
      · rw [if_pos h5]
        by_cases h8 : (s.size : Int) ≤ 8
        · rw [if_pos h8]; congr 1; have : 5 ≤ s.size ∧ s.size ≤ 8 := by omega
          simp [this]
        · rw [if_neg h8, if_neg (by omega)]; congr 1; have : ¬ (5 ≤ s.size ∧ s.size ≤ 8) := by omega
          simp [this, h4]
      · rw [if_neg h5, if_neg (by omega)]; congr 1; have : ¬ (5 ≤ s.size ∧ s.size ≤ 8) := by omega
        simp [this, h4]
def hasS (l : List ByteArray) (x : ByteArray) : Bool := l.any (fun y => decide (x.toList = y.toList))
theorem index_run (l : List ByteArray) (x : ByteArray) (hl : l.length ≤ 1000000) (n : Nat) : ∀ (k i : Nat), n < k → i + n = l.length →
    ∃ r, slices_Index_string_string.l0 k l x (l.length : Int) (i : Int) = some r ∧ (decide (r ≥ 0)) = hasS (l.drop i) x := by
  induction n with
  | zero =>
    intro k i hk hi
    obtain ⟨k, rfl⟩ : ∃ j, k = j + 1 := ⟨k - 1, by omega⟩
    refine ⟨-1, ?_, ?_⟩
    · rw [slices_Index_string_string.l0, if_neg (by omega)]
    · rw [List.drop_of_length_le (by omega)]; rfl
  | succ n ih =>
    intro k i hk hi
    obtain ⟨k, rfl⟩ : ∃ j, k = j + 1 := ⟨k - 1, by omega⟩
    have hil : i < l.length := by omega
    have e : rdOf ByteArray.empty l (i : Int) = l[i] := by
      unfold rdOf
      simp [List.getD_eq_getElem?_getD, List.getElem?_eq_getElem hil]
    rw [slices_Index_string_string.l0, if_pos (by omega), if_pos (by omega), if_pos (by omega), e, wrap_id (x := (i : Int) + 1) (by omega) (by omega), List.drop_eq_getElem_cons hil]
    by_cases h : x.toList = l[i].toList
    · refine ⟨i, if_pos h, ?_⟩
      unfold hasS
      rw [List.any_cons]
      simp [h]
    · obtain ⟨r, h1, h2⟩ := ih k (i + 1) (by omega) (by omega)
      refine ⟨r, ?_, ?_⟩
      · rw [if_neg h]; exact h1
      · rw [h2]; unfold hasS; rw [List.any_cons]; simp [h]
theorem contains_eq (k : Nat) (l : List ByteArray) (x : ByteArray) (hl : l.length ≤ 1000000) (hk : l.length < k) : slices_Contains_string_string.f k l x = some (hasS l x) := by
  obtain ⟨r, h1, h2⟩ := index_run l x hl l.length k 0 hk (by omega)
  unfold slices_Contains_string_string.f slices_Index_string_string.f
  have h1' : slices_Index_string_string.l0 k l x (l.length : Int) 0 = some r := h1
  rw [h1', Option.bind_some, h2]
  rfl
/-! The contracts, for every text of any size at hand. -/
theorem script_calls (s : ByteArray) (hs : s.size ≤ 1000000) (w : World) : Calls Tryd.prog 39 #[.string s] w fun e w' => e = .returned (.bool (scrB s)) ∧ Drawn0 w w' := tag_isScript.calls (s.size + 1) s _ w (script_eq _ s hs (by omega))
theorem region_calls (s : ByteArray) (hs : s.size ≤ 1000000) (w : World) : Calls Tryd.prog 40 #[.string s] w fun e w' => e = .returned (.bool (regB s)) ∧ Drawn0 w w' := tag_isRegion.calls (s.size + 1) s _ w (region_eq _ s hs (by omega))
theorem variant_calls (s : ByteArray) (hs : s.size ≤ 1000000) (w : World) : Calls Tryd.prog 41 #[.string s] w fun e w' => e = .returned (.bool (varB s)) ∧ Drawn0 w w' := tag_isVariant.calls (s.size + 1) s _ w (variant_eq _ s hs (by omega))
theorem letters_calls (s : ByteArray) (hs : s.size ≤ 1000000) (w : World) : Calls Tryd.prog 36 #[.string s, .func (.func 37) #[] #[]] w fun e w' => e = .returned (.bool (allB letB s)) ∧ Drawn0 w w' := tag_all_37.calls (s.size + 1) s 37 _ w (all37_eq _ s 37 hs (by omega))
def foldS (up : Bool) (s : ByteArray) : ByteArray := ⟨(foldL up s.data.toList).toArray⟩
theorem foldS_size (up : Bool) (s : ByteArray) : (foldS up s).size = s.size := by
  show ((foldL up s.data.toList).toArray).size = s.size
  rw [List.size_toArray, foldL, List.length_map, Array.length_toList]; rfl
theorem fold_calls (s : ByteArray) (up : Bool) (hs : s.size ≤ 1000000) (w : World) : Calls Tryd.prog 38 #[.string s, .bool up] w fun e w' => e = .returned (.string (foldS up s)) ∧ Below w.heap.size w w' :=
  tag_fold.calls s up _ w (by unfold tag_fold.f; rw [if_pos hs]; rfl)
theorem contains_calls (A : Option Addr) (c : Nat) (l : List ByteArray) (x : ByteArray) (w : World) (hr : Kd.C Kd.string w A l.length l) (hc : l.length ≤ c) (hl : l.length ≤ 1000000) :
    Calls Tryd.prog 42 #[.slice A l.length c, .string x] w fun e w' => e = .returned (.bool (hasS l x)) ∧ Drawn0 w w' := slices_Contains_string_string.calls (l.length + 1) A c l x _ w hr hc (contains_eq _ l x hl (by omega))
end Go.Proofs.YtpedajhcfkohlaaDoorHand
