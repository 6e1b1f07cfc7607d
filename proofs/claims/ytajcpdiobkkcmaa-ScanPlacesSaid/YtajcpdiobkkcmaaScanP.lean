import Derived.Test.YtajcpdiobkkcmaaPScanx2
/- What the small functions of the scan's statements come to. -/
namespace Go.Proofs.Ytajcpdiobkkcmaa.Pure
open Go.RowKit Go.Proofs.Ytajcpdiobkkcmaa.PScan Go.Proofs.YtajcpdiobkkcmaaHand Go.Proofs.YtajcpdiobkkcmaaW.PrintWords Go.Proofs.YtajcpdiobkkcmaaW.PrintLast
theorem wrap_in {x : Int} (h1 : -9223372036854775808 ≤ x) (h2 : x ≤ 9223372036854775807) : wrap64 x = x := by unfold wrap64; omega
theorem scan_head (k : Nat) (hk : 20 ≤ k) : polyglotlaw06_head.f k = some true :=
  at_rounds polyglotlaw06_head.mono hk (by kernel_rfl)
def isLetter (c : Int) : Bool := decide (97 ≤ c ∧ c ≤ 122) || decide (65 ≤ c ∧ c ≤ 90)
def isDigit (c : Int) : Bool := decide (48 ≤ c ∧ c ≤ 57)
theorem letter_eq (c : Int) : scan_letter.f c = some (isLetter c) := by
  unfold scan_letter.f isLetter
  by_cases h1 : c ≥ 97
  · rw [if_pos h1]
    by_cases h2 : c ≤ 122
    · rw [if_pos h2]; simp [h2]; omega
    · rw [if_neg h2, if_pos (by omega)]; congr 1; rw [Bool.eq_iff_iff]; simp; omega
  · rw [if_neg h1]
    by_cases h2 : c ≥ 65
    · rw [if_pos h2]; congr 1; rw [Bool.eq_iff_iff]; simp; omega
    · rw [if_neg h2]; congr 1; rw [eq_comm, Bool.eq_false_iff]; simp; omega
theorem digit_eq (c : Int) : scan_digit.f c = some (isDigit c) := by
  unfold scan_digit.f isDigit
  by_cases h1 : c ≥ 48
  · rw [if_pos h1]; simp; omega
  · rw [if_neg h1]; simp; omega
def isNameC (c : Int) : Bool := isLetter c || isDigit c || c == 95 || c == 45
theorem name1_eq (c : Int) : scan_Name_1.f c = some (isNameC c) := by
  unfold scan_Name_1.f isNameC
  rw [letter_eq, digit_eq]
  simp only [Option.bind_some]
  cases isLetter c <;> cases isDigit c <;> simp
  split <;> simp_all
/-- A loop that goes on while bytes are so: where it ends. -/
theorem while_at (L : Nat → ByteArray → Int → Option Int) (P : Int → Option Bool) (p : Int → Bool) (hP : ∀ c, P c = some (p c)) (s : ByteArray)
    (hL : ∀ k i, L (k + 1) s i = if i ≥ 0 then (if i < (s.size : Int) then (if 0 ≤ i then ((P (bt s i)).bind fun t => (if t = true then (L k s (wrap64 (i + 1))) else (some i))) else (none)) else (some i)) else (some i))
    (hn : s.size ≤ 140737488351232) (d : Nat) : ∀ (k : Nat) (i : Int), 0 ≤ i → (s.size : Int) - i ≤ d → d < k →
    ∃ e : Int, L k s i = some e ∧ i ≤ e ∧ (e ≤ s.size ∨ e = i) ∧ (∀ j, i ≤ j → j < e → p (bt s j) = true) ∧ (e < s.size → p (bt s e) = false) := by
  induction d with
  | zero =>
    intro k i h0 h1 hk
    obtain ⟨k, rfl⟩ : ∃ m, k = m + 1 := ⟨k - 1, by omega⟩
    exact ⟨i, by rw [hL, if_pos h0, if_neg (by omega)], Int.le_refl _, .inr rfl, fun j _ _ => by omega, fun h => by omega⟩
  | succ d ih =>
    intro k i h0 h1 hk
    obtain ⟨k, rfl⟩ : ∃ m, k = m + 1 := ⟨k - 1, by omega⟩
    by_cases hi : i < (s.size : Int)
    · cases hp : p (bt s i) with
      | false =>
        refine ⟨i, ?_, Int.le_refl _, .inr rfl, fun j _ _ => by omega, fun _ => hp⟩
        rw [hL, if_pos h0, if_pos hi, if_pos h0, hP, hp]; rfl
      | true =>
        obtain ⟨e, he, h2, h3, h4, h5⟩ := ih k (i + 1) (by omega) (by omega) (by omega)
        refine ⟨e, ?_, by omega, by omega, fun j ha hb => ?_, h5⟩
        · rw [hL, if_pos h0, if_pos hi, if_pos h0, hP, hp]
          simp only [Option.bind_some, if_true]
          rw [wrap_in (by omega) (by omega)]; exact he
        · by_cases hj : j = i
          · rw [hj]; exact hp
          · exact h4 j (by omega) hb
    · exact ⟨i, by rw [hL, if_pos h0, if_neg hi], Int.le_refl _, .inr rfl, fun j _ _ => by omega, fun h => by omega⟩
theorem at_eq (s : ByteArray) (i : Int) : scan_at.f s i = some (if 0 ≤ i ∧ i < (s.size : Int) then bt s i else 0) := by
  unfold scan_at.f
  by_cases h1 : i < 0
  · rw [if_pos h1, if_neg (by omega)]
  · rw [if_neg h1]
    by_cases h2 : i ≥ (s.size : Int)
    · rw [if_pos h2, if_neg (by omega)]
    · rw [if_neg h2, if_pos (by omega), if_pos (by omega), if_pos (by omega)]
theorem bt_ext (s : ByteArray) (a b : Nat) (j : Int) (h0 : 0 ≤ j) (hab : b ≤ s.size) (hj : a + j < b) : bt (s.extract a b) j = bt s (a + j) := by
  unfold bt
  have e1 : (s.extract a b).size = b - a := by simp; omega
  have e2 : j.toNat < (s.extract a b).size := by omega
  have e3 : (a + j).toNat < s.size := by omega
  rw [dif_pos e2, dif_pos e3]
  have e4 : (a + j).toNat = a + j.toNat := by omega
  simp [ByteArray.getElem_extract, e4]
theorem size_ext (s : ByteArray) (a b : Nat) (hab : b ≤ s.size) : (s.extract a b).size = b - a := by simp; omega
end Go.Proofs.Ytajcpdiobkkcmaa.Pure
