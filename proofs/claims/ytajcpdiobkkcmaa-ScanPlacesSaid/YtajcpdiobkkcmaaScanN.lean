import Derived.Test.YtajcpdiobkkcmaaPScanx3
import Derived.Test.YtajcpdiobkkcmaaScanP
/- What scan.Name and the statement's own Name come to. -/
namespace Go.Proofs.Ytajcpdiobkkcmaa.Pure
open Go.RowKit Go.Proofs.Ytajcpdiobkkcmaa.PScan Go.Proofs.YtajcpdiobkkcmaaHand Go.Proofs.YtajcpdiobkkcmaaW.PrintWords Go.Proofs.YtajcpdiobkkcmaaW.PrintLast
theorem lawLetter_eq (c : Int) : polyglotlaw06_letter.f c = some (isLetter c) := letter_eq c
theorem lawDigit_eq (c : Int) : polyglotlaw06_digit.f c = some (isDigit c) := digit_eq c
/-- Is a text a name? -/
def NameIs (s : ByteArray) : Prop := 0 < s.size ∧ isLetter (bt s 0) = true ∧ ∀ j : Int, 0 ≤ j → j < s.size → isNameC (bt s j) = true
theorem name_run (s : ByteArray) (hn : s.size ≤ 140737488351232) (d : Nat) : ∀ (k : Nat) (i : Int), 0 ≤ i → i ≤ s.size → (s.size : Int) - i = d → d < k →
    ∃ r, polyglotlaw06_Name.l0 k s i = some r ∧ (r = true ↔ (0 < s.size ∧ (∀ j : Int, i ≤ j → j < s.size → isNameC (bt s j) = true) ∧ (i = 0 → isLetter (bt s 0) = true))) := by
  induction d with
  | zero =>
    intro k i h0 h1 hd hk
    obtain ⟨k, rfl⟩ : ∃ m, k = m + 1 := ⟨k - 1, by omega⟩
    refine ⟨decide ((s.size : Int) > 0), by simp only [polyglotlaw06_Name.l0]; rw [if_neg (by omega)], ?_⟩
    constructor
    · intro h
      have : (s.size : Int) > 0 := by simpa using h
      exact ⟨by omega, fun j _ _ => by omega, fun h => by omega⟩
    · intro h; simp; omega
  | succ d ih =>
    intro k i h0 h1 hd hk
    obtain ⟨k, rfl⟩ : ∃ m, k = m + 1 := ⟨k - 1, by omega⟩
    obtain ⟨r, hr, hr2⟩ := ih k (i + 1) (by omega) (by omega) (by omega) (by omega)
    have hi : i < (s.size : Int) := by omega
    have go : ∀ b, isNameC (bt s i) = true → (i = 0 → isLetter (bt s 0) = true) → (b = true ↔ (0 < s.size ∧ (∀ j : Int, i + 1 ≤ j → j < s.size → isNameC (bt s j) = true) ∧ (i + 1 = 0 → isLetter (bt s 0) = true))) →
        (b = true ↔ (0 < s.size ∧ (∀ j : Int, i ≤ j → j < s.size → isNameC (bt s j) = true) ∧ (i = 0 → isLetter (bt s 0) = true))) := by
      intro b hc hl hb
      rw [hb]
      constructor
      · rintro ⟨a1, a2, a3⟩
        refine ⟨a1, fun j j1 j2 => ?_, hl⟩
        by_cases e : j = i
        · rw [e]; exact hc
        · exact a2 j (by omega) j2
      · rintro ⟨a1, a2, a3⟩
        exact ⟨a1, fun j j1 j2 => a2 j (by omega) j2, fun h => by omega⟩
    have stop : isNameC (bt s i) = false ∨ (i = 0 ∧ isLetter (bt s 0) = false) → (false = true ↔ (0 < s.size ∧ (∀ j : Int, i ≤ j → j < s.size → isNameC (bt s j) = true) ∧ (i = 0 → isLetter (bt s 0) = true))) := by
      intro h
      constructor
      · intro h; cases h
      · rintro ⟨a1, a2, a3⟩
        rcases h with h | ⟨h, h2⟩
        · rw [a2 i (Int.le_refl _) hi] at h; cases h
        · rw [a3 h] at h2; cases h2
    have w : wrap64 (i + 1) = i + 1 := wrap_in (by omega) (by omega)
    simp only [polyglotlaw06_Name.l0]
    rw [if_pos hi, if_pos h0, lawLetter_eq, lawDigit_eq]
    simp only [Option.bind_some]
    by_cases hl : isLetter (bt s i) = true
    · rw [if_pos hl, w]
      exact ⟨r, hr, go r (by unfold isNameC; rw [hl]; rfl) (fun e => e ▸ hl) hr2⟩
    · rw [if_neg hl]
      have hl' : isLetter (bt s i) = false := by simpa using hl
      by_cases hz : i = 0
      · rw [if_pos hz]
        exact ⟨false, rfl, stop (.inr ⟨hz, hz ▸ hl'⟩)⟩
      · rw [if_neg hz]
        by_cases hd' : isDigit (bt s i) = true
        · rw [if_pos hd', w]
          exact ⟨r, hr, go r (by unfold isNameC; rw [hd']; simp) (fun e => absurd e hz) hr2⟩
        · rw [if_neg hd']
          have hd2 : isDigit (bt s i) = false := by simpa using hd'
          by_cases h95 : bt s i = 95
          · rw [if_pos h95, w]
            exact ⟨r, hr, go r (by unfold isNameC; rw [h95]; decide) (fun e => absurd e hz) hr2⟩
          · rw [if_neg h95]
            by_cases h45 : bt s i = 45
            · rw [if_pos h45, w]
              exact ⟨r, hr, go r (by unfold isNameC; rw [h45]; decide) (fun e => absurd e hz) hr2⟩
            · rw [if_neg h45]
              refine ⟨false, rfl, stop (.inl ?_)⟩
              unfold isNameC
              rw [hl', hd2]; simp [h95, h45]
theorem lawName_eq (s : ByteArray) (hn : s.size ≤ 140737488351232) (k : Nat) (hk : s.size < k) : ∃ r, polyglotlaw06_Name.f k s = some r ∧ (r = true ↔ NameIs s) := by
  obtain ⟨r, h1, h2⟩ := name_run s hn s.size k 0 (by omega) (by omega) (by omega) hk
  refine ⟨r, h1, h2.trans ?_⟩
  unfold NameIs
  constructor
  · rintro ⟨a, b, c⟩; exact ⟨a, c rfl, b⟩
  · rintro ⟨a, b, c⟩; exact ⟨a, c, fun _ => b⟩
theorem while38_spec (s : ByteArray) (hn : s.size ≤ 140737488351232) (k : Nat) (i : Int) (h0 : 0 ≤ i) (hk : s.size < k) :
    ∃ e : Int, scan_while_38.f k s i 38 = some e ∧ i ≤ e ∧ (e ≤ s.size ∨ e = i) ∧ (∀ j, i ≤ j → j < e → isNameC (bt s j) = true) ∧ (e < s.size → isNameC (bt s e) = false) :=
  while_at scan_while_38.l0 scan_Name_1.f isNameC name1_eq s (fun k i => by simp only [scan_while_38.l0]) hn s.size k i h0 (by omega) hk
/-- Where a name ends that begins at a place: the place, where none does. -/
theorem Name_spec (s : ByteArray) (hn : s.size ≤ 140737488351232) (k : Nat) (i : Int) (hk : s.size < k) :
    ∃ e : Int, scan_Name.f k s i = some e ∧ i ≤ e ∧ (e = i ∨ (0 ≤ i ∧ e ≤ s.size ∧ isLetter (bt s i) = true)) ∧ (∀ j, i ≤ j → j < e → isNameC (bt s j) = true) ∧
      (e = i → 0 ≤ i → i < s.size → isLetter (bt s i) = false) ∧ (i < e → e < s.size → isNameC (bt s e) = false) := by
  unfold scan_Name.f
  rw [at_eq]
  simp only [Option.bind_some, letter_eq]
  by_cases hi : 0 ≤ i ∧ i < (s.size : Int)
  · rw [if_pos hi]
    by_cases hl : isLetter (bt s i) = true
    · rw [if_pos hl]
      obtain ⟨e, h1, h2, h3, h4, h5⟩ := while38_spec s hn k i hi.1 hk
      rw [h1]
      have hne : i < e := by
        rcases Int.lt_or_eq_of_le h2 with h | h
        · exact h
        · subst h
          have := h5 hi.2
          unfold isNameC at this; rw [hl] at this; simp at this
      exact ⟨e, rfl, h2, .inr ⟨hi.1, by omega, hl⟩, h4, fun h => by omega, fun _ => h5⟩
    · rw [if_neg hl]
      exact ⟨i, rfl, Int.le_refl _, .inl rfl, fun j _ _ => by omega, fun _ _ _ => by simpa using hl, fun h => by omega⟩
  · rw [if_neg hi, if_neg (by decide)]
    exact ⟨i, rfl, Int.le_refl _, .inl rfl, fun j _ _ => by omega, fun _ h1 h2 => absurd ⟨h1, h2⟩ hi, fun h => by omega⟩
end Go.Proofs.Ytajcpdiobkkcmaa.Pure
