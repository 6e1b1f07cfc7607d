import Derived.Test.YtajcpdiobkkcmaaScanL
/- Whatever text and place: the longest run of spaces, of blanks, the longest name and the longest number that stand there. -/
namespace Go.Proofs.Ytajcpdiobkkcmaa.Pure
open Go.RowKit Go.Proofs.Ytajcpdiobkkcmaa.PScan Go.Proofs.YtajcpdiobkkcmaaHand Go.Proofs.YtajcpdiobkkcmaaW.PrintWords Go.Proofs.YtajcpdiobkkcmaaW.PrintLast
/-- How many points stand among the last d bytes ahead of a place. -/
def cnt (s : ByteArray) (m : Int) : Nat → Int
  | 0 => 0
  | d + 1 => (if bt s (m - (d + 1 : Nat)) = 46 then 1 else 0) + cnt s m d
theorem cnt_pos (s : ByteArray) (m : Int) (d : Nat) : 0 ≤ cnt s m d := by
  induction d with
  | zero => exact Int.le_refl _
  | succ d ih => unfold cnt; split <;> omega
theorem cnt_one_le (s : ByteArray) (m a : Int) (ha : bt s a = 46) (d : Nat) (h1 : m - d ≤ a) (h2 : a < m) : 1 ≤ cnt s m d := by
  induction d with
  | zero => omega
  | succ d ih =>
    unfold cnt
    have p := cnt_pos s m d
    by_cases e : a = m - (d + 1 : Nat)
    · rw [← e, if_pos ha]; omega
    · have := ih (by omega); split <;> omega
theorem cnt_two (s : ByteArray) (m a c : Int) (ha : bt s a = 46) (hc : bt s c = 46) (hac : a < c) (h2 : c < m) (d : Nat) (h1 : m - d ≤ a) : 2 ≤ cnt s m d := by
  induction d with
  | zero => omega
  | succ d ih =>
    unfold cnt
    by_cases e : a = m - (d + 1 : Nat)
    · have := cnt_one_le s m c hc d (by omega) h2
      rw [← e, if_pos ha]; omega
    · have := ih (by omega); split <;> omega
theorem cnt_zero (s : ByteArray) (m : Int) (d : Nat) (h : ∀ j, m - d ≤ j → j < m → bt s j ≠ 46) : cnt s m d = 0 := by
  induction d with
  | zero => rfl
  | succ d ih =>
    unfold cnt
    rw [if_neg (h _ (Int.le_refl _) (by omega)), ih (fun j h1 h2 => h j (by omega) h2)]; rfl
theorem cnt_le_one (s : ByteArray) (m q : Int) (d : Nat) (h : ∀ j, m - d ≤ j → j < m → j ≠ q → bt s j ≠ 46) : cnt s m d ≤ 1 := by
  induction d with
  | zero => unfold cnt; decide
  | succ d ih =>
    unfold cnt
    by_cases e : q = m - (d + 1 : Nat)
    · have := cnt_zero s m d (fun j h1 h2 => h j (by omega) h2 (by omega))
      split <;> omega
    · rw [if_neg (h _ (Int.le_refl _) (by omega) (fun h => e h.symm))]
      have := ih (fun j h1 h2 h3 => h j (by omega) h2 h3)
      omega
theorem cnt_same (s t : ByteArray) (m n : Int) (d : Nat) (h : ∀ j : Nat, 0 < j → j ≤ d → bt s (m - j) = bt t (n - j)) : cnt s m d = cnt t n d := by
  induction d with
  | zero => rfl
  | succ d ih =>
    unfold cnt
    rw [h (d + 1) (by omega) (by omega), ih (fun j h1 h2 => h j h1 (by omega))]
theorem num_run (t : ByteArray) (hn : t.size ≤ 140737488351232) (d : Nat) : ∀ (k : Nat) (pts x : Int), 0 ≤ x → (t.size : Int) - x = d → 2 * d < k → 0 ≤ pts → pts ≤ x →
    ∃ r, polyglotlaw06_Number.l0 k t pts x = some r ∧ (r = true ↔ (0 < t.size ∧ (∀ j : Int, x ≤ j → j < t.size → isDigit (bt t j) = true ∨ (bt t j = 46 ∧ 0 < j ∧ j < (t.size : Int) - 1)) ∧ pts + cnt t t.size d ≤ 1)) := by
  induction d with
  | zero =>
    intro k pts x h0 hd hk hp hp2
    obtain ⟨k, rfl⟩ : ∃ m, k = m + 1 := ⟨k - 1, by omega⟩
    simp only [polyglotlaw06_Number.l0]
    rw [if_neg (by omega)]
    by_cases hs : (t.size : Int) > 0
    · rw [if_pos hs]
      refine ⟨_, rfl, ?_⟩
      rw [decide_eq_true_eq]
      constructor
      · intro h; exact ⟨by omega, fun j _ _ => by omega, by unfold cnt; omega⟩
      · rintro ⟨_, _, h⟩; unfold cnt at h; omega
    · rw [if_neg hs]
      exact ⟨false, rfl, ⟨fun h => (by cases h), fun h => by omega⟩⟩
  | succ d ih =>
    intro k pts x h0 hd hk hp hp2
    obtain ⟨k, rfl⟩ : ∃ m, k = m + 1 + 1 := ⟨k - 2, by omega⟩
    have hx : x < (t.size : Int) := by omega
    have w : wrap64 (x + 1) = x + 1 := wrap_in (by omega) (by omega)
    have hc : cnt t t.size (d + 1) = (if bt t x = 46 then 1 else 0) + cnt t t.size d := by
      have e : (t.size : Int) - (d + 1 : Nat) = x := by omega
      rw [cnt, e]
    have d46 : isDigit 46 = false := by decide
    have j3f : ∃ r, polyglotlaw06_Number.j3 (k + 1) t pts x false = some r ∧ (bt t x ≠ 46 ∨ ¬ (0 < x ∧ x < (t.size : Int) - 1) → (r = true ↔ (0 < t.size ∧ (∀ j : Int, x ≤ j → j < t.size → isDigit (bt t j) = true ∨ (bt t j = 46 ∧ 0 < j ∧ j < (t.size : Int) - 1)) ∧ pts + cnt t t.size (d + 1) ≤ 1))) := by
      simp only [polyglotlaw06_Number.j3]
      rw [if_neg (by simp), if_pos h0, if_pos hx, lawDigit_eq]
      simp only [Option.bind_some]
      by_cases hdg : isDigit (bt t x) = true
      · rw [if_pos hdg, w]
        obtain ⟨r, q1, q2⟩ := ih k pts (x + 1) (by omega) (by omega) (by omega) hp (by omega)
        refine ⟨r, q1, fun _ => ?_⟩
        have n46 : bt t x ≠ 46 := fun h => by rw [h, d46] at hdg; cases hdg
        rw [hc, if_neg n46, q2]
        constructor
        · rintro ⟨a1, a2, a3⟩
          refine ⟨a1, fun j j1 j2 => ?_, by omega⟩
          by_cases e : j = x
          · rw [e]; exact .inl hdg
          · exact a2 j (by omega) j2
        · rintro ⟨a1, a2, a3⟩
          exact ⟨a1, fun j j1 j2 => a2 j (by omega) j2, by omega⟩
      · rw [if_neg hdg]
        refine ⟨false, rfl, fun hh => ⟨fun h => (by cases h), ?_⟩⟩
        rintro ⟨a1, a2, a3⟩
        rcases a2 x (Int.le_refl _) hx with h | ⟨h, h2⟩
        · exact absurd h hdg
        · rcases hh with hh | hh
          · exact absurd h hh
          · exact absurd h2 hh
    obtain ⟨r, f1, f2⟩ := j3f
    rw [polyglotlaw06_Number.l0]
    rw [if_pos hx, if_pos h0]
    by_cases hp46 : bt t x = 46
    · rw [if_pos hp46]
      by_cases hx0 : x > 0
      · rw [if_pos hx0, wrap_in (x := (t.size : Int) - 1) (by omega) (by omega)]
        by_cases hx1 : x < (t.size : Int) - 1
        · rw [decide_eq_true hx1]
          rw [polyglotlaw06_Number.j3, if_pos rfl, w, wrap_in (x := pts + 1) (by omega) (by omega)]
          obtain ⟨r', q1, q2⟩ := ih k (pts + 1) (x + 1) (by omega) (by omega) (by omega) (by omega) (by omega)
          refine ⟨r', q1, ?_⟩
          rw [hc, if_pos hp46, q2]
          constructor
          · rintro ⟨a1, a2, a3⟩
            refine ⟨a1, fun j j1 j2 => ?_, by omega⟩
            by_cases e : j = x
            · rw [e]; exact .inr ⟨hp46, hx0, hx1⟩
            · exact a2 j (by omega) j2
          · rintro ⟨a1, a2, a3⟩
            exact ⟨a1, fun j j1 j2 => a2 j (by omega) j2, by omega⟩
        · rw [decide_eq_false hx1]
          exact ⟨r, f1, f2 (.inr (fun h => hx1 h.2))⟩
      · rw [if_neg hx0]
        exact ⟨r, f1, f2 (.inr (fun h => hx0 h.1))⟩
    · rw [if_neg hp46]
      exact ⟨r, f1, f2 (.inl hp46)⟩
/-- Is it a number that stands from b to m, a hyphen ahead of it apart? -/
def NumAt (s : ByteArray) (b m : Int) : Prop := b < m ∧ (∀ j : Int, b ≤ j → j < m → isDigit (bt s j) = true ∨ (bt s j = 46 ∧ b < j ∧ j < m - 1)) ∧ cnt s m (m - b).toNat ≤ 1
theorem num_at (s t : ByteArray) (b m : Int) (hn : t.size ≤ 140737488351232) (hs : (t.size : Int) = m - b) (ht : ∀ j : Int, 0 ≤ j → j < t.size → bt t j = bt s (b + j)) :
    ∃ r, polyglotlaw06_Number.l0 (2 * t.size + 1) t 0 0 = some r ∧ (r = true ↔ NumAt s b m) := by
  obtain ⟨r, h1, h2⟩ := num_run t hn t.size (2 * t.size + 1) 0 0 (by omega) (by omega) (by omega) (by omega) (by omega)
  refine ⟨r, h1, h2.trans ?_⟩
  unfold NumAt
  have e : (m - b).toNat = t.size := by omega
  have c : cnt t t.size t.size = cnt s m t.size := cnt_same t s _ _ _ (fun j j1 j2 => by
    have := ht ((t.size : Int) - j) (by omega) (by omega)
    rw [this]; congr 1; omega)
  rw [e, ← c]
  constructor
  · rintro ⟨a1, a2, a3⟩
    refine ⟨by omega, fun j j1 j2 => ?_, by omega⟩
    have q := a2 (j - b) (by omega) (by omega)
    have x := ht (j - b) (by omega) (by omega)
    have y : b + (j - b) = j := by omega
    rw [x, y] at q
    rcases q with q | ⟨q1, q2, q3⟩
    · exact .inl q
    · exact .inr ⟨q1, by omega, by omega⟩
  · rintro ⟨a1, a2, a3⟩
    refine ⟨by omega, fun j j1 j2 => ?_, by omega⟩
    have q := a2 (b + j) (by omega) (by omega)
    rw [← ht j j1 j2] at q
    rcases q with q | ⟨q1, q2, q3⟩
    · exact .inl q
    · exact .inr ⟨q1, by omega, by omega⟩
theorem lawNumber_at (s : ByteArray) (hn : s.size ≤ 140737488351232) (i m : Int) (hi : 0 ≤ i) (h1 : i < m) (h2 : m ≤ s.size) :
    ∃ k r, polyglotlaw06_Number.f k (s.extract i.toNat m.toNat) = some r ∧ (r = true ↔ NumAt s (if bt s i = 45 then i + 1 else i) m) := by
  have hs := size_ext s i.toNat m.toNat (by omega)
  have hb : ∀ j : Int, 0 ≤ j → i + j < m → bt (s.extract i.toNat m.toNat) j = bt s (i + j) := by
    intro j j1 j2
    have := bt_ext s i.toNat m.toNat j j1 (by omega) (by omega)
    rw [this]; congr 1; omega
  generalize s.extract i.toNat m.toNat = p at *
  have b0 := hb 0 (by omega) (by omega)
  rw [Int.add_zero] at b0
  by_cases h45 : bt s i = 45
  · rw [if_pos h45]
    have ts := size_ext p 1 p.size (Nat.le_refl _)
    obtain ⟨r, q1, q2⟩ := num_at s (p.extract 1 p.size) (i + 1) m (by omega) (by omega) (fun j j1 j2 => by
      have := bt_ext p 1 p.size j j1 (Nat.le_refl _) (by omega)
      rw [this, hb _ (by omega) (by omega)]; congr 1; omega)
    refine ⟨2 * (p.extract 1 p.size).size + 1 + 1 + 1, r, ?_, q2⟩
    unfold polyglotlaw06_Number.f
    rw [if_pos (by omega), if_pos (by omega), b0, h45]
    rw [polyglotlaw06_Number.j0, if_pos (by decide), if_pos (by omega)]
    simp only [Option.bind_some]
    rw [polyglotlaw06_Number.j1]
    exact q1
  · rw [if_neg h45]
    obtain ⟨r, q1, q2⟩ := num_at s p i m (by omega) (by omega) (fun j j1 j2 => hb j j1 (by omega))
    refine ⟨2 * p.size + 1 + 1 + 1, r, ?_, q2⟩
    unfold polyglotlaw06_Number.f
    have e : (bt p 0 == 45) = false := by rw [b0]; simpa using h45
    rw [if_pos (by omega), if_pos (by omega), e]
    rw [polyglotlaw06_Number.j0, if_neg (by simp)]
    rw [polyglotlaw06_Number.j1]
    exact q1
theorem while39_spec (s : ByteArray) (hn : s.size ≤ 140737488351232) (k : Nat) (i : Int) (h0 : 0 ≤ i) (hk : s.size < k) :
    ∃ e : Int, scan_while_39.f k s i 39 = some e ∧ i ≤ e ∧ (e ≤ s.size ∨ e = i) ∧ (∀ j, i ≤ j → j < e → isDigit (bt s j) = true) ∧ (e < s.size → isDigit (bt s e) = false) :=
  while_at scan_while_39.l0 scan_digit.f isDigit digit_eq s (fun k i => by simp only [scan_while_39.l0]) hn s.size k i h0 (by omega) hk
/-- Where a number ends that begins at a place within the text: the place, where none does. -/
theorem Number_spec (s : ByteArray) (hn : s.size ≤ 140737488351232) (i : Int) (hi : 0 ≤ i) (hi2 : i ≤ s.size) :
    ∃ k e, scan_Number.f k s i = some e ∧ i ≤ e ∧ e ≤ s.size ∧ (e = i ∨ NumAt s (if bt s i = 45 then i + 1 else i) e) ∧ (∀ m, e < m → m ≤ s.size → ¬ NumAt s (if bt s i = 45 then i + 1 else i) m) := by
  have d46 : isDigit 46 = false := by decide
  by_cases hz : i = (s.size : Int)
  · refine ⟨s.size + 1 + 1, i, ?_, Int.le_refl _, hi2, .inl rfl, fun m h1 h2 => by omega⟩
    unfold scan_Number.f
    rw [at_eq, if_neg (by omega)]
    simp only [Option.bind_some]
    rw [if_neg (by decide), scan_Number.j0]
    obtain ⟨e, q1, q2, q3, q4, q5⟩ := while39_spec s hn (s.size + 1) i hi (by omega)
    rw [q1]
    simp only [Option.bind_some]
    rw [if_pos (by omega)]
  have hlt : i < (s.size : Int) := by omega
  have hj : ∀ k, scan_Number.f k s i = scan_Number.j0 k s i (if bt s i = 45 then i + 1 else i) := by
    intro k
    unfold scan_Number.f
    rw [at_eq, if_pos ⟨hi, hlt⟩]
    simp only [Option.bind_some]
    by_cases h45 : bt s i = 45
    · rw [if_pos h45, if_pos h45, wrap_in (by omega) (by omega)]
    · rw [if_neg h45, if_neg h45]
  have hb0 : i ≤ (if bt s i = 45 then i + 1 else i) := by split <;> omega
  have hb1 : (if bt s i = 45 then i + 1 else i) ≤ s.size := by split <;> omega
  generalize (if bt s i = 45 then i + 1 else i) = b at *
  obtain ⟨e, q1, q2, q3, q4, q5⟩ := while39_spec s hn (s.size + 1) b (by omega) (by omega)
  have he : e ≤ s.size := by omega
  have nd : ∀ m, e < m → NumAt s b m → m ≤ s.size → bt s e = 46 ∧ b < e ∧ e < m - 1 := by
    rintro m hm ⟨a1, a2, a3⟩ hm2
    rcases a2 e q2 hm with h | h
    · rw [q5 (by omega)] at h; cases h
    · exact h
  have hjj : scan_Number.f (s.size + 1 + 1) s i = _ := hj (s.size + 1 + 1)
  rw [scan_Number.j0, q1] at hjj
  simp only [Option.bind_some] at hjj
  have all : ∀ j, b ≤ j → j < e → bt s j ≠ 46 := fun j j1 j2 h => by have := q4 j j1 j2; rw [h, d46] at this; cases this
  have NumE : b < e → NumAt s b e := fun hbe => ⟨hbe, fun j j1 j2 => .inl (q4 j j1 j2), by rw [cnt_zero s e _ (fun j j1 j2 => all j (by omega) j2)]; decide⟩
  by_cases heb : e = b
  · rw [if_pos heb] at hjj
    refine ⟨_, i, hjj, Int.le_refl _, hi2, .inl rfl, fun m h1 h2 hN => ?_⟩
    by_cases hm : b < m
    · have := nd m (by omega) hN h2; omega
    · have := hN.1; omega
  · rw [if_neg heb, at_eq] at hjj
    simp only [Option.bind_some] at hjj
    have hbe : b < e := by omega
    by_cases hp : bt s e = 46 ∧ e < (s.size : Int)
    · rw [if_pos (show 0 ≤ e ∧ e < (s.size : Int) from ⟨by omega, hp.2⟩), if_pos hp.1, wrap_in (x := e + 1) (by omega) (by omega)] at hjj
      obtain ⟨f, p1, p2, p3, p4, p5⟩ := while39_spec s hn (s.size + 1) (e + 1) (by omega) (by omega)
      rw [p1] at hjj
      simp only [Option.bind_some] at hjj
      by_cases hf : f > e + 1
      · rw [if_pos hf] at hjj
        refine ⟨_, f, hjj, by omega, by omega, .inr ⟨by omega, fun j j1 j2 => ?_, ?_⟩, fun m h1 h2 hN => ?_⟩
        · by_cases c1 : j < e
          · exact .inl (q4 j j1 c1)
          · by_cases c2 : j = e
            · rw [c2]; exact .inr ⟨hp.1, hbe, by omega⟩
            · exact .inl (p4 j (by omega) j2)
        · refine cnt_le_one s f e _ (fun j j1 j2 j3 h => ?_)
          by_cases c1 : j < e
          · exact all j (by omega) c1 h
          · have := p4 j (by omega) j2; rw [h, d46] at this; cases this
        · obtain ⟨a1, a2, a3⟩ := hN
          rcases a2 f (by omega) h1 with h | ⟨h, _, _⟩
          · rw [p5 (by omega)] at h; cases h
          · have := cnt_two s m e f hp.1 h (by omega) h1 (m - b).toNat (by omega)
            omega
      · rw [if_neg hf] at hjj
        obtain rfl : f = e + 1 := by omega
        refine ⟨_, e, hjj, by omega, by omega, .inr (NumE hbe), fun m h1 h2 hN => ?_⟩
        have hh := nd m h1 hN h2
        obtain ⟨a1, a2, a3⟩ := hN
        rcases a2 (e + 1) (by omega) (by omega) with h | ⟨h, _, _⟩
        · rw [p5 (by omega)] at h; cases h
        · have := cnt_two s m e (e + 1) hp.1 h (by omega) (by omega) (m - b).toNat (by omega)
          omega
    · have hne : (if 0 ≤ e ∧ e < (s.size : Int) then bt s e else 0) ≠ 46 := by
        by_cases c : 0 ≤ e ∧ e < (s.size : Int)
        · rw [if_pos c]; exact fun h => hp ⟨h, c.2⟩
        · rw [if_neg c]; decide
      rw [if_neg hne] at hjj
      refine ⟨_, e, hjj, by omega, by omega, .inr (NumE hbe), fun m h1 h2 hN => ?_⟩
      have hh := nd m h1 hN h2
      exact hp ⟨hh.1, by omega⟩
open Classical in
theorem ScanPlaces : polyglotlaw06_ScanPlaces.Pure := by
  intro s i hn _
  by_cases h : (s.size : Int) > 100
  · refine ⟨20, ?_⟩
    unfold polyglotlaw06_ScanPlaces.f
    rw [scan_head 20 (by omega)]
    simp only [Option.bind_some, if_true]
    rw [if_pos h]
  -- each of the four, and the longest of its kind, at some rounds
  have key : ∃ k a b c d, (scan_Spaces.f k s i = some a ∧ polyglotlaw06_longest.f k s i 0 = some a) ∧ (scan_Blank.f k s i = some b ∧ polyglotlaw06_longest.f k s i 1 = some b) ∧
      (scan_Name.f k s i = some c ∧ polyglotlaw06_longest.f k s i 2 = some c) ∧ (scan_Number.f k s i = some d ∧ polyglotlaw06_longest.f k s i 3 = some d) := by
    have fin : (∃ k a, scan_Spaces.f k s i = some a ∧ polyglotlaw06_longest.f k s i 0 = some a) → (∃ k b, scan_Blank.f k s i = some b ∧ polyglotlaw06_longest.f k s i 1 = some b) →
        (∃ k c, scan_Name.f k s i = some c ∧ polyglotlaw06_longest.f k s i 2 = some c) → (∃ k d, scan_Number.f k s i = some d ∧ polyglotlaw06_longest.f k s i 3 = some d) →
        ∃ k a b c d, (scan_Spaces.f k s i = some a ∧ polyglotlaw06_longest.f k s i 0 = some a) ∧ (scan_Blank.f k s i = some b ∧ polyglotlaw06_longest.f k s i 1 = some b) ∧
          (scan_Name.f k s i = some c ∧ polyglotlaw06_longest.f k s i 2 = some c) ∧ (scan_Number.f k s i = some d ∧ polyglotlaw06_longest.f k s i 3 = some d) := by
      rintro ⟨k1, a, a1, a2⟩ ⟨k2, b, b1, b2⟩ ⟨k3, c, c1, c2⟩ ⟨k4, d, d1, d2⟩
      have L : ∀ (kind : Int) k r, k ≤ k1 + k2 + k3 + k4 → polyglotlaw06_longest.f k s i kind = some r → polyglotlaw06_longest.f (k1 + k2 + k3 + k4) s i kind = some r :=
        fun kind k r hk h => at_rounds (g := fun k => polyglotlaw06_longest.f k s i kind) (fun k => polyglotlaw06_longest.mono _ _ _ k) hk h
      exact ⟨k1 + k2 + k3 + k4, a, b, c, d,
        ⟨at_rounds (g := fun k => scan_Spaces.f k s i) (fun k => scan_Spaces.mono _ _ k) (by omega) a1, L _ _ _ (by omega) a2⟩,
        ⟨at_rounds (g := fun k => scan_Blank.f k s i) (fun k => scan_Blank.mono _ _ k) (by omega) b1, L _ _ _ (by omega) b2⟩,
        ⟨at_rounds (g := fun k => scan_Name.f k s i) (fun k => scan_Name.mono _ _ k) (by omega) c1, L _ _ _ (by omega) c2⟩,
        ⟨at_rounds (g := fun k => scan_Number.f k s i) (fun k => scan_Number.mono _ _ k) (by omega) d1, L _ _ _ (by omega) d2⟩⟩
    have pair : ∀ (g f : Nat → Option Int) r, (∀ k, LeO (g k) (g (k + 1))) → (∀ k, LeO (f k) (f (k + 1))) → (∃ k, g k = some r) → (∃ k, f k = some r) → ∃ k a, g k = some a ∧ f k = some a :=
      fun g f r h1 h2 h3 h4 => by obtain ⟨k, a, b⟩ := together h1 h2 h3 h4; exact ⟨k, r, a, b⟩
    have P0 := fun r => pair (fun k => scan_Spaces.f k s i) (fun k => polyglotlaw06_longest.f k s i 0) r (fun k => scan_Spaces.mono _ _ k) (fun k => polyglotlaw06_longest.mono _ _ _ k)
    have P1 := fun r => pair (fun k => scan_Blank.f k s i) (fun k => polyglotlaw06_longest.f k s i 1) r (fun k => scan_Blank.mono _ _ k) (fun k => polyglotlaw06_longest.mono _ _ _ k)
    have P2 := fun r => pair (fun k => scan_Name.f k s i) (fun k => polyglotlaw06_longest.f k s i 2) r (fun k => scan_Name.mono _ _ k) (fun k => polyglotlaw06_longest.mono _ _ _ k)
    have P3 := fun r => pair (fun k => scan_Number.f k s i) (fun k => polyglotlaw06_longest.f k s i 3) r (fun k => scan_Number.mono _ _ k) (fun k => polyglotlaw06_longest.mono _ _ _ k)
    have sp : ∀ c, scan_Spaces_1.f c = some (c == 32) := fun c => rfl
    have bl : ∀ c, scan_Blank_1.f c = some (c == 32 || c == 10) := by
      intro c
      unfold scan_Blank_1.f
      by_cases h : c = 32
      · rw [if_pos h, h]; rfl
      · rw [if_neg h]
        have e : (c == 32) = false := by simpa using h
        rw [e]; rfl
    by_cases hin : 0 ≤ i ∧ i ≤ (s.size : Int)
    · obtain ⟨hi, hi2⟩ := hin
      refine fin ?_ ?_ ?_ ?_
      · obtain ⟨e, q1, q2, q3, q4, q5⟩ := while_at scan_while_33.l0 scan_Spaces_1.f (fun c => c == 32) sp s (fun k i => by simp only [scan_while_33.l0]) hn s.size (s.size + 1) i hi (by omega) (by omega)
        refine P0 e ⟨s.size + 1, ?_⟩ ?_
        · have q1' : scan_while_33.f (s.size + 1) s i 33 = some e := q1
          unfold scan_Spaces.f; rw [q1']; rfl
        · refine longest_in s i 0 (fun m => decide (∀ j : Int, i ≤ j → j < m → (bt s j == 32) = true)) hi hi2 (bytes_step s i 0 (fun c => c == 32) (fun c => by simp) (.inl rfl) hi hn _ (fun m _ _ => by rw [decide_eq_true_eq])) e q2 (by omega) (.inr (by rw [decide_eq_true_eq]; exact q4)) (fun j j1 j2 => by
            rw [decide_eq_false_iff_not]
            intro hh
            have := hh e q2 j1
            have z := q5 (by omega)
            rw [this] at z; cases z)
      · obtain ⟨e, q1, q2, q3, q4, q5⟩ := while_at scan_while_35.l0 scan_Blank_1.f (fun c => c == 32 || c == 10) bl s (fun k i => by simp only [scan_while_35.l0]) hn s.size (s.size + 1) i hi (by omega) (by omega)
        refine P1 e ⟨s.size + 1, ?_⟩ ?_
        · have q1' : scan_while_35.f (s.size + 1) s i 35 = some e := q1
          unfold scan_Blank.f; rw [q1']; rfl
        · refine longest_in s i 1 (fun m => decide (∀ j : Int, i ≤ j → j < m → (bt s j == 32 || bt s j == 10) = true)) hi hi2 (bytes_step s i 1 (fun c => c == 32 || c == 10) (fun c => by simp) (.inr rfl) hi hn _ (fun m _ _ => by rw [decide_eq_true_eq])) e q2 (by omega) (.inr (by rw [decide_eq_true_eq]; exact q4)) (fun j j1 j2 => by
            rw [decide_eq_false_iff_not]
            intro hh
            have := hh e q2 j1
            have z := q5 (by omega)
            rw [this] at z; cases z)
      · obtain ⟨e, q1, q2, q3, q4, q5, q6⟩ := Name_spec s hn (s.size + 1) i (by omega)
        refine P2 e ⟨s.size + 1, q1⟩ ?_
        have nm : ∀ m, i < m → m ≤ s.size → ∃ k r, polyglotlaw06_Name.f k (s.extract i.toNat m.toNat) = some r ∧ (r = true ↔ (isLetter (bt s i) = true ∧ ∀ j : Int, i ≤ j → j < m → isNameC (bt s j) = true)) := by
          intro m h1 h2
          have hs := size_ext s i.toNat m.toNat (by omega)
          have hb : ∀ j : Int, 0 ≤ j → i + j < m → bt (s.extract i.toNat m.toNat) j = bt s (i + j) := by
            intro j j1 j2
            have := bt_ext s i.toNat m.toNat j j1 (by omega) (by omega)
            rw [this]; congr 1; omega
          obtain ⟨r, r1, r2⟩ := lawName_eq (s.extract i.toNat m.toNat) (by omega) ((s.extract i.toNat m.toNat).size + 1) (by omega)
          refine ⟨_, r, r1, r2.trans ?_⟩
          have b0 := hb 0 (by omega) (by omega)
          rw [Int.add_zero] at b0
          unfold NameIs
          rw [b0]
          constructor
          · rintro ⟨_, b, c⟩
            refine ⟨b, fun j j1 j2 => ?_⟩
            have := c (j - i) (by omega) (by omega)
            rw [hb (j - i) (by omega) (by omega)] at this
            have ej : i + (j - i) = j := by omega
            rwa [ej] at this
          · rintro ⟨b, c⟩
            refine ⟨by omega, b, fun j j1 j2 => ?_⟩
            rw [hb j j1 (by omega)]
            exact c _ (by omega) (by omega)
        refine longest_in s i 2 (fun m => decide (isLetter (bt s i) = true ∧ ∀ j : Int, i ≤ j → j < m → isNameC (bt s j) = true)) hi hi2 (name_step s i hi hn _ (fun m h1 h2 => by
            obtain ⟨k, r, r1, r2⟩ := nm m h1 h2
            refine ⟨k, r1.trans ?_⟩
            congr 1
            rw [Bool.eq_iff_iff, r2, decide_eq_true_eq])) e q2 (by omega) ?_ (fun j j1 j2 => by
            rw [decide_eq_false_iff_not]
            rintro ⟨hh1, hh2⟩
            by_cases he : e = i
            · rw [q5 he hi (by omega)] at hh1; cases hh1
            · have := hh2 e q2 j1
              rw [q6 (by omega) (by omega)] at this; cases this)
        rcases q3 with q3 | ⟨_, _, q3⟩
        · exact .inl q3
        · exact .inr (by rw [decide_eq_true_eq]; exact ⟨q3, q4⟩)
      · obtain ⟨k, e, q1, q2, q3, q4, q5⟩ := Number_spec s hn i hi hi2
        refine P3 e ⟨k, q1⟩ ?_
        refine longest_in s i 3 (fun m => decide (NumAt s (if bt s i = 45 then i + 1 else i) m)) hi hi2 (number_step s i hi hn _ (fun m h1 h2 => by
            obtain ⟨k, r, r1, r2⟩ := lawNumber_at s hn i m hi h1 h2
            refine ⟨k, r1.trans ?_⟩
            congr 1
            rw [Bool.eq_iff_iff, r2, decide_eq_true_eq])) e q2 q3 ?_ (fun j j1 j2 => by
            rw [decide_eq_false_iff_not]
            exact q5 j j1 j2)
        rcases q4 with q4 | q4
        · exact .inl q4
        · exact .inr (by rw [decide_eq_true_eq]; exact q4)
    · have out : i < 0 ∨ (s.size : Int) < i := by omega
      have wo : ∀ (L : Nat → ByteArray → Int → Option Int) (P : Int → Option Bool), (∀ k i, L (k + 1) s i = if i ≥ 0 then (if i < (s.size : Int) then (if 0 ≤ i then ((P (bt s i)).bind fun t => (if t = true then (L k s (wrap64 (i + 1))) else (some i))) else (none)) else (some i)) else (some i)) → L 1 s i = some i := by
        intro L P hL
        rw [hL]
        by_cases h0 : i ≥ 0
        · rw [if_pos h0, if_neg (by omega)]
        · rw [if_neg h0]
      refine fin (P0 i ⟨1, ?_⟩ (longest_out s i 0 out)) (P1 i ⟨1, ?_⟩ (longest_out s i 1 out)) (P2 i ⟨s.size + 1, ?_⟩ (longest_out s i 2 out)) (P3 i ⟨2, ?_⟩ (longest_out s i 3 out))
      · have := wo scan_while_33.l0 scan_Spaces_1.f (fun k i => by simp only [scan_while_33.l0])
        have q1' : scan_while_33.f 1 s i 33 = some i := this
        show scan_Spaces.f 1 s i = some i
        unfold scan_Spaces.f; rw [q1']; rfl
      · have := wo scan_while_35.l0 scan_Blank_1.f (fun k i => by simp only [scan_while_35.l0])
        have q1' : scan_while_35.f 1 s i 35 = some i := this
        show scan_Blank.f 1 s i = some i
        unfold scan_Blank.f; rw [q1']; rfl
      · show scan_Name.f (s.size + 1) s i = some i
        unfold scan_Name.f
        rw [at_eq, if_neg (by omega)]
        simp only [Option.bind_some, letter_eq]
        rw [if_neg (by decide)]
      · have := wo scan_while_39.l0 scan_digit.f (fun k i => by simp only [scan_while_39.l0])
        have q1' : scan_while_39.f 1 s i 39 = some i := this
        show scan_Number.f 2 s i = some i
        unfold scan_Number.f
        rw [at_eq, if_neg (by omega)]
        simp only [Option.bind_some]
        rw [if_neg (by decide), scan_Number.j0, q1']
        simp
  obtain ⟨k, a, b, c, d, ⟨a1, a2⟩, ⟨b1, b2⟩, ⟨c1, c2⟩, ⟨d1, d2⟩⟩ := key
  have up : ∀ (g : Nat → Option Int) r, (∀ k, LeO (g k) (g (k + 1))) → g k = some r → g (k + 20) = some r := fun g r h1 h2 => at_rounds h1 (by omega) h2
  refine ⟨k + 20, ?_⟩
  unfold polyglotlaw06_ScanPlaces.f
  rw [scan_head (k + 20) (by omega)]
  simp only [Option.bind_some, if_true]
  rw [if_neg h]
  rw [up (fun k => scan_Spaces.f k s i) a (fun k => scan_Spaces.mono _ _ k) a1, up (fun k => polyglotlaw06_longest.f k s i 0) a (fun k => polyglotlaw06_longest.mono _ _ _ k) a2]
  rw [up (fun k => scan_Blank.f k s i) b (fun k => scan_Blank.mono _ _ k) b1, up (fun k => polyglotlaw06_longest.f k s i 1) b (fun k => polyglotlaw06_longest.mono _ _ _ k) b2]
  rw [up (fun k => scan_Name.f k s i) c (fun k => scan_Name.mono _ _ k) c1, up (fun k => polyglotlaw06_longest.f k s i 2) c (fun k => polyglotlaw06_longest.mono _ _ _ k) c2]
  rw [up (fun k => scan_Number.f k s i) d (fun k => scan_Number.mono _ _ k) d1, up (fun k => polyglotlaw06_longest.f k s i 3) d (fun k => polyglotlaw06_longest.mono _ _ _ k) d2]
  simp
end Go.Proofs.Ytajcpdiobkkcmaa.Pure
