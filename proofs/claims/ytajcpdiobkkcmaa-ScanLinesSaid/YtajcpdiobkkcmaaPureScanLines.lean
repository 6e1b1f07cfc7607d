import Derived.Test.YtajcpdiobkkcmaaScanP
/- Whatever text and place: scan.Line tells where the line ends. -/
namespace Go.Proofs.Ytajcpdiobkkcmaa.Pure
open Go.RowKit Go.Proofs.Ytajcpdiobkkcmaa.PScan Go.Proofs.YtajcpdiobkkcmaaHand Go.Proofs.YtajcpdiobkkcmaaW.PrintWords Go.Proofs.YtajcpdiobkkcmaaW.PrintLast
/-- Where a line feed first stands in a list of bytes: -1, or the place. -/
theorem index_spec (l : List UInt8) : (Lib.indexByte l 10 = -1 ∧ ∀ j (h : j < l.length), l[j] ≠ 10) ∨
    ∃ n : Nat, Lib.indexByte l 10 = (n : Int) ∧ ∃ h : n < l.length, l[n] = 10 ∧ ∀ j (hj : j < n), l[j] ≠ 10 := by
  induction l with
  | nil => exact .inl ⟨rfl, fun j h => by simp at h⟩
  | cons b l ih =>
    unfold Lib.indexByte
    by_cases hb : b = 10
    · exact .inr ⟨0, by simp [hb], by simp, by simpa using hb, fun j hj => by omega⟩
    · have hb' : (b == 10) = false := by simpa using hb
      rw [hb']
      rcases ih with ⟨h1, h2⟩ | ⟨n, h1, h, h2, h3⟩
      · refine .inl ⟨by simp [h1], fun j hj => ?_⟩
        cases j with
        | zero => simpa using hb
        | succ j => simpa using h2 j (by simpa using hj)
      · refine .inr ⟨n + 1, ?_, by simpa using h, by simpa using h2, fun j hj => ?_⟩
        · have : ((n : Int) == -1) = false := by simp
          rw [h1]; simp [this]
        · cases j with
          | zero => simpa using hb
          | succ j => simpa using h3 j (by omega)
theorem bt_list (s : ByteArray) (j : Nat) (h : j < s.size) : bt s (j : Int) = (s.data.toList[j]'(by simpa using h)).toNat := by
  unfold bt
  rw [dif_pos (by simpa using h)]
  simp [ByteArray.getElem_eq_getElem_data]
/-- The statement's loop: from a place on, it answers whether 'g' is where the first line feed stands. -/
theorem lines_run (s : ByteArray) (g : Int) (hn : s.size ≤ 140737488351232) (hg : g ≤ s.size) (hat : g < s.size → bt s g = 10) (d : Nat) : ∀ (k : Nat) (i : Int), 0 ≤ i → i ≤ g → (∀ j, i ≤ j → j < g → bt s j ≠ 10) → g - i = d → d < k →
    polyglotlaw06_ScanLines.l0 k s g i = some true := by
  induction d with
  | zero =>
    intro k i h0 h1 hj hd hk
    obtain ⟨k, rfl⟩ : ∃ m, k = m + 1 := ⟨k - 1, by omega⟩
    obtain rfl : i = g := by omega
    simp only [polyglotlaw06_ScanLines.l0]
    by_cases h : i < (s.size : Int)
    · rw [if_pos h, if_pos h0, if_pos (hat h)]; simp
    · rw [if_neg h]; simp
  | succ d ih =>
    intro k i h0 h1 hj hd hk
    obtain ⟨k, rfl⟩ : ∃ m, k = m + 1 := ⟨k - 1, by omega⟩
    simp only [polyglotlaw06_ScanLines.l0]
    rw [if_pos (by omega), if_pos h0, if_neg (hj i (by omega) (by omega)), wrap_in (by omega) (by omega)]
    exact ih k (i + 1) (by omega) (by omega) (fun j h2 h3 => hj j (by omega) h3) (by omega) (by omega)
theorem line_spec (s : ByteArray) (i : Int) (k : Nat) (hn : s.size ≤ 140737488351232) (h0 : 0 ≤ i) (h1 : i ≤ s.size) :
    ∃ g : Int, scan_Line.f (k + 1) s i = some g ∧ i ≤ g ∧ g ≤ s.size ∧ (g < s.size → bt s g = 10) ∧ ∀ j, i ≤ j → j < g → bt s j ≠ 10 := by
  unfold scan_Line.f
  have e : decide (i > (s.size : Int)) = false := by simp; omega
  rw [if_neg (by omega), e]
  simp only [scan_Line.j0]
  rw [if_neg (by simp), if_pos h0, if_pos h1]
  simp only [Option.bind_some, strings_IndexByte.f]
  have hs := size_ext s i.toNat s.size (Nat.le_refl _)
  have hb : ∀ j : Nat, (h : j < (s.extract i.toNat s.size).data.toList.length) → bt s (i + j) = ((s.extract i.toNat s.size).data.toList[j]).toNat := by
    intro j h
    have hl : j < (s.extract i.toNat s.size).size := by simpa using h
    have := bt_ext s i.toNat s.size j (by omega) (Nat.le_refl _) (by omega)
    rw [bt_list _ j hl] at this
    rw [this]; congr 1; omega
  have hlen : (s.extract i.toNat s.size).data.toList.length = s.size - i.toNat := by rw [← hs]; simp
  rcases index_spec (s.extract i.toNat s.size).data.toList with ⟨e1, e2⟩ | ⟨n, e1, hn1, e2, e3⟩
  · refine ⟨s.size, ?_, h1, Int.le_refl _, fun h => by omega, fun j h2 h3 hc => ?_⟩
    · have e4 : (10 : Int).toNat.toUInt8 = 10 := by decide
      rw [e4, e1, if_neg (by omega)]
    · have hj : (j - i).toNat < (s.extract i.toNat s.size).data.toList.length := by omega
      have := hb (j - i).toNat hj
      have ej : i + ((j - i).toNat : Int) = j := by omega
      rw [ej, hc] at this
      apply e2 _ hj
      apply UInt8.toNat_inj.1
      have : (10 : UInt8).toNat = 10 := by decide
      omega
  · refine ⟨i + n, ?_, by omega, by omega, fun _ => ?_, fun j h2 h3 hc => ?_⟩
    · have e4 : (10 : Int).toNat.toUInt8 = 10 := by decide
      rw [e4, e1, if_pos (by omega), wrap_in (by omega) (by omega)]
    · rw [hb n hn1, e2]; decide
    · have hj : (j - i).toNat < n := by omega
      have := hb (j - i).toNat (by omega)
      have ej : i + ((j - i).toNat : Int) = j := by omega
      rw [ej, hc] at this
      apply e3 _ hj
      apply UInt8.toNat_inj.1
      have : (10 : UInt8).toNat = 10 := by decide
      omega
theorem ScanLines : polyglotlaw06_ScanLines.Pure := by
  intro s i hn _
  refine ⟨400, ?_⟩
  unfold polyglotlaw06_ScanLines.f
  rw [scan_head 400 (by omega)]
  simp only [Option.bind_some, if_true]
  by_cases h : (s.size : Int) > 300
  · rw [if_pos h]
  rw [if_neg h]
  by_cases h0 : i < 0
  · have e : scan_Line.f 400 s i = some i := by unfold scan_Line.f; rw [if_pos h0]; rfl
    rw [e]
    simp only [Option.bind_some]
    rw [if_pos h0]
    simp only [polyglotlaw06_ScanLines.j0]
    simp
  · by_cases h1 : i > (s.size : Int)
    · have e : scan_Line.f 400 s i = some i := by unfold scan_Line.f; rw [if_neg h0, decide_eq_true h1]; rfl
      rw [e]
      simp only [Option.bind_some]
      rw [if_neg h0, decide_eq_true h1]
      simp only [polyglotlaw06_ScanLines.j0]
      simp
    · obtain ⟨g, e, g1, g2, g3, g4⟩ := line_spec s i 399 hn (by omega) (by omega)
      rw [e]
      simp only [Option.bind_some]
      rw [if_neg h0, decide_eq_false h1]
      have ej : polyglotlaw06_ScanLines.j0 400 s i g false = polyglotlaw06_ScanLines.l0 399 s g i := by
        rw [polyglotlaw06_ScanLines.j0]; simp
      rw [ej]
      exact lines_run s g hn g2 g3 (g - i).toNat 399 i (by omega) g1 g4 (by omega) (by omega)
end Go.Proofs.Ytajcpdiobkkcmaa.Pure
