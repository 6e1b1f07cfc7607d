import Derived.Test.YtajcpdiobkkcmaaPScanx5
import Derived.Test.YtajcpdiobkkcmaaScanN
/- Whatever text: scan.IsName and scan.Big tell whether it is a name, and one of capitals. -/
namespace Go.Proofs.Ytajcpdiobkkcmaa.Pure
open Go.RowKit Go.Proofs.Ytajcpdiobkkcmaa.PScan Go.Proofs.YtajcpdiobkkcmaaHand Go.Proofs.YtajcpdiobkkcmaaW.PrintWords Go.Proofs.YtajcpdiobkkcmaaW.PrintLast
def isBig (c : Int) : Bool := decide (65 ≤ c ∧ c ≤ 90) || isDigit c || c == 95 || c == 45
theorem big1_eq (c : Int) : scan_Big_1.f c = some (isBig c) := by
  unfold scan_Big_1.f isBig
  rw [digit_eq]
  simp only [Option.bind_some]
  by_cases h1 : c ≥ 65
  · rw [if_pos h1]
    by_cases h2 : c ≤ 90
    · rw [if_pos h2]
      have e : decide (65 ≤ c ∧ c ≤ 90) = true := decide_eq_true ⟨h1, h2⟩
      rw [e]; rfl
    · rw [if_neg h2]
      have e : decide (65 ≤ c ∧ c ≤ 90) = false := decide_eq_false (fun h => h2 h.2)
      rw [e]
      cases isDigit c <;> simp
      split <;> simp_all
  · rw [if_neg h1]
    have e : decide (65 ≤ c ∧ c ≤ 90) = false := decide_eq_false (fun h => h1 h.1)
    rw [e]
    cases isDigit c <;> simp
    split <;> simp_all
theorem empty_iff (s : ByteArray) : s.toList = ([] : List UInt8) ↔ s.size = 0 := by
  rw [Lib.toList_data]
  constructor
  · intro h
    have := congrArg List.length h
    simpa using this
  · intro h
    apply List.eq_nil_of_length_eq_zero
    simpa using h
theorem isName_eq (s : ByteArray) (hn : s.size ≤ 140737488351232) (k : Nat) (hk : s.size < k) : ∃ r, scan_IsName.f k s = some r ∧ (r = true ↔ NameIs s) := by
  unfold scan_IsName.f
  by_cases hz : s.size = 0
  · rw [if_pos ((empty_iff s).2 hz)]
    exact ⟨false, rfl, by unfold NameIs; simp [hz]⟩
  · rw [if_neg (fun h => hz ((empty_iff s).1 h))]
    obtain ⟨e, h1, h2, h3, h4, h5, h6⟩ := Name_spec s hn k 0 hk
    rw [h1]
    refine ⟨e == (s.size : Int), rfl, ?_⟩
    rw [beq_iff_eq]
    unfold NameIs
    constructor
    · intro h
      rcases h3 with h3 | ⟨_, _, h3⟩
      · omega
      · exact ⟨by omega, h3, fun j j1 j2 => h4 j j1 (by omega)⟩
    · rintro ⟨a, b, c⟩
      rcases h3 with h3 | ⟨_, h7, h3⟩
      · rw [h5 h3 (by omega) (by omega)] at b; cases b
      · by_cases he : e = (s.size : Int)
        · exact he
        · by_cases e0 : 0 < e
          · have := h6 e0 (by omega)
            rw [c e (by omega) (by omega)] at this; cases this
          · have : e = 0 := by omega
            rw [h5 this (by omega) (by omega)] at b; cases b
theorem big_eq (s : ByteArray) (hn : s.size ≤ 140737488351232) (k : Nat) (hk : s.size < k) : ∃ r, scan_Big.f k s = some r ∧ (r = true ↔ (0 < s.size ∧ ∀ j : Int, 0 ≤ j → j < s.size → isBig (bt s j) = true)) := by
  unfold scan_Big.f
  by_cases hz : s.size = 0
  · rw [if_pos ((empty_iff s).2 hz)]
    exact ⟨false, rfl, by simp [hz]⟩
  · rw [if_neg (fun h => hz ((empty_iff s).1 h))]
    obtain ⟨e, h1, h2, h3, h4, h5⟩ := while_at scan_while_41.l0 scan_Big_1.f isBig big1_eq s (fun k i => by simp only [scan_while_41.l0]) hn s.size k 0 (by omega) (by omega) hk
    have h1' : scan_while_41.f k s 0 41 = some e := h1
    rw [h1']
    refine ⟨e == (s.size : Int), rfl, ?_⟩
    rw [beq_iff_eq]
    constructor
    · intro h; exact ⟨by omega, fun j j1 j2 => h4 j j1 (by omega)⟩
    · rintro ⟨a, c⟩
      by_cases he : e = (s.size : Int)
      · exact he
      · have := h5 (by omega)
        rw [c e h2 (by omega)] at this; cases this
theorem names_run (s : ByteArray) (hn : s.size ≤ 140737488351232) (k : Nat) (d : Nat) : ∀ (i : Int) (b : Bool), 0 ≤ i → (s.size : Int) - i = d →
    ∃ b', (b' = true ↔ (b = true ∧ ∀ j : Int, i ≤ j → j < s.size → isBig (bt s j) = true)) ∧
      polyglotlaw06_ScanNames.l0 (k + d + 1) s b i = ((scan_IsName.f k s).bind fun t => ((polyglotlaw06_Name.f k s).bind fun u => (if (t == u) = true then ((scan_Big.f k s).bind fun v => (some (v == b'))) else (some false)))) := by
  induction d with
  | zero =>
    intro i b h0 hd
    refine ⟨b, ⟨fun h => ⟨h, fun j _ _ => by omega⟩, fun h => h.1⟩, ?_⟩
    simp only [polyglotlaw06_ScanNames.l0]
    rw [if_neg (by omega)]
  | succ d ih =>
    intro i b h0 hd
    have w : wrap64 (i + 1) = i + 1 := wrap_in (by omega) (by omega)
    have hi : i < (s.size : Int) := by omega
    obtain ⟨b', h1, h2⟩ := ih (i + 1) (b && isBig (bt s i)) (by omega) (by omega)
    refine ⟨b', ?_, ?_⟩
    · rw [h1, Bool.and_eq_true]
      constructor
      · rintro ⟨⟨a1, a2⟩, a3⟩
        refine ⟨a1, fun j j1 j2 => ?_⟩
        by_cases e : j = i
        · rw [e]; exact a2
        · exact a3 j (by omega) j2
      · rintro ⟨a1, a2⟩
        exact ⟨⟨a1, a2 i (Int.le_refl _) hi⟩, fun j j1 j2 => a2 j (by omega) j2⟩
    · rw [← h2]
      have ek : k + (d + 1) + 1 = (k + d + 1) + 1 := by omega
      rw [ek]
      generalize k + d + 1 = K
      rw [polyglotlaw06_ScanNames.l0]
      rw [if_pos hi, if_pos h0, lawDigit_eq, w]
      simp only [Option.bind_some]
      cases b with
      | false => simp
      | true =>
        rw [if_pos rfl]
        unfold isBig
        by_cases c1 : bt s i ≥ 65
        · rw [if_pos c1]
          by_cases c2 : bt s i ≤ 90
          · rw [if_pos c2]
            have e : decide (65 ≤ bt s i ∧ bt s i ≤ 90) = true := decide_eq_true ⟨c1, c2⟩
            rw [e]; rfl
          · rw [if_neg c2]
            have e : decide (65 ≤ bt s i ∧ bt s i ≤ 90) = false := decide_eq_false (fun h => c2 h.2)
            rw [e]
            cases isDigit (bt s i) with
            | true => simp
            | false =>
              rw [if_neg (by simp)]
              by_cases c3 : bt s i = 95
              · rw [if_pos c3, c3]; rfl
              · rw [if_neg c3]
                have e3 : (bt s i == 95) = false := by simpa using c3
                rw [e3]; rfl
        · rw [if_neg c1]
          have e : decide (65 ≤ bt s i ∧ bt s i ≤ 90) = false := decide_eq_false (fun h => c1 h.1)
          rw [e]
          cases isDigit (bt s i) with
          | true => simp
          | false =>
            rw [if_neg (by simp)]
            by_cases c3 : bt s i = 95
            · rw [if_pos c3, c3]; rfl
            · rw [if_neg c3]
              have e3 : (bt s i == 95) = false := by simpa using c3
              rw [e3]; rfl
theorem ScanNames : polyglotlaw06_ScanNames.Pure := by
  intro s hn
  by_cases h : (s.size : Int) > 100
  · refine ⟨20, ?_⟩
    unfold polyglotlaw06_ScanNames.f
    rw [scan_head 20 (by omega)]
    simp only [Option.bind_some, if_true]
    rw [if_pos h]
  · refine ⟨200 + s.size + 1, ?_⟩
    unfold polyglotlaw06_ScanNames.f
    rw [scan_head _ (by omega)]
    simp only [Option.bind_some, if_true]
    rw [if_neg h]
    obtain ⟨b, hb, e⟩ := names_run s hn 200 s.size 0 (decide ((s.size : Int) > 0)) (by omega) (by omega)
    obtain ⟨r1, q1, q2⟩ := isName_eq s hn 200 (by omega)
    obtain ⟨r2, q3, q4⟩ := lawName_eq s hn 200 (by omega)
    obtain ⟨r3, q5, q6⟩ := big_eq s hn 200 (by omega)
    rw [e, q1, q3, q5]
    simp only [Option.bind_some]
    have e1 : r1 = r2 := by rw [Bool.eq_iff_iff, q2, q4]
    have e2 : r3 = b := by
      rw [Bool.eq_iff_iff, q6, hb]
      simp
    rw [e1, e2]; simp
end Go.Proofs.Ytajcpdiobkkcmaa.Pure
