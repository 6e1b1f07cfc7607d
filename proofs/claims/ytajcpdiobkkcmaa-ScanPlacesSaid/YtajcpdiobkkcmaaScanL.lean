import Derived.Test.YtajcpdiobkkcmaaPScanx4
import Derived.Test.YtajcpdiobkkcmaaScanN
/- The longest piece that is so: the statement's loops. -/
namespace Go.Proofs.Ytajcpdiobkkcmaa.Pure
open Go.RowKit Go.Proofs.Ytajcpdiobkkcmaa.PScan Go.Proofs.YtajcpdiobkkcmaaHand Go.Proofs.YtajcpdiobkkcmaaW.PrintWords Go.Proofs.YtajcpdiobkkcmaaW.PrintLast
/-- What a step of the loop comes to: the place, if the piece is so; else what the loop tells from one place less on. -/
def Ans (s : ByteArray) (i kind m : Int) (c : Bool) (r : Int) : Prop := if c = true then r = m else ∃ k, polyglotlaw06_longest.l0 k s i kind (m - 1) = some r
theorem long_run (s : ByteArray) (i kind : Int) (Q : Int → Bool) 
    (step : ∀ m r, i < m → m ≤ s.size → Ans s i kind m (Q m) r → ∃ k, polyglotlaw06_longest.l0 k s i kind m = some r)
    (e : Int) (h1 : i ≤ e) (h3 : e = i ∨ Q e = true) (d : Nat) : ∀ m : Int, e ≤ m → m ≤ s.size → (∀ j, e < j → j ≤ m → Q j = false) → m - e = d →
    ∃ k, polyglotlaw06_longest.l0 k s i kind m = some e := by
  induction d with
  | zero =>
    intro m he hm _ hd
    obtain rfl : m = e := by omega
    by_cases h : i < m
    · exact step m m h hm (by unfold Ans; rw [if_pos (h3.resolve_left (by omega))])
    · refine ⟨1, ?_⟩
      simp only [polyglotlaw06_longest.l0]
      rw [if_neg (by omega)]
      congr 1; omega
  | succ d ih =>
    intro m he hm hq hd
    refine step m e (by omega) hm ?_
    unfold Ans
    rw [if_neg (by rw [hq m (by omega) (Int.le_refl _)]; simp)]
    exact ih (m - 1) (by omega) (by omega) (fun j h4 h5 => hq j h4 (by omega)) (by omega)
theorem long_enter (s : ByteArray) (i kind m : Int) (r : Int) (hi : 0 ≤ i) (h1 : i < m) (h2 : m ≤ s.size) (b : Bool)
    (hb : b = (if kind = 0 then (kind == 0) else (kind == 1)))
    (h : ∃ k, polyglotlaw06_longest.j2 k s i kind m (s.extract i.toNat m.toNat) true kind b = some r) : ∃ k, polyglotlaw06_longest.l0 k s i kind m = some r := by
  obtain ⟨k, h⟩ := h
  refine ⟨k + 1, ?_⟩
  simp only [polyglotlaw06_longest.l0]
  rw [if_pos h1, if_pos hi, if_pos (by omega), if_pos h2]
  simp only [Option.bind_some]
  by_cases hk : kind = 0
  · rw [if_pos hk] at hb ⊢; rw [← hb]; exact h
  · rw [if_neg hk] at hb ⊢; rw [← hb]; exact h
/-- Pieces that are all of a sort of bytes. -/
theorem l1_spec (s : ByteArray) (i kind m : Int) (p : ByteArray) (q : Int → Bool) (hq : ∀ c, q c = (c == 32 || (kind == 1 && c == 10))) (hn : p.size ≤ 140737488351232) (hm : 0 ≤ m ∧ m ≤ 140737488351232) (r : Int) (d : Nat) : ∀ (x : Int) (b : Bool), 0 ≤ x → (p.size : Int) - x = d →
    (∀ c : Bool, (c = true ↔ (b = true ∧ ∀ j : Int, x ≤ j → j < p.size → q (bt p j) = true)) → Ans s i kind m c r) →
    ∃ k, polyglotlaw06_longest.l1 k s i kind m p b x = some r := by
  induction d with
  | zero =>
    intro x b h0 hd h
    have a := h b ⟨fun hb => ⟨hb, fun j _ _ => by omega⟩, fun hb => hb.1⟩
    unfold Ans at a
    cases b with
    | true =>
      rw [if_pos rfl] at a
      exact ⟨1, by simp only [polyglotlaw06_longest.l1]; rw [if_neg (by omega), a]; rfl⟩
    | false =>
      rw [if_neg (by simp)] at a
      obtain ⟨k, a⟩ := a
      refine ⟨k + 1, ?_⟩
      simp only [polyglotlaw06_longest.l1]
      rw [if_neg (by omega), if_neg (by simp), wrap_in (by omega) (by omega)]
      exact a
  | succ d ih =>
    intro x b h0 hd h
    have hx : x < (p.size : Int) := by omega
    have w : wrap64 (x + 1) = x + 1 := wrap_in (by omega) (by omega)
    obtain ⟨k, hk⟩ := ih (x + 1) (b && q (bt p x)) (by omega) (by omega) (fun c hc => h c (by
      rw [hc, Bool.and_eq_true]
      constructor
      · rintro ⟨⟨a1, a2⟩, a3⟩
        refine ⟨a1, fun j j1 j2 => ?_⟩
        by_cases e : j = x
        · rw [e]; exact a2
        · exact a3 j (by omega) j2
      · rintro ⟨a1, a2⟩
        exact ⟨⟨a1, a2 x (Int.le_refl _) hx⟩, fun j j1 j2 => a2 j (by omega) j2⟩))
    refine ⟨k + 1, ?_⟩
    rw [← hk, polyglotlaw06_longest.l1]
    rw [if_pos hx, w]
    cases b with
    | false => simp
    | true =>
      rw [if_pos rfl, if_pos h0, hq]
      by_cases c1 : bt p x = 32
      · rw [if_pos c1, c1]; rfl
      · rw [if_neg c1]
        have e1 : (bt p x == 32) = false := by simpa using c1
        rw [e1]
        by_cases c2 : kind = 1
        · rw [if_pos c2]
          have e2 : (kind == 1) = true := by simpa using c2
          rw [e2]; rfl
        · rw [if_neg c2]
          have e2 : (kind == 1) = false := by simpa using c2
          rw [e2]; rfl
theorem bytes_step (s : ByteArray) (i kind : Int) (q : Int → Bool) (hq : ∀ c, q c = (c == 32 || (kind == 1 && c == 10))) (hk : kind = 0 ∨ kind = 1) (hi : 0 ≤ i) (hn : s.size ≤ 140737488351232) (Q : Int → Bool)
    (hQ : ∀ m, i < m → m ≤ s.size → (Q m = true ↔ ∀ j : Int, i ≤ j → j < m → q (bt s j) = true)) :
    ∀ m r, i < m → m ≤ s.size → Ans s i kind m (Q m) r → ∃ k, polyglotlaw06_longest.l0 k s i kind m = some r := by
  intro m r h1 h2 ha
  have hs := size_ext s i.toNat m.toNat (by omega)
  have hb : ∀ j : Int, 0 ≤ j → i + j < m → bt (s.extract i.toNat m.toNat) j = bt s (i + j) := by
    intro j j1 j2
    have := bt_ext s i.toNat m.toNat j j1 (by omega) (by omega)
    rw [this]; congr 1; omega
  obtain ⟨k, e⟩ := l1_spec s i kind m (s.extract i.toNat m.toNat) q hq (by omega) ⟨by omega, by omega⟩ r (s.extract i.toNat m.toNat).size 0 true (by omega) (by omega) (fun c hc => by
    have : c = Q m := by
      rw [Bool.eq_iff_iff, hc, hQ m h1 h2]
      constructor
      · rintro ⟨_, a⟩ j j1 j2
        have := a (j - i) (by omega) (by omega)
        rw [hb (j - i) (by omega) (by omega)] at this
        have ej : i + (j - i) = j := by omega
        rwa [ej] at this
      · intro a
        refine ⟨rfl, fun j j1 j2 => ?_⟩
        rw [hb j j1 (by omega)]
        exact a _ (by omega) (by omega)
    rw [this]; exact ha)
  refine long_enter s i kind m r hi h1 h2 true ?_ ⟨k + 1, ?_⟩
  · rcases hk with rfl | rfl <;> rfl
  · rw [polyglotlaw06_longest.j2, if_pos rfl]; exact e
/-- Pieces that the statement's Name, or its Number, tells. -/
theorem name_step (s : ByteArray) (i : Int) (hi : 0 ≤ i) (hn : s.size ≤ 140737488351232) (Q : Int → Bool)
    (hQ : ∀ m, i < m → m ≤ s.size → ∃ k, polyglotlaw06_Name.f k (s.extract i.toNat m.toNat) = some (Q m)) :
    ∀ m r, i < m → m ≤ s.size → Ans s i 2 m (Q m) r → ∃ k, polyglotlaw06_longest.l0 k s i 2 m = some r := by
  intro m r h1 h2 ha
  obtain ⟨k, hk⟩ := hQ m h1 h2
  refine long_enter s i 2 m r hi h1 h2 false (by decide) ?_
  unfold Ans at ha
  cases hq : Q m with
  | true =>
    rw [hq, if_pos rfl] at ha
    refine ⟨k + 1, ?_⟩
    rw [polyglotlaw06_longest.j2, if_neg (by simp), if_pos rfl, hk, hq, ha]; rfl
  | false =>
    rw [hq, if_neg (by simp)] at ha
    obtain ⟨j, hj⟩ := ha
    refine ⟨max k j + 1, ?_⟩
    rw [polyglotlaw06_longest.j2, if_neg (by simp), if_pos rfl, at_rounds (polyglotlaw06_Name.mono _) (Nat.le_max_left k j) hk, hq]
    simp only [Option.bind_some]
    rw [if_neg (by simp), wrap_in (by omega) (by omega)]
    exact at_rounds (g := fun k => polyglotlaw06_longest.l0 k s i 2 (m - 1)) (fun k => (polyglotlaw06_longest.mono_l k).2.1 _ _ _ _) (Nat.le_max_right k j) hj
theorem number_step (s : ByteArray) (i : Int) (hi : 0 ≤ i) (hn : s.size ≤ 140737488351232) (Q : Int → Bool)
    (hQ : ∀ m, i < m → m ≤ s.size → ∃ k, polyglotlaw06_Number.f k (s.extract i.toNat m.toNat) = some (Q m)) :
    ∀ m r, i < m → m ≤ s.size → Ans s i 3 m (Q m) r → ∃ k, polyglotlaw06_longest.l0 k s i 3 m = some r := by
  intro m r h1 h2 ha
  obtain ⟨k, hk⟩ := hQ m h1 h2
  refine long_enter s i 3 m r hi h1 h2 false (by decide) ?_
  unfold Ans at ha
  cases hq : Q m with
  | true =>
    rw [hq, if_pos rfl] at ha
    refine ⟨k + 1, ?_⟩
    rw [polyglotlaw06_longest.j2, if_neg (by simp), if_neg (by decide), hk, hq, ha]; rfl
  | false =>
    rw [hq, if_neg (by simp)] at ha
    obtain ⟨j, hj⟩ := ha
    refine ⟨max k j + 1, ?_⟩
    rw [polyglotlaw06_longest.j2, if_neg (by simp), if_neg (by decide), at_rounds (polyglotlaw06_Number.mono _) (Nat.le_max_left k j) hk, hq]
    simp only [Option.bind_some]
    rw [if_neg (by simp), wrap_in (by omega) (by omega)]
    exact at_rounds (g := fun k => polyglotlaw06_longest.l0 k s i 3 (m - 1)) (fun k => (polyglotlaw06_longest.mono_l k).2.1 _ _ _ _) (Nat.le_max_right k j) hj
/-- The longest of a kind from a place within the text on. -/
theorem longest_in (s : ByteArray) (i kind : Int) (Q : Int → Bool) (hi : 0 ≤ i) (hi2 : i ≤ s.size)
    (step : ∀ m r, i < m → m ≤ s.size → Ans s i kind m (Q m) r → ∃ k, polyglotlaw06_longest.l0 k s i kind m = some r)
    (e : Int) (h1 : i ≤ e) (h2 : e ≤ s.size) (h3 : e = i ∨ Q e = true) (h4 : ∀ j, e < j → j ≤ s.size → Q j = false) : ∃ k, polyglotlaw06_longest.f k s i kind = some e := by
  obtain ⟨k, hk⟩ := long_run s i kind Q step e h1 h3 (s.size - e).toNat s.size h2 (Int.le_refl _) h4 (by omega)
  refine ⟨k + 1, ?_⟩
  unfold polyglotlaw06_longest.f
  rw [if_neg (by omega), decide_eq_false (by omega)]
  rw [polyglotlaw06_longest.j0, if_neg (by simp)]
  exact hk
theorem longest_out (s : ByteArray) (i kind : Int) (h : i < 0 ∨ (s.size : Int) < i) : ∃ k, polyglotlaw06_longest.f k s i kind = some i := by
  refine ⟨1, ?_⟩
  unfold polyglotlaw06_longest.f
  by_cases h0 : i < 0
  · rw [if_pos h0]; rfl
  · rw [if_neg h0, decide_eq_true (by omega)]; rfl
end Go.Proofs.Ytajcpdiobkkcmaa.Pure
