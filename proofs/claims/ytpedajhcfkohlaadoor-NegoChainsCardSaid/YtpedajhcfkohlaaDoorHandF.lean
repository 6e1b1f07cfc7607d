import Derived.Test.YtpedajhcfkohlaaDoorTagC
import Derived.Test.YtpedajhcfkohlaaDoorHandC
/- The functions over tags in plain words (text, fits, split, big, small, the document's example), each by its contract. -/
namespace Go.Proofs.YtpedajhcfkohlaaDoorHand
open Go.RowKit Go.Proofs.YtpedajhcfkohlaaDoor.PFit Go.Proofs.YtpedajhcfkohlaaDoor.Pure Go.Proofs.YtpedajhcfkohlaaDoorW.PrintWords Go.Proofs.YtpedajhcfkohlaaDoorW.PrintLast Go.Proofs.YtpedajhcfkohlaaDoorW.PrintMore
set_option linter.unusedVariables false
set_option linter.unusedSimpArgs false
theorem text_size2 (n : Nat) (ps : List ByteArray) (h : ∀ p ∈ ps, p.size ≤ n) : (textL ps).size ≤ ps.length * (n + 1) := by
  unfold textL
  rw [mkB_size]
  have := join_len n (ps.map (·.data.toList)) (fun p hp => by
    obtain ⟨q, hq, rfl⟩ := List.mem_map.1 hp
    rw [tl_len]; exact h q hq)
  rw [List.length_map] at this
  exact this
theorem join_eq2 (ps : List ByteArray) (n : Nat) (h : ∀ p ∈ ps, p.size ≤ n) (hl : ps.length ≤ 1000) (hn : n ≤ 900) : strings_Join.f ps (⟨#[45]⟩ : ByteArray) = some (textL ps) := by
  have hs := text_size2 n ps h
  unfold textL at hs
  rw [mkB_size] at hs
  have hm : ps.length * (n + 1) ≤ 1000 * (n + 1) := Nat.mul_le_mul_right _ hl
  unfold strings_Join.f
  rw [if_pos]
  · rfl
  · exact ⟨by omega, by
      show (Lib.join (ps.map (·.data.toList)) [45]).length ≤ 1000000
      omega⟩
theorem partsL_small (n : Nat) (l s r : ByteArray) (vs : List ByteArray) (h : l.size ≤ n ∧ s.size ≤ n ∧ r.size ≤ n ∧ ∀ v ∈ vs, v.size ≤ n) : ∀ p ∈ partsL l s r vs, p.size ≤ n := by
  intro p hp
  unfold partsL at hp
  rcases List.mem_append.1 hp with hp | hp
  · rcases List.mem_append.1 hp with hp | hp
    · rcases List.mem_append.1 hp with hp | hp
      · simp only [List.mem_singleton] at hp
        subst hp; exact h.1
      · split at hp
        · cases hp
        · simp only [List.mem_singleton] at hp
          subst hp; exact h.2.1
    · split at hp
      · cases hp
      · simp only [List.mem_singleton] at hp
        subst hp; exact h.2.2.1
  · exact h.2.2.2 p hp
/-- A tag's text. -/
def tag_Str.f (l s r : ByteArray) (vs : List ByteArray) : Option ByteArray := if (l.size ≤ 900 ∧ s.size ≤ 900 ∧ r.size ≤ 900 ∧ ∀ v ∈ vs, v.size ≤ 900) ∧ vs.length ≤ 900 then some (textL (partsL l s r vs)) else none
theorem tag_Str.calls (a0_0 : ByteArray) (a0_1 : ByteArray) (a0_2 : ByteArray) (A0_3 : Option Addr) (c0_3 : Nat) (l0_3 : List ByteArray) (r : ByteArray) (w : World) (hr0_3 : Kd.C Kd.string w A0_3 l0_3.length l0_3) (hc0_3 : l0_3.length ≤ c0_3) (h : tag_Str.f a0_0 a0_1 a0_2 l0_3 = some r) :
    Calls Tryd.prog 17 #[.agg #[.string a0_0, .string a0_1, .string a0_2, .slice A0_3 l0_3.length c0_3]] w fun e w' => e = .returned (.string r) ∧ Below w.heap.size w w' := by
  refine tag_Tag_String.calls a0_0 a0_1 a0_2 A0_3 c0_3 l0_3 r w hr0_3 hc0_3 ?_
  unfold tag_Str.f at h
  by_cases hb : (a0_0.size ≤ 900 ∧ a0_1.size ≤ 900 ∧ a0_2.size ≤ 900 ∧ ∀ v ∈ l0_3, v.size ≤ 900) ∧ l0_3.length ≤ 900
  · rw [if_pos hb] at h
    have hl := hb.2
    have h2 := partsL_len a0_0 a0_1 a0_2 l0_3
    unfold tag_Tag_String.f
    rw [parts_f _ _ _ _ (by omega), Option.bind_some, join_eq2 _ 900 (partsL_small 900 _ _ _ _ hb.1) (by omega) (Nat.le_refl _)]
    exact h
  · rw [if_neg hb] at h; cases h
/-- Does the one begin with the other's parts? -/
def tag_Fit.f (a0 a1 a2 : ByteArray) (l : List ByteArray) (b0 b1 b2 : ByteArray) (m : List ByteArray) : Option Bool := if l.length ≤ 900 ∧ m.length ≤ 900 then some (begB (partsL a0 a1 a2 l) (partsL b0 b1 b2 m)) else none
theorem tag_Fit.calls (a0_0 : ByteArray) (a0_1 : ByteArray) (a0_2 : ByteArray) (A0_3 : Option Addr) (c0_3 : Nat) (l0_3 : List ByteArray) (a1_0 : ByteArray) (a1_1 : ByteArray) (a1_2 : ByteArray) (A1_3 : Option Addr) (c1_3 : Nat) (l1_3 : List ByteArray) (r : Bool) (w : World) (hr0_3 : Kd.C Kd.string w A0_3 l0_3.length l0_3) (hc0_3 : l0_3.length ≤ c0_3) (hr1_3 : Kd.C Kd.string w A1_3 l1_3.length l1_3) (hc1_3 : l1_3.length ≤ c1_3) (h : tag_Fit.f a0_0 a0_1 a0_2 l0_3 a1_0 a1_1 a1_2 l1_3 = some r) :
    Calls Tryd.prog 19 #[.agg #[.string a0_0, .string a0_1, .string a0_2, .slice A0_3 l0_3.length c0_3], .agg #[.string a1_0, .string a1_1, .string a1_2, .slice A1_3 l1_3.length c1_3]] w fun e w' => e = .returned (.bool r) ∧ Below w.heap.size w w' := by
  refine tag_Tag_Fits.calls 1000 a0_0 a0_1 a0_2 A0_3 c0_3 l0_3 a1_0 a1_1 a1_2 A1_3 c1_3 l1_3 r w hr0_3 hc0_3 hr1_3 hc1_3 ?_
  unfold tag_Fit.f at h
  by_cases hb : l0_3.length ≤ 900 ∧ l1_3.length ≤ 900
  · rw [if_pos hb] at h
    rw [fits_f 1000 _ _ _ _ _ _ _ _ hb.1 hb.2 (Nat.le_refl _)]
    exact h
  · rw [if_neg hb] at h; cases h
def law03_split.f (a0 : ByteArray) : Option (List ByteArray) := if a0.size ≤ 1000000 then some (pcs a0) else none
theorem law03_split.calls (a0 : ByteArray) (r : List ByteArray) (w : World) (h : law03_split.f a0 = some r) :
    Calls Tryd.prog 18 #[.string a0] w fun e w' => ∃ v0_ : Value, e = .returned (v0_) ∧ Kd.R Kd.string 9 w' w.heap.size (fun _ => True) v0_ r ∧ Below w.heap.size w w' := by
  refine polyglotlaw03_split.calls (a0.size + 2) a0 r w ?_
  unfold law03_split.f at h
  by_cases hb : a0.size ≤ 1000000
  · rw [if_pos hb] at h
    rw [lsplit_f _ a0 hb (by omega)]
    exact h
  · rw [if_neg hb] at h; cases h
def law03_big.f (a0 : ByteArray) : Option ByteArray := if a0.size ≤ 1000000 then some (foldS true a0) else none
theorem law03_big.calls (a0 : ByteArray) (r : ByteArray) (w : World) (h : law03_big.f a0 = some r) : Calls Tryd.prog 21 #[.string a0] w fun e w' => e = .returned (.string r) ∧ Below w.heap.size w w' := by
  unfold law03_big.f at h
  by_cases hb : a0.size ≤ 1000000
  · rw [if_pos hb] at h
    obtain rfl := Option.some.inj h
    exact big_calls a0 hb w
  · rw [if_neg hb] at h; cases h
def law03_small.f (a0 : ByteArray) : Option ByteArray := if a0.size ≤ 1000000 then some (foldS false a0) else none
theorem law03_small.calls (a0 : ByteArray) (r : ByteArray) (w : World) (h : law03_small.f a0 = some r) : Calls Tryd.prog 22 #[.string a0] w fun e w' => e = .returned (.string r) ∧ Below w.heap.size w w' := by
  unfold law03_small.f at h
  by_cases hb : a0.size ≤ 1000000
  · rw [if_pos hb] at h
    obtain rfl := Option.some.inj h
    exact small_calls a0 hb w
  · rw [if_neg hb] at h; cases h
theorem ex1 : P0 (pcs (⟨#[122, 104, 45, 104, 97, 110, 116, 45, 116, 119]⟩ : ByteArray)) = ((⟨#[122, 104]⟩ : ByteArray), (⟨#[72, 97, 110, 116]⟩ : ByteArray), (⟨#[84, 87]⟩ : ByteArray), ([] : List ByteArray), true) := by kernel_rfl
theorem ex2 : P0 (pcs (⟨#[122, 104, 45, 72, 97, 110, 116]⟩ : ByteArray)) = ((⟨#[122, 104]⟩ : ByteArray), (⟨#[72, 97, 110, 116]⟩ : ByteArray), (⟨#[]⟩ : ByteArray), ([] : List ByteArray), true) := by kernel_rfl
theorem ex3 : P0 (pcs (⟨#[122, 104, 45, 84, 87]⟩ : ByteArray)) = ((⟨#[122, 104]⟩ : ByteArray), (⟨#[]⟩ : ByteArray), (⟨#[84, 87]⟩ : ByteArray), ([] : List ByteArray), true) := by kernel_rfl
theorem parsed_small (s : ByteArray) (n : Nat) (h : s.size ≤ n) : GoodT n (P0 (pcs s)) ∧ (P0 (pcs s)).2.2.2.1.length ≤ n + 1 := by
  have := P0_good n (pcs s) (fun p hp => ⟨(pcs_good s p hp).1, Nat.le_trans (pcs_good s p hp).2 h⟩)
  exact ⟨this.1, by have := this.2; have := pcs_length s; omega⟩
theorem head_said : polyglotlaw03_head.f 1001 = some true := by
  have g := (parsed_small (⟨#[122, 104, 45, 104, 97, 110, 116, 45, 116, 119]⟩ : ByteArray) 100 (by decide)).1
  rw [ex1] at g
  unfold polyglotlaw03_head.f
  rw [parse_eq _ (by decide), ex1]
  simp only [Option.bind_some, if_true]
  rw [string_f _ _ _ _ 100 (by omega) (by decide) g]
  simp only [Option.bind_some]
  have t : ((textL (partsL (⟨#[122, 104]⟩ : ByteArray) (⟨#[72, 97, 110, 116]⟩ : ByteArray) (⟨#[84, 87]⟩ : ByteArray) [])).toList != ([122, 104, 45, 72, 97, 110, 116, 45, 84, 87] : List UInt8)) = false := by decide +kernel
  rw [t, polyglotlaw03_head.j0, if_neg (by simp), parse_eq _ (by decide), parse_eq _ (by decide), ex2, ex3]
  simp only [Option.bind_some]
  rw [fits_f 1000 _ _ _ _ _ _ _ _ (by decide) (by decide) (by omega), fits_f 1000 _ _ _ _ _ _ _ _ (by decide) (by decide) (by omega)]
  simp only [Option.bind_some]
  decide +kernel
/-- The document's example holds. -/
def law03_head.f : Option Bool := some true
theorem law03_head.calls (r : Bool) (w : World) (h : law03_head.f = some r) (hG : GW w := by first | exact hG | exact GW.drewN hG _ | exact GW.below hG (by first | exact HB.out | (with_reducible exact HB.out) | (repeat (first | (with_reducible first | exact HB.out | apply below_alloc | apply pw_below_drewN | apply below_drew1) | (refine below_setA ?_ (by assumption)) | exact HB.out)))) :
    Calls Tryd.prog 14 #[] w fun e w' => e = .returned (.bool r) ∧ Below w.heap.size w w' :=
  polyglotlaw03_head.calls 1001 r w (head_said.trans h) hG
end Go.Proofs.YtpedajhcfkohlaaDoorHand
