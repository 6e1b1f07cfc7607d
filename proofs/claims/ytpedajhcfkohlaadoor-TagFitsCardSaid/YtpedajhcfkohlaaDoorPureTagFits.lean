import Derived.Test.YtpedajhcfkohlaaDoorTagC
import Derived.Test.YtpedajhcfkohlaaDoorPFitx3
/- Of any two tags: whether the one's parts are the first ones of the other's. -/
namespace Go.Proofs.YtpedajhcfkohlaaDoor.Pure
open Go.RowKit Go.Proofs.YtpedajhcfkohlaaDoor.PFit Go.Proofs.YtpedajhcfkohlaaDoorHand Go.Proofs.YtpedajhcfkohlaaDoorW.PrintWords Go.Proofs.YtpedajhcfkohlaaDoorW.PrintLast Go.Proofs.YtpedajhcfkohlaaDoorW.PrintMore
set_option linter.unusedSimpArgs false
theorem good_mono {n m : Nat} (h : n ≤ m) {p : ByteArray} (g : Good n p) : Good m p := ⟨g.1, Nat.le_trans g.2 h⟩
theorem parsed_good (s : ByteArray) (h : s.size ≤ 100) : GoodT 100 (P0 (pcs s)) ∧ (P0 (pcs s)).2.2.2.1.length ≤ 101 := by
  have := P0_good 100 (pcs s) (fun p hp => good_mono h (pcs_good s p hp))
  exact ⟨this.1, by have := this.2; have := pcs_length s; omega⟩
theorem e1 : P0 (pcs (⟨#[122, 104, 45, 104, 97, 110, 116, 45, 116, 119]⟩ : ByteArray)) = ((⟨#[122, 104]⟩ : ByteArray), (⟨#[72, 97, 110, 116]⟩ : ByteArray), (⟨#[84, 87]⟩ : ByteArray), ([] : List ByteArray), true) := by kernel_rfl
theorem e2 : P0 (pcs (⟨#[122, 104, 45, 72, 97, 110, 116]⟩ : ByteArray)) = ((⟨#[122, 104]⟩ : ByteArray), (⟨#[72, 97, 110, 116]⟩ : ByteArray), (⟨#[]⟩ : ByteArray), ([] : List ByteArray), true) := by kernel_rfl
theorem e3 : P0 (pcs (⟨#[122, 104, 45, 84, 87]⟩ : ByteArray)) = ((⟨#[122, 104]⟩ : ByteArray), (⟨#[]⟩ : ByteArray), (⟨#[84, 87]⟩ : ByteArray), ([] : List ByteArray), true) := by kernel_rfl
theorem head_true (k : Nat) (hk : 1001 ≤ k) : polyglotlaw03_head.f k = some true := by
  obtain ⟨k, rfl⟩ : ∃ j, k = j + 1 := ⟨k - 1, by omega⟩
  have g := (parsed_good (⟨#[122, 104, 45, 104, 97, 110, 116, 45, 116, 119]⟩ : ByteArray) (by decide)).1
  rw [e1] at g
  unfold polyglotlaw03_head.f
  rw [parse_eq _ (by decide), e1]
  simp only [Option.bind_some, if_true]
  rw [string_f _ _ _ _ 100 (by omega) (by decide) g]
  simp only [Option.bind_some]
  have t : ((textL (partsL (⟨#[122, 104]⟩ : ByteArray) (⟨#[72, 97, 110, 116]⟩ : ByteArray) (⟨#[84, 87]⟩ : ByteArray) [])).toList != ([122, 104, 45, 72, 97, 110, 116, 45, 84, 87] : List UInt8)) = false := by decide +kernel
  rw [t, polyglotlaw03_head.j0, if_neg (by simp), parse_eq _ (by decide), parse_eq _ (by decide), e2, e3]
  simp only [Option.bind_some]
  rw [fits_f k _ _ _ _ _ _ _ _ (by decide) (by decide) (by omega), fits_f k _ _ _ _ _ _ _ _ (by decide) (by decide) (by omega)]
  simp only [Option.bind_some]
  decide +kernel
theorem beg_self (p : List ByteArray) : begB p p = true := by unfold begB; simp
theorem beg_both (p q : List ByteArray) (h1 : begB p q = true) (h2 : begB q p = true) : p = q := by
  unfold begB at h1 h2
  simp only [Bool.and_eq_true, decide_eq_true_eq] at h1 h2
  have := h1.2
  rw [List.take_of_length_le (by omega)] at this
  exact this
theorem l0_true (l1 s1 g1 : ByteArray) (v1 : List ByteArray) (l2 s2 g2 : ByteArray) (v2 : List ByteArray) (h1 : v1.length ≤ 101) (h2 : v2.length ≤ 101)
    (G1 : GoodT 100 (l1, s1, g1, v1, true)) (G2 : GoodT 100 (l2, s2, g2, v2, true)) (n : Nat) : ∀ (k i : Nat) (w : Bool), n + 1001 < k → i + n = (partsL l2 s2 g2 v2).length →
    (w = true → (partsL l2 s2 g2 v2).length ≤ (partsL l1 s1 g1 v1).length) →
    (w && decide (((partsL l1 s1 g1 v1).drop i).take ((partsL l2 s2 g2 v2).length - i) = (partsL l2 s2 g2 v2).drop i)) = begB (partsL l1 s1 g1 v1) (partsL l2 s2 g2 v2) →
    polyglotlaw03_TagFits.l0 k (partsL l1 s1 g1 v1) (partsL l2 s2 g2 v2) w ((partsL l2 s2 g2 v2).length : Int) (i : Int) l1 s1 g1 v1 l2 s2 g2 v2 = some true := by
  have q1 := partsL_len l1 s1 g1 v1
  have q2 := partsL_len l2 s2 g2 v2
  induction n with
  | zero =>
    intro k i w hk hi hw hb
    obtain ⟨k, rfl⟩ : ∃ j, k = j + 1 := ⟨k - 1, by omega⟩
    have hw2 : w = begB (partsL l1 s1 g1 v1) (partsL l2 s2 g2 v2) := by
      have e0 : (partsL l2 s2 g2 v2).drop i = [] := List.drop_of_length_le (by omega)
      rw [← hb, show (partsL l2 s2 g2 v2).length - i = 0 by omega, List.take_zero, e0]
      simp
    rw [polyglotlaw03_TagFits.l0, if_neg (by omega), fits_f k _ _ _ _ _ _ _ _ (by omega) (by omega) (by omega), fits_f k _ _ _ _ _ _ _ _ (by omega) (by omega) (by omega), fits_f k _ _ _ _ _ _ _ _ (by omega) (by omega) (by omega)]
    rw [string_f _ _ _ _ 100 (by omega) (by omega) G1, string_f _ _ _ _ 100 (by omega) (by omega) G2]
    simp only [Option.bind_some]
    rw [hw2, if_pos (by simp), beg_self, if_pos rfl]
    by_cases a : begB (partsL l1 s1 g1 v1) (partsL l2 s2 g2 v2) = true
    · rw [if_pos a]
      by_cases b : begB (partsL l2 s2 g2 v2) (partsL l1 s1 g1 v1) = true
      · rw [if_pos b, beg_both _ _ a b]
        simp
      · rw [if_neg b]
    · rw [if_neg a]
  | succ n ih =>
    intro k i w hk hi hw hb
    obtain ⟨k, rfl⟩ : ∃ j, k = j + 1 := ⟨k - 1, by omega⟩
    rw [polyglotlaw03_TagFits.l0, if_pos (by omega)]
    rw [wrap_id (x := (i : Int) + 1) (by omega) (by omega)]
    cases w with
    | false =>
      rw [if_neg (by simp)]
      exact ih k (i + 1) false (by omega) (by omega) (fun h => by cases h) (by rw [← hb]; rfl)
    | true =>
      have hle := hw rfl
      have p1 : i < (partsL l1 s1 g1 v1).length := by omega
      have p2 : i < (partsL l2 s2 g2 v2).length := by omega
      rw [if_pos rfl, if_pos (by omega), if_pos (by omega), if_pos (by omega)]
      have r1 : rdOf ByteArray.empty (partsL l1 s1 g1 v1) (i : Int) = (partsL l1 s1 g1 v1)[i] := by
        unfold rdOf; simp [List.getD_eq_getElem?_getD, List.getElem?_eq_getElem p1]
      have r2 : rdOf ByteArray.empty (partsL l2 s2 g2 v2) (i : Int) = (partsL l2 s2 g2 v2)[i] := by
        unfold rdOf; simp [List.getD_eq_getElem?_getD, List.getElem?_eq_getElem p2]
      rw [r1, r2]
      refine ih k (i + 1) _ (by omega) (by omega) (fun _ => hle) ?_
      rw [← hb, List.drop_eq_getElem_cons p1, List.drop_eq_getElem_cons p2, Bool.true_and]
      have e3 : (partsL l2 s2 g2 v2).length - i = ((partsL l2 s2 g2 v2).length - (i + 1)) + 1 := by omega
      rw [e3, List.take_succ_cons]
      by_cases h : (partsL l1 s1 g1 v1)[i].toList = (partsL l2 s2 g2 v2)[i].toList
      · have he : (partsL l1 s1 g1 v1)[i] = (partsL l2 s2 g2 v2)[i] := ba_ext (by rw [← tl, ← tl]; exact h)
        rw [h, beq_self_eq_true, Bool.true_and]
        apply decide_eq_decide.2
        exact ⟨fun e => by rw [he, e], fun e => (List.cons.inj e).2⟩
      · rw [beq_eq_false_iff_ne.2 h, Bool.false_and, eq_comm, decide_eq_false_iff_not]
        intro e
        exact h (by rw [(List.cons.inj e).1])
theorem TagFits : polyglotlaw03_TagFits.Pure := by
  intro a b _ _
  refine ⟨20000, ?_⟩
  have key : ∀ k, 15000 ≤ k → polyglotlaw03_TagFits.f k a b = some true := by
    intro k hk
    obtain ⟨k, rfl⟩ : ∃ j, k = j + 1 + 1 := ⟨k - 2, by omega⟩
    unfold polyglotlaw03_TagFits.f
    rw [head_true _ (by omega)]
    simp only [Option.bind_some, if_true]
    by_cases ha : (a.size : Int) > 100
    · rw [if_pos ha, polyglotlaw03_TagFits.j0, if_pos rfl]
    · rw [if_neg ha]
      by_cases hb : (b.size : Int) > 100
      · rw [decide_eq_true hb, polyglotlaw03_TagFits.j0, if_pos rfl]
      · rw [decide_eq_false hb, polyglotlaw03_TagFits.j0, if_neg (by simp), parse_eq a (by omega), parse_eq b (by omega)]
        obtain ⟨G1, n1⟩ := parsed_good a (by omega)
        obtain ⟨G2, n2⟩ := parsed_good b (by omega)
        generalize P0 (pcs a) = T1 at *
        generalize P0 (pcs b) = T2 at *
        obtain ⟨l1, s1, g1, v1, o1⟩ := T1
        obtain ⟨l2, s2, g2, v2, o2⟩ := T2
        simp only [Option.bind_some]
        have q1 := partsL_len l1 s1 g1 v1
        have q2 := partsL_len l2 s2 g2 v2
        have n1' : v1.length ≤ 101 := n1
        have n2' : v2.length ≤ 101 := n2
        have G1' : GoodT 100 (l1, s1, g1, v1, true) := G1
        have G2' : GoodT 100 (l2, s2, g2, v2, true) := G2
        cases o1 with
        | false => rw [if_neg (by simp), polyglotlaw03_TagFits.j1, if_pos rfl]
        | true =>
          rw [if_pos rfl]
          cases o2 with
          | false => rw [polyglotlaw03_TagFits.j1, if_pos (by simp)]
          | true =>
            rw [polyglotlaw03_TagFits.j1, if_neg (by simp), string_f _ _ _ _ 100 (by omega) (by omega) G1', string_f _ _ _ _ 100 (by omega) (by omega) G2']
            have t1 := text_size 100 _ (partsL_good 100 l1 s1 g1 v1 G1')
            have t2 := text_size 100 _ (partsL_good 100 l2 s2 g2 v2 G2')
            simp only [Option.bind_some]
            rw [lsplit_f k _ (by omega) (by omega), lsplit_f k _ (by omega) (by omega), text_pcs 100 _ (partsL_ne _ _ _ _) (partsL_good 100 l1 s1 g1 v1 G1'), text_pcs 100 _ (partsL_ne _ _ _ _) (partsL_good 100 l2 s2 g2 v2 G2')]
            simp only [Option.bind_some]
            refine l0_true l1 s1 g1 v1 l2 s2 g2 v2 n1' n2' G1' G2' (partsL l2 s2 g2 v2).length k 0 _ (by omega) (by omega) (fun h => by rw [decide_eq_true_eq] at h; omega) ?_
            unfold begB
            simp only [List.drop_zero, Nat.sub_zero]
            congr 1
            apply decide_eq_decide.2
            omega
  exact key 20000 (by decide)
end Go.Proofs.YtpedajhcfkohlaaDoor.Pure
