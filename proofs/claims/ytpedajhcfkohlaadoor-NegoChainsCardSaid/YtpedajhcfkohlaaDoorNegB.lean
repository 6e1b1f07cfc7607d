import Derived.Test.YtpedajhcfkohlaaDoorNegA
/- Each language stands once in the chain, the last one among them, and each comes from a wish. -/
namespace Go.Proofs.YtpedajhcfkohlaaDoor.Pure
open Go.RowKit Go.Proofs.YtpedajhcfkohlaaDoor.PNeg Go.Proofs.YtpedajhcfkohlaaDoorHand Go.Proofs.YtpedajhcfkohlaaDoorW.PrintWords Go.Proofs.YtpedajhcfkohlaaDoorW.PrintLast Go.Proofs.YtpedajhcfkohlaaDoorW.PrintMore
set_option linter.unusedSimpArgs false
set_option linter.unusedVariables false
theorem beg_iff (a b : List ByteArray) : begB a b = true ↔ b <+: a := by
  unfold begB
  rw [Bool.and_eq_true, decide_eq_true_eq, decide_eq_true_eq, List.prefix_iff_eq_take]
  constructor
  · rintro ⟨_, h⟩; exact h.symm
  · intro h
    refine ⟨?_, h.symm⟩
    have := congrArg List.length h
    rw [List.length_take] at this
    omega
theorem less_parts {y : S25} (h : (lessS y).2 = true) : partsT (lessS y).1 = (partsT y).dropLast := by
  by_cases hv : 0 < y.f3.length
  · have e : lessS y = (⟨y.f0, y.f1, y.f2, y.f3.dropLast⟩, true) := by unfold lessS lessT; rw [if_pos hv]
    rw [e]
    have hne : y.f3 ≠ [] := List.length_pos_iff.1 hv
    show partsL y.f0 y.f1 y.f2 y.f3.dropLast = (partsL y.f0 y.f1 y.f2 y.f3).dropLast
    rw [partsL_opt, partsL_opt]
    have e2 : y.f0 :: (optL y.f1 ++ (optL y.f2 ++ y.f3)) = (y.f0 :: (optL y.f1 ++ optL y.f2)) ++ y.f3 := by simp [List.append_assoc]
    rw [e2, List.dropLast_append_of_ne_nil hne]
    simp [List.append_assoc]
  · have hv0 : y.f3 = [] := List.eq_nil_of_length_eq_zero (by omega)
    by_cases h1 : y.f2.toList = ([] : List UInt8)
    · by_cases h2 : y.f1.toList = ([] : List UInt8)
      · have e : (lessS y).2 = false := by unfold lessS lessT; rw [if_neg hv, if_pos h1, if_pos h2]; rfl
        rw [e] at h
        cases h
      · have e : lessS y = (⟨y.f0, (⟨#[]⟩ : ByteArray), y.f2, y.f3⟩, true) := by unfold lessS lessT; rw [if_neg hv, if_pos h1, if_neg h2]
        rw [e]
        show partsL y.f0 (⟨#[]⟩ : ByteArray) y.f2 y.f3 = (partsL y.f0 y.f1 y.f2 y.f3).dropLast
        have o1 : optL y.f1 = [y.f1] := by unfold optL; rw [if_neg h2]
        have o2 : optL y.f2 = [] := by unfold optL; rw [if_pos h1]
        rw [partsL_opt, partsL_opt, optL_nil, o1, o2, hv0]
        rfl
    · have e : lessS y = (⟨y.f0, y.f1, (⟨#[]⟩ : ByteArray), y.f3⟩, true) := by unfold lessS lessT; rw [if_neg hv, if_neg h1]
      rw [e]
      show partsL y.f0 y.f1 (⟨#[]⟩ : ByteArray) y.f3 = (partsL y.f0 y.f1 y.f2 y.f3).dropLast
      have o2 : optL y.f2 = [y.f2] := by unfold optL; rw [if_neg h1]
      rw [partsL_opt, partsL_opt, optL_nil, o2, hv0]
      have e3 : y.f0 :: (optL y.f1 ++ ([y.f2] ++ [])) = (y.f0 :: optL y.f1) ++ [y.f2] := by simp
      rw [e3, List.dropLast_concat]
      simp
/-- Whatever holds of no language and outlives the adding of one that may be added, holds of the chain. -/
theorem chain_ind (P : List S25 → Prop) (Q : S25 → Prop) (hP : ∀ l t, Q t → P l → P (addT l t)) (h0 : P []) (wishes there : List S25) (last : S25) (hl : Q last)
    (hw : ∀ w ∈ wishes, hasT there w = true → Q w) (hf : ∀ w ∈ wishes, ∀ x ∈ there, begB (partsT x) (partsT w) = true → Q x) (hd : ∀ w ∈ wishes, ∀ y, begB (partsT w) (partsT y) = true → hasT there y = true → Q y) : P (chainT wishes there last) := by
  have kf : ∀ w ∈ wishes, ∀ (m o : List S25), (∀ x ∈ m, x ∈ there) → P o → P (m.foldl (fitS w) o) := by
    intro w hw' m
    induction m with
    | nil => intro o _ ho; exact ho
    | cons x m ih =>
      intro o hm ho
      rw [List.foldl_cons]
      refine ih _ (fun y hy => hm y (by simp [hy])) ?_
      unfold fitS
      split
      · rename_i hb
        exact hP _ _ (hf w hw' x (hm x (by simp)) hb) ho
      · exact ho
  have kd : ∀ w ∈ wishes, ∀ (n : Nat) (o : List S25) (y : S25) (b : Bool), (b = true → begB (partsT w) (partsT y) = true) → P o → P (downT n there o y b) := by
    intro w hw' n
    induction n with
    | zero => intro o y b _ ho; exact ho
    | succ n ih =>
      intro o y b hb ho
      unfold downT
      by_cases hbb : b = true
      · rw [if_pos hbb]
        have hp := hb hbb
        refine ih _ _ _ (fun h2 => ?_) ?_
        · rw [less_parts h2, beg_iff]
          exact (List.dropLast_prefix _).trans ((beg_iff _ _).1 hp)
        · split
          · rename_i hh
            exact hP _ _ (hd w hw' y hp hh) ho
          · exact ho
      · rw [if_neg hbb]; exact ho
  have kw : ∀ (ws o : List S25), (∀ w ∈ ws, w ∈ wishes) → P o → P (ws.foldl (wishT there) o) := by
    intro ws
    induction ws with
    | nil => intro o _ ho; exact ho
    | cons w ws ih =>
      intro o hm ho
      rw [List.foldl_cons]
      refine ih _ (fun y hy => hm y (by simp [hy])) ?_
      have hw' := hm w (by simp)
      unfold wishT
      refine kd w hw' _ _ _ _ (fun h2 => ?_) ?_
      · rw [less_parts h2, beg_iff]
        exact List.dropLast_prefix _
      · unfold fitT
        refine kf w hw' there _ (fun x hx => hx) ?_
        split
        · rename_i hh
          exact hP _ _ (hw w hw' hh) ho
        · exact ho
  unfold chainT
  exact hP _ _ hl (kw wishes [] (fun w hw => hw) h0)
theorem has_iff (l : List S25) (t : S25) : hasT l t = true ↔ ∃ x ∈ l, (txt x).toList = (txt t).toList := by
  unfold hasT
  rw [List.any_eq_true]
  constructor
  · rintro ⟨x, h1, h2⟩; exact ⟨x, h1, by simpa using h2⟩
  · rintro ⟨x, h1, h2⟩; exact ⟨x, h1, by simpa using h2⟩
theorem chain_once (wishes there : List S25) (last : S25) : (chainT wishes there last).Pairwise (fun a b => (txt a).toList ≠ (txt b).toList) := by
  refine chain_ind (fun l => l.Pairwise (fun a b => (txt a).toList ≠ (txt b).toList)) (fun _ => True) (fun l t _ hl => ?_) List.Pairwise.nil wishes there last trivial (fun _ _ _ => trivial) (fun _ _ _ _ _ => trivial) (fun _ _ _ _ _ => trivial)
  unfold addT
  by_cases h : hasT l t = true
  · rw [if_pos h]; exact hl
  · rw [if_neg h, List.pairwise_append]
    refine ⟨hl, List.pairwise_singleton _ _, fun a ha b hb => ?_⟩
    simp only [List.mem_singleton] at hb
    subst hb
    intro e
    exact h ((has_iff l b).2 ⟨a, ha, e⟩)
def Src (wishes there : List S25) (last z : S25) : Prop := (txt z).toList = (txt last).toList ∨ ∃ x ∈ there, ∃ w ∈ wishes, (txt x).toList = (txt z).toList ∧ (begB (partsT z) (partsT w) = true ∨ begB (partsT w) (partsT z) = true)
theorem chain_src (wishes there : List S25) (last : S25) : ∀ z ∈ chainT wishes there last, Src wishes there last z := by
  refine chain_ind (fun l => ∀ z ∈ l, Src wishes there last z) (Src wishes there last) (fun l t ht hl => ?_) (fun z hz => by cases hz) wishes there last (.inl rfl) (fun w hw hh => ?_) (fun w hw x hx hb => ?_) (fun w hw y hb hh => ?_)
  · unfold addT
    split
    · exact hl
    · intro z hz
      rcases List.mem_append.1 hz with hz | hz
      · exact hl z hz
      · simp only [List.mem_singleton] at hz
        subst hz; exact ht
  · obtain ⟨x, hx, e⟩ := (has_iff there w).1 hh
    exact .inr ⟨x, hx, w, hw, e, .inl ((beg_iff _ _).2 (List.prefix_refl _))⟩
  · exact .inr ⟨x, hx, w, hw, rfl, .inl hb⟩
  · obtain ⟨x, hx, e⟩ := (has_iff there y).1 hh
    exact .inr ⟨x, hx, w, hw, e, .inr hb⟩
theorem chain_last (wishes there : List S25) (last : S25) : ∃ z ∈ chainT wishes there last, (txt z).toList = (txt last).toList := by
  unfold chainT addT
  by_cases h : hasT (wishes.foldl (wishT there) []) last = true
  · rw [if_pos h]; exact (has_iff _ _).1 h
  · rw [if_neg h]; exact ⟨last, by simp, rfl⟩
theorem chain_small (wishes there : List S25) (last : S25) (h0 : ∀ x ∈ wishes, SmallT x) (h1 : ∀ x ∈ there, SmallT x) (h2 : SmallT last) (hl0 : wishes.length ≤ 100) (hl1 : there.length ≤ 100) : (∀ z ∈ chainT wishes there last, SmallT z) ∧ (chainT wishes there last).length ≤ 200000 := by
  have kd : ∀ (n : Nat) (o : List S25) (y : S25) (b : Bool), SmallT y → (∀ z ∈ o, SmallT z) → (∀ z ∈ downT n there o y b, SmallT z) ∧ (downT n there o y b).length ≤ o.length + n := by
    intro n
    induction n with
    | zero => intro o y b hy ho; exact ⟨ho, Nat.le_refl _⟩
    | succ n ih =>
      intro o y b hy ho
      unfold downT
      split
      · have k : (∀ z ∈ (if hasT there y = true then addT o y else o), SmallT z) ∧ (if hasT there y = true then addT o y else o).length ≤ o.length + 1 := by
          split
          · exact addT_small ho hy
          · exact ⟨ho, Nat.le_succ _⟩
        have := ih (if hasT there y = true then addT o y else o) (lessS y).1 (lessS y).2 (lessS_small hy) k.1
        exact ⟨this.1, by have := this.2; have := k.2; omega⟩
      · exact ⟨ho, by omega⟩
  have kw : ∀ (ws o : List S25), (∀ w ∈ ws, SmallT w) → (∀ z ∈ o, SmallT z) → (∀ z ∈ ws.foldl (wishT there) o, SmallT z) ∧ (ws.foldl (wishT there) o).length ≤ o.length + ws.length * 1100 := by
    intro ws
    induction ws with
    | nil => intro o _ ho; exact ⟨ho, by simp⟩
    | cons w ws ih =>
      intro o hm ho
      rw [List.foldl_cons]
      have hw := hm w (by simp)
      have a := fitT_small ho h1 hw
      have b := kd (mT (lessS w).1 + 1) (fitT o there w) (lessS w).1 (lessS w).2 (lessS_small hw) a.1
      have hm2 := mT_le (lessS_small hw)
      have c := ih (wishT there o w) (fun y hy => hm y (by simp [hy])) b.1
      refine ⟨c.1, ?_⟩
      have c2 := c.2
      have b2 : (wishT there o w).length ≤ _ := b.2
      have a2 := a.2
      rw [List.length_cons, Nat.succ_mul]
      omega
  have k := kw wishes [] h0 (fun z hz => by cases hz)
  unfold chainT
  have a := addT_small k.1 h2
  have hm : wishes.length * 1100 ≤ 100 * 1100 := Nat.mul_le_mul_right _ hl0
  have k2 := k.2
  rw [List.length_nil] at k2
  exact ⟨a.1, by have := a.2; omega⟩
end Go.Proofs.YtpedajhcfkohlaaDoor.Pure
