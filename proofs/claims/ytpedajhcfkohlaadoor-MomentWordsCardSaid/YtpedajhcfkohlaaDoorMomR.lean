import Derived.Test.YtpedajhcfkohlaaDoorMomQ
import Derived.Test.YtpedajhcfkohlaaDoorPMomx6
/- The statements' own check at the top, and how texts of numbers tell the numbers apart. -/
namespace Go.Proofs.YtpedajhcfkohlaaDoor.Pure
open Go.RowKit Go.Proofs.YtpedajhcfkohlaaDoor.PMom Go.Proofs.YtpedajhcfkohlaaDoorHand Go.Proofs.YtpedajhcfkohlaaDoorW.PrintWords Go.Proofs.YtpedajhcfkohlaaDoorW.PrintLast Go.Proofs.YtpedajhcfkohlaaDoorW.PrintMore
theorem padN (u : Nat) (L : Int) : padL (u : Int) L = Lib.repeatL [48] (L - ((Lib.decDigits u).length : Int)).toNat ++ Lib.decDigits u := by
  unfold padL
  simp only [if_neg (show ¬ (u : Int) < 0 by omega), List.nil_append, Lib.itoa_nonneg]
theorem pad2N (u : Nat) (h : u < 100) : padL (u : Int) 2 = [UInt8.ofNat (48 + u / 10), UInt8.ofNat (48 + u % 10)] := by
  rw [padN]
  by_cases h1 : u < 10
  · rw [Lib.decDigits_one h1]
    have e1 : u / 10 = 0 := by omega
    have e2 : u % 10 = u := by omega
    rw [e1, e2]; rfl
  · rw [Lib.decDigits_two h1 h]; rfl
theorem pad1N (u : Nat) (h : u < 100) : padL (u : Int) 1 = if u < 10 then [UInt8.ofNat (48 + u)] else [UInt8.ofNat (48 + u / 10), UInt8.ofNat (48 + u % 10)] := by
  rw [padN]
  by_cases h1 : u < 10
  · rw [Lib.decDigits_one h1, if_pos h1]; rfl
  · rw [Lib.decDigits_two h1 h, if_neg h1]; rfl
theorem d1970 : Lib.decDigits 1970 = [49, 57, 55, 48] := by rw [Lib.decDigits_eq]; decide +kernel
theorem head_true (k : Nat) (hk : 0 < k) : polyglotlaw13_head.f k = some true := by
  unfold polyglotlaw13_head.f
  rw [fmt_eq k _ 0 2 hk, fmt_eq k _ 0 2 hk]
  have y : yS 0 = ((1970 : Nat) : Int) := by decide +kernel
  have mo : moS 0 = ((1 : Nat) : Int) := by decide +kernel
  have d : dS 0 = ((1 : Nat) : Int) := by decide +kernel
  have h : hS 0 = ((0 : Nat) : Int) := by decide +kernel
  have mi : mS 0 = ((0 : Nat) : Int) := by decide +kernel
  have e12 : (((0 : Nat) : Int) + 11) % 12 + 1 = ((12 : Nat) : Int) := by decide
  have p1 := pad1N 1 (by omega)
  have p2 := pad2N 1 (by omega)
  have p3 := pad2N 0 (by omega)
  have p4 := pad1N 12 (by omega)
  have p5 : padL ((1970 : Nat) : Int) 4 = [49, 57, 55, 48] := by rw [padN, d1970]; rfl
  rw [y, mo, d, h, mi]
  simp only [Option.bind_some, mk_list]
  unfold fmtL dayL clockL btw
  rw [p5, p1, p2, p3, e12, p4]
  decide +kernel
theorem byte_inj (a b : Nat) (h1 : a < 256) (h2 : b < 256) (h : UInt8.ofNat a = UInt8.ofNat b) : a = b := by
  have := congrArg UInt8.toNat h
  simp only [UInt8.toNat_ofNat'] at this
  omega
theorem pad2_inj (a b : Int) (a0 : 0 ≤ a) (a1 : a < 100) (b0 : 0 ≤ b) (b1 : b < 100) (h : padL a 2 = padL b 2) : a = b := by
  obtain ⟨u, rfl⟩ : ∃ u : Nat, a = u := ⟨a.toNat, by omega⟩
  obtain ⟨v, rfl⟩ : ∃ v : Nat, b = v := ⟨b.toNat, by omega⟩
  rw [pad2N u (by omega), pad2N v (by omega)] at h
  injection h with h1 h2
  injection h2 with h2 _
  have := byte_inj _ _ (by omega) (by omega) h1
  have := byte_inj _ _ (by omega) (by omega) h2
  omega
theorem pad1_inj (a b : Int) (a0 : 0 ≤ a) (a1 : a < 100) (b0 : 0 ≤ b) (b1 : b < 100) (h : padL a 1 = padL b 1) : a = b := by
  obtain ⟨u, rfl⟩ : ∃ u : Nat, a = u := ⟨a.toNat, by omega⟩
  obtain ⟨v, rfl⟩ : ∃ v : Nat, b = v := ⟨b.toNat, by omega⟩
  rw [pad1N u (by omega), pad1N v (by omega)] at h
  by_cases g1 : u < 10
  · rw [if_pos g1] at h
    by_cases g2 : v < 10
    · rw [if_pos g2] at h
      injection h with h1 _
      have := byte_inj _ _ (by omega) (by omega) h1
      omega
    · rw [if_neg g2] at h
      injection h with _ h2
      simp at h2
  · rw [if_neg g1] at h
    by_cases g2 : v < 10
    · rw [if_pos g2] at h
      injection h with _ h2
      simp at h2
    · rw [if_neg g2] at h
      injection h with h1 h2
      injection h2 with h2 _
      have := byte_inj _ _ (by omega) (by omega) h1
      have := byte_inj _ _ (by omega) (by omega) h2
      omega
theorem pad2_len (a : Int) (a0 : 0 ≤ a) (a1 : a < 100) : (padL a 2).length = 2 := by
  obtain ⟨u, rfl⟩ : ∃ u : Nat, a = u := ⟨a.toNat, by omega⟩
  rw [pad2N u (by omega)]; rfl
theorem dig47 (n : Nat) (h : n ≤ 9) : UInt8.ofNat (48 + n) ≠ 47 := by
  intro e
  have := byte_inj (48 + n) 47 (by omega) (by omega) e
  omega
theorem pad1_no (a : Int) (a0 : 0 ≤ a) (a1 : a < 100) : ∀ x ∈ padL a 1, x ≠ 47 := by
  obtain ⟨u, rfl⟩ : ∃ u : Nat, a = u := ⟨a.toNat, by omega⟩
  rw [pad1N u (by omega)]
  intro x hx
  by_cases g : u < 10
  · rw [if_pos g] at hx
    simp only [List.mem_singleton] at hx
    rw [hx]; exact dig47 u (by omega)
  · rw [if_neg g] at hx
    simp only [List.mem_cons, List.not_mem_nil, or_false] at hx
    rcases hx with rfl | rfl
    · exact dig47 _ (by omega)
    · exact dig47 _ (by omega)
theorem split47 : ∀ (a b r s : List UInt8), (∀ x ∈ a, x ≠ 47) → (∀ x ∈ b, x ≠ 47) → a ++ 47 :: r = b ++ 47 :: s → a = b ∧ r = s
  | [], [], _, _, _, _, h => by simpa using h
  | [], y :: b, _, _, _, hb, h => by
    simp only [List.nil_append, List.cons_append] at h
    injection h with h1 _
    exact absurd h1.symm (hb y (by simp))
  | x :: a, [], _, _, ha, _, h => by
    simp only [List.nil_append, List.cons_append] at h
    injection h with h1 _
    exact absurd h1 (ha x (by simp))
  | x :: a, y :: b, r, s, ha, hb, h => by
    simp only [List.cons_append] at h
    injection h with h1 h2
    obtain ⟨h3, h4⟩ := split47 a b r s (fun z hz => ha z (by simp [hz])) (fun z hz => hb z (by simp [hz])) h2
    exact ⟨by rw [h1, h3], h4⟩
/-- Texts of days tell the day of the month. -/
theorem dayL_ne (lang : ByteArray) (y m d y' m' d' : Int) (m1 : 1 ≤ m) (m2 : m ≤ 12) (d1 : 1 ≤ d) (d2 : d ≤ 31) (m1' : 1 ≤ m') (m2' : m' ≤ 12) (d1' : 1 ≤ d') (d2' : d' ≤ 31)
    (h : dayL lang y m d = dayL lang y' m' d') : d = d' := by
  have l1 := pad2_len d (by omega) (by omega)
  have l2 := pad2_len d' (by omega) (by omega)
  unfold dayL at h
  split at h
  · simp only [List.append_assoc, List.cons_append, List.nil_append] at h
    have q := (split47 _ _ _ _ (pad1_no m (by omega) (by omega)) (pad1_no m' (by omega) (by omega)) h).2
    have q2 := (split47 _ _ _ _ (pad1_no d (by omega) (by omega)) (pad1_no d' (by omega) (by omega)) q).1
    exact pad1_inj _ _ (by omega) (by omega) (by omega) (by omega) q2
  · split at h
    · simp only [List.append_assoc] at h
      exact pad2_inj _ _ (by omega) (by omega) (by omega) (by omega) (List.append_inj h (by omega)).1
    · split at h
      · simp only [List.append_assoc] at h
        exact pad2_inj _ _ (by omega) (by omega) (by omega) (by omega) (List.append_inj h (by omega)).1
      · exact pad2_inj _ _ (by omega) (by omega) (by omega) (by omega) (List.append_inj' h (by omega)).2
/-- Texts of clocks tell the minute. -/
theorem clockL_min (lang : ByteArray) (h m h' m' : Int) (m1 : 0 ≤ m) (m2 : m ≤ 59) (m1' : 0 ≤ m') (m2' : m' ≤ 59) (e : clockL lang h m = clockL lang h' m') : m = m' := by
  have l1 := pad2_len m (by omega) (by omega)
  have l2 := pad2_len m' (by omega) (by omega)
  unfold clockL at e
  split at e
  · have q := (List.append_inj' e (by split <;> split <;> rfl)).1
    have q2 := (List.append_inj' q rfl).1
    exact pad2_inj _ _ (by omega) (by omega) (by omega) (by omega) (List.append_inj' q2 (by omega)).2
  · exact pad2_inj _ _ (by omega) (by omega) (by omega) (by omega) (List.append_inj' e (by omega)).2
theorem clockL_some (lang : ByteArray) (h m : Int) : clockL lang h m ≠ [] := by
  unfold clockL
  split <;> simp
end Go.Proofs.YtpedajhcfkohlaaDoor.Pure
