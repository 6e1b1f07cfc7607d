import Derived.Test.YtpedajhcfkohlaaDoorHandS
/- The negotiation's chain in plain lists: what stands first, that each language stands once, where each comes from. -/
namespace Go.Proofs.YtpedajhcfkohlaaDoor.Pure
open Go.RowKit Go.Proofs.YtpedajhcfkohlaaDoor.PNeg Go.Proofs.YtpedajhcfkohlaaDoorHand Go.Proofs.YtpedajhcfkohlaaDoorW.PrintWords Go.Proofs.YtpedajhcfkohlaaDoorW.PrintLast Go.Proofs.YtpedajhcfkohlaaDoorW.PrintMore
set_option linter.unusedSimpArgs false
set_option linter.unusedVariables false
theorem small_told (s : ByteArray) (h : s.size ≤ 100) : SmallT ⟨(P0 (pcs s)).1, (P0 (pcs s)).2.1, (P0 (pcs s)).2.2.1, (P0 (pcs s)).2.2.2.1⟩ := by
  have g := P0_good 100 (pcs s) (fun p hp => ⟨(pcs_good s p hp).1, Nat.le_trans (pcs_good s p hp).2 h⟩)
  have hl := (pcs_length s).2
  obtain ⟨⟨h1, h2, h3, h4⟩, h5⟩ := g
  refine ⟨⟨?_, ?_, ?_, fun v hv => ?_⟩, ?_⟩
  · exact Nat.le_trans h1.2 (by omega)
  · exact Nat.le_trans h2.2 (by omega)
  · exact Nat.le_trans h3.2 (by omega)
  · exact Nat.le_trans (h4 v hv).2 (by omega)
  · exact Nat.le_trans h5 (by omega)
theorem tagOf_some {s : ByteArray} {t : S25} (h : tagOf s = some t) : (P0 (pcs s)).2.2.2.2 = true ∧ t = ⟨(P0 (pcs s)).1, (P0 (pcs s)).2.1, (P0 (pcs s)).2.2.1, (P0 (pcs s)).2.2.2.1⟩ := by
  unfold tagOf at h
  by_cases hb : (P0 (pcs s)).2.2.2.2 = true
  · rw [if_pos hb] at h
    exact ⟨hb, (Option.some.inj h).symm⟩
  · rw [if_neg hb] at h; cases h
theorem tags_small (l : List ByteArray) (h : ∀ s ∈ l, s.size ≤ 100) : (∀ t ∈ tagsL l, SmallT t) ∧ (tagsL l).length ≤ l.length := by
  refine ⟨fun t ht => ?_, List.length_filterMap_le _ _⟩
  obtain ⟨s, hs, e⟩ := List.mem_filterMap.1 ht
  rw [(tagOf_some e).2]
  exact small_told s (h s hs)
theorem shortB_said {l : List ByteArray} (h : shortB l = true) : (∀ s ∈ l, s.size ≤ 60) ∧ l.length ≤ 20 := by
  unfold shortB at h
  rw [Bool.and_eq_true, decide_eq_true_eq, List.all_eq_true] at h
  exact ⟨fun s hs => of_decide_eq_true (h.1 s hs), h.2⟩
/-! What is there stays ahead. -/
theorem addT_ahead (l : List S25) (t : S25) : ∃ m, addT l t = l ++ m := by
  unfold addT
  split
  · exact ⟨[], by simp⟩
  · exact ⟨[t], rfl⟩
theorem fitS_ahead (t : S25) (l : List S25) (x : S25) : ∃ m, fitS t l x = l ++ m := by
  unfold fitS
  split
  · exact addT_ahead l x
  · exact ⟨[], by simp⟩
theorem foldS_ahead (t : S25) : ∀ (there l : List S25), ∃ m, there.foldl (fitS t) l = l ++ m
  | [], l => ⟨[], by simp⟩
  | x :: r, l => by
    obtain ⟨m, hm⟩ := fitS_ahead t l x
    obtain ⟨n, hn⟩ := foldS_ahead t r (fitS t l x)
    exact ⟨m ++ n, by rw [List.foldl_cons, hn, hm, List.append_assoc]⟩
theorem downT_ahead (there : List S25) : ∀ (n : Nat) (o : List S25) (y : S25) (b : Bool), ∃ m, downT n there o y b = o ++ m
  | 0, o, y, b => ⟨[], by simp [downT]⟩
  | n + 1, o, y, b => by
    unfold downT
    by_cases hb : b = true
    · rw [if_pos hb]
      obtain ⟨m, hm⟩ : ∃ m, (if hasT there y = true then addT o y else o) = o ++ m := by
        split
        · exact addT_ahead o y
        · exact ⟨[], by simp⟩
      obtain ⟨k, hk⟩ := downT_ahead there n (if hasT there y = true then addT o y else o) (lessS y).1 (lessS y).2
      exact ⟨m ++ k, by rw [hk, hm, List.append_assoc]⟩
    · rw [if_neg hb]; exact ⟨[], by simp⟩
theorem chain_none (there : List S25) (last : S25) : chainT [] there last = [last] := by
  unfold chainT addT
  rfl
theorem has_self {l : List S25} {t : S25} (h : t ∈ l) : hasT l t = true := by
  unfold hasT
  rw [List.any_eq_true]
  exact ⟨t, h, by simp⟩
theorem chain_first (w : S25) (there : List S25) (last : S25) (h : hasT there w = true) : ∃ m, chainT [w] there last = w :: m := by
  unfold chainT
  obtain ⟨m1, e1⟩ := addT_ahead (([w] : List S25).foldl (wishT there) []) last
  have e2 : ([w] : List S25).foldl (wishT there) [] = wishT there [] w := rfl
  rw [e1, e2]
  unfold wishT
  obtain ⟨m2, e3⟩ := downT_ahead there (mT (lessS w).1 + 1) (fitT [] there w) (lessS w).1 (lessS w).2
  rw [e3]
  unfold fitT
  rw [if_pos h]
  have e4 : addT [] w = [w] := rfl
  rw [e4]
  obtain ⟨m3, e5⟩ := foldS_ahead w there [w]
  rw [e5]
  exact ⟨m3 ++ m2 ++ m1, by simp⟩
end Go.Proofs.YtpedajhcfkohlaaDoor.Pure
