import Derived.Test.YtpedajhcfkohlaaDoorNegC
import Derived.Test.YtpedajhcfkohlaaDoorPNChainsx1
/- Whatever wishes, whatever is there: which languages are asked, in which order. -/
namespace Go.Proofs.YtpedajhcfkohlaaDoor.Pure
open Go.RowKit Go.Proofs.YtpedajhcfkohlaaDoor.PNChains Go.Proofs.YtpedajhcfkohlaaDoor.PNeg Go.Proofs.YtpedajhcfkohlaaDoorHand Go.Proofs.YtpedajhcfkohlaaDoorW.PrintWords Go.Proofs.YtpedajhcfkohlaaDoorW.PrintLast Go.Proofs.YtpedajhcfkohlaaDoorW.PrintMore
set_option linter.unusedSimpArgs false
set_option linter.unusedVariables false
theorem text_small {s : ByteArray} {t : S25} (hs : s.size ≤ 100) (h : tagOf s = some t) : (txt t).size ≤ 20000 := by
  obtain ⟨h1, h2⟩ := tagOf_some h
  rcases fine_said s hs with k | ⟨lang, scr, reg, vs, k, kf⟩
  · rw [k] at h1; cases h1
  · rw [k] at h2
    subst h2
    have := (fine_text lang scr reg vs kf).2.1
    exact Nat.le_of_lt this
theorem forms_small (l : List ByteArray) (h : ∀ s ∈ l, s.size ≤ 100) : (formsL l).length ≤ l.length ∧ ∀ s ∈ formsL l, s.size ≤ 1000000 := by
  refine ⟨List.length_filterMap_le _ _, fun s hs => ?_⟩
  rw [(forms_tags l h).1] at hs
  obtain ⟨t, ht, rfl⟩ := List.mem_map.1 hs
  obtain ⟨x, hx, e⟩ := List.mem_filterMap.1 ht
  exact Nat.le_trans (text_small (h x hx) e) (by omega)
theorem NegoChains (l0 l1 : List ByteArray) (a2 : ByteArray) (h0 : l0.length ≤ 9223372036854775807) (h1 : l1.length ≤ 9223372036854775807) : polyglotlaw11_NegoChains.f 5 l0 l1 a2 = some true := by
  have es0 : law11_short.f l0 = some (shortB l0) := by unfold law11_short.f; rw [if_pos h0]
  have es1 : law11_short.f l1 = some (shortB l1) := by unfold law11_short.f; rw [if_pos h1]
  unfold polyglotlaw11_NegoChains.f law11_head.f
  rw [Option.bind_some, if_pos rfl, es0, Option.bind_some]
  by_cases hs0 : shortB l0 = true
  · rw [if_pos hs0, es1, Option.bind_some]
    by_cases hs1 : shortB l1 = true
    · rw [if_pos hs1]
      obtain ⟨b1, b2⟩ := shortB_said hs0
      obtain ⟨b3, b4⟩ := shortB_said hs1
      by_cases c2 : (a2.size : Int) > 60
      · rw [decide_eq_true c2, polyglotlaw11_NegoChains.j0, if_pos rfl]
      · have p2 : tag_ParseV.f a2 = some (P0 (pcs a2)) := by unfold tag_ParseV.f; rw [if_pos (by omega)]
        rw [decide_eq_false c2, polyglotlaw11_NegoChains.j0, if_neg (by simp), p2, Option.bind_some]
        by_cases hb : (P0 (pcs a2)).2.2.2.2 = true
        · have s2 := small_told a2 (by omega)
          obtain ⟨z, hz⟩ : ∃ z : S25, z = ⟨(P0 (pcs a2)).1, (P0 (pcs a2)).2.1, (P0 (pcs a2)).2.2.1, (P0 (pcs a2)).2.2.2.1⟩ := ⟨_, rfl⟩
          rw [← hz] at s2
          have m0 : ∀ s ∈ l0, s.size ≤ 100 := fun s hs => Nat.le_trans (b1 s hs) (by omega)
          have m1 : ∀ s ∈ l1, s.size ≤ 100 := fun s hs => Nat.le_trans (b3 s hs) (by omega)
          obtain ⟨ts0, tl0⟩ := tags_small l0 m0
          obtain ⟨ts1, tl1⟩ := tags_small l1 m1
          have et0 : nego_TagsN.f l0 = some (tagsL l0) := by unfold nego_TagsN.f; rw [if_pos ⟨by omega, fun s hs => Nat.le_trans (m0 s hs) (by omega)⟩]
          have et1 : nego_TagsN.f l1 = some (tagsL l1) := by unfold nego_TagsN.f; rw [if_pos ⟨by omega, fun s hs => Nat.le_trans (m1 s hs) (by omega)⟩]
          have ex0 : law11_Texts.f (tagsL l0) = some ((tagsL l0).map txt) := by unfold law11_Texts.f; rw [if_pos ⟨by omega, ts0⟩]
          have ex1 : law11_Texts.f (tagsL l1) = some ((tagsL l1).map txt) := by unfold law11_Texts.f; rw [if_pos ⟨by omega, ts1⟩]
          have ef0 : law11_Forms.f l0 = some ((tagsL l0).map txt) := by unfold law11_Forms.f; rw [if_pos ⟨by omega, fun s hs => Nat.le_trans (m0 s hs) (by omega)⟩, (forms_tags l0 m0).1]
          have ef1 : law11_Forms.f l1 = some ((tagsL l1).map txt) := by unfold law11_Forms.f; rw [if_pos ⟨by omega, fun s hs => Nat.le_trans (m1 s hs) (by omega)⟩, (forms_tags l1 m1).1]
          have same : ∀ l : List ByteArray, l.length ≤ 1000000 → law11_Same.f l l = some true := fun l hl => by unfold law11_Same.f; rw [if_pos ⟨hl, hl⟩, decide_eq_true rfl]
          rw [if_pos hb, et0, Option.bind_some, et1, Option.bind_some, ex0, Option.bind_some, ef0, Option.bind_some, same _ (by rw [List.length_map]; omega), Option.bind_some, if_pos rfl, ex1, Option.bind_some, ef1, Option.bind_some, same _ (by rw [List.length_map]; omega), Option.bind_some]
          rw [polyglotlaw11_NegoChains.j1, if_neg (by simp)]
          have e1 : nego_Chain.f (tagsL l0) (tagsL l1) (P0 (pcs a2)).1 (P0 (pcs a2)).2.1 (P0 (pcs a2)).2.2.1 (P0 (pcs a2)).2.2.2.1 = some (chainT (tagsL l0) (tagsL l1) z) := by
            unfold nego_Chain.f
            rw [← hz, if_pos ⟨⟨ts0, ts1, s2⟩, by omega, by omega⟩]
          obtain ⟨cs, cl⟩ := chain_small (tagsL l0) (tagsL l1) z ts0 ts1 s2 (by omega) (by omega)
          have e2 : law11_Texts.f (chainT (tagsL l0) (tagsL l1) z) = some ((chainT (tagsL l0) (tagsL l1) z).map txt) := by unfold law11_Texts.f; rw [if_pos ⟨by omega, cs⟩]
          have z1 : tag_Str.f (P0 (pcs a2)).1 (P0 (pcs a2)).2.1 (P0 (pcs a2)).2.2.1 (P0 (pcs a2)).2.2.2.1 = some (txt z) := by
            have := str_t z s2
            rw [hz] at this ⊢
            exact this
          have e3 : law11_Chain.f ((tagsL l0).map txt) ((tagsL l1).map txt) (txt z) = some ((chainT (tagsL l0) (tagsL l1) z).map txt) := by
            unfold law11_Chain.f
            rw [if_pos ⟨by rw [List.length_map]; omega, by rw [List.length_map]; omega, by rw [← (forms_tags l0 m0).1]; exact (forms_small l0 m0).2⟩, chain_map _ _ z (forms_tags l0 m0).2 (forms_tags l1 m1).2]
          rw [e1, Option.bind_some, e2, Option.bind_some, ef0, Option.bind_some, ef1, Option.bind_some, z1, Option.bind_some, e3, Option.bind_some, same _ (by rw [List.length_map]; omega), Option.bind_some]
        · rw [if_neg hb]
    · rw [if_neg hs1, polyglotlaw11_NegoChains.j0, if_pos rfl]
  · rw [if_neg hs0, polyglotlaw11_NegoChains.j0, if_pos rfl]
theorem NegoChains.walk (a0 : Option Addr) (len0 cap0 : Nat) (z0 : List ByteArray) (a1 : Option Addr) (len1 cap1 : Nat) (z1 : List ByteArray) (a2 : ByteArray) (W : World) (w0 : IsStrs W a0 len0 cap0 z0) (w1 : IsStrs W a1 len1 cap1 z1) (w2 : a2.size ≤ 140737488351232) (hG : GW W) :
    Calls Tryd.prog 11 #[.slice a0 len0 cap0, .slice a1 len1 cap1, .string a2] W fun e W' => e = .returned (.bool true) ∧ Below W.heap.size W W' := by
  obtain ⟨l0, hl0, hc0, hm0, hr0⟩ := IsStrs.row w0
  subst hl0
  obtain ⟨l1, hl1, hc1, hm1, hr1⟩ := IsStrs.row w1
  subst hl1
  exact polyglotlaw11_NegoChains.calls 5 a0 cap0 l0 a1 cap1 l1 a2 true W hr0 hc0 hr1 hc1 (NegoChains l0 l1 a2 hm0 hm1) hG
end Go.Proofs.YtpedajhcfkohlaaDoor.Pure
