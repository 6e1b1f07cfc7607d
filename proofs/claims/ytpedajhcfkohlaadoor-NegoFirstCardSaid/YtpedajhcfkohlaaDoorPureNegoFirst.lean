import Derived.Test.YtpedajhcfkohlaaDoorNegA
import Derived.Test.YtpedajhcfkohlaaDoorPNFirstx1
/- A wish that is there comes first of all, and without wishes the last one alone is asked. -/
namespace Go.Proofs.YtpedajhcfkohlaaDoor.Pure
open Go.RowKit Go.Proofs.YtpedajhcfkohlaaDoor.PNFirst Go.Proofs.YtpedajhcfkohlaaDoor.PNeg Go.Proofs.YtpedajhcfkohlaaDoorHand Go.Proofs.YtpedajhcfkohlaaDoorW.PrintWords Go.Proofs.YtpedajhcfkohlaaDoorW.PrintLast Go.Proofs.YtpedajhcfkohlaaDoorW.PrintMore
set_option linter.unusedSimpArgs false
set_option linter.unusedVariables false
theorem NegoFirst (a0 : ByteArray) (l1 : List ByteArray) (a2 : ByteArray) (h1 : l1.length ≤ 9223372036854775807) : polyglotlaw11_NegoFirst.f 5 a0 l1 a2 = some true := by
  have es : law11_short.f l1 = some (shortB l1) := by unfold law11_short.f; rw [if_pos h1]
  unfold polyglotlaw11_NegoFirst.f law11_head.f
  rw [Option.bind_some, if_pos rfl, es, Option.bind_some]
  by_cases hsh : shortB l1 = true
  · rw [if_pos hsh]
    obtain ⟨b1, b2⟩ := shortB_said hsh
    by_cases c1 : (a0.size : Int) > 60
    · rw [if_pos c1, polyglotlaw11_NegoFirst.j0, if_pos rfl]
    · rw [if_neg c1]
      by_cases c2 : (a2.size : Int) > 60
      · rw [decide_eq_true c2, polyglotlaw11_NegoFirst.j0, if_pos rfl]
      · have p0 : tag_ParseV.f a0 = some (P0 (pcs a0)) := by unfold tag_ParseV.f; rw [if_pos (by omega)]
        have p2 : tag_ParseV.f a2 = some (P0 (pcs a2)) := by unfold tag_ParseV.f; rw [if_pos (by omega)]
        rw [decide_eq_false c2, polyglotlaw11_NegoFirst.j0, if_neg (by simp), p0, Option.bind_some, p2, Option.bind_some]
        have s0 := small_told a0 (by omega)
        have s2 := small_told a2 (by omega)
        obtain ⟨w, hw⟩ : ∃ w : S25, w = ⟨(P0 (pcs a0)).1, (P0 (pcs a0)).2.1, (P0 (pcs a0)).2.2.1, (P0 (pcs a0)).2.2.2.1⟩ := ⟨_, rfl⟩
        obtain ⟨z, hz⟩ : ∃ z : S25, z = ⟨(P0 (pcs a2)).1, (P0 (pcs a2)).2.1, (P0 (pcs a2)).2.2.1, (P0 (pcs a2)).2.2.2.1⟩ := ⟨_, rfl⟩
        rw [← hw] at s0
        rw [← hz] at s2
        have key : ∀ q : Bool, polyglotlaw11_NegoFirst.j1 4 l1 q (P0 (pcs a0)).1 (P0 (pcs a0)).2.1 (P0 (pcs a0)).2.2.1 (P0 (pcs a0)).2.2.2.1 (P0 (pcs a2)).1 (P0 (pcs a2)).2.1 (P0 (pcs a2)).2.2.1 (P0 (pcs a2)).2.2.2.1 = some true := by
          intro q
          rw [polyglotlaw11_NegoFirst.j1]
          cases q with
          | true => rw [if_pos rfl]
          | false =>
            obtain ⟨ts, tl⟩ := tags_small l1 (fun s hs => Nat.le_trans (b1 s hs) (by omega))
            have et : nego_TagsN.f l1 = some (tagsL l1) := by unfold nego_TagsN.f; rw [if_pos ⟨by omega, fun s hs => Nat.le_trans (b1 s hs) (by omega)⟩]
            rw [if_neg (by simp), et, Option.bind_some, ← hw, Option.bind_some, List.length_singleton, if_pos (by omega), Option.bind_some]
            have hth : ∀ x ∈ tagsL l1 ++ [w], SmallT x := fun x hx => by
              rcases List.mem_append.1 hx with hx | hx
              · exact ts x hx
              · simp only [List.mem_singleton] at hx
                subst hx; exact s0
            have hhas : hasT (tagsL l1 ++ [w]) w = true := has_self (by simp)
            obtain ⟨m, hm⟩ := chain_first w (tagsL l1 ++ [w]) z hhas
            have e1 : nego_Chain.f [w] (tagsL l1 ++ [w]) (P0 (pcs a2)).1 (P0 (pcs a2)).2.1 (P0 (pcs a2)).2.2.1 (P0 (pcs a2)).2.2.2.1 = some (w :: m) := by
              unfold nego_Chain.f
              rw [← hz, if_pos ⟨⟨fun x hx => by simp only [List.mem_singleton] at hx; subst hx; exact s0, hth, s2⟩, by simp, by simp; omega⟩, hm]
            have e2 : nego_Chain.f [] (tagsL l1 ++ [w]) (P0 (pcs a2)).1 (P0 (pcs a2)).2.1 (P0 (pcs a2)).2.2.1 (P0 (pcs a2)).2.2.2.1 = some [z] := by
              unfold nego_Chain.f
              rw [← hz, if_pos ⟨⟨fun x hx => (by cases hx), hth, s2⟩, by simp, by simp; omega⟩, chain_none]
            rw [e1, Option.bind_some, e2, Option.bind_some]
            have r1 : rd_T25 (w :: m) 0 = w := rfl
            have r2 : rd_T25 [z] 0 = z := rfl
            have z1 : tag_Str.f (P0 (pcs a2)).1 (P0 (pcs a2)).2.1 (P0 (pcs a2)).2.2.1 (P0 (pcs a2)).2.2.2.1 = some (txt z) := by
              have := str_t z s2
              rw [hz] at this ⊢
              exact this
            have w1 : tag_Str.f (P0 (pcs a0)).1 (P0 (pcs a0)).2.1 (P0 (pcs a0)).2.2.1 (P0 (pcs a0)).2.2.2.1 = some (txt w) := by
              have := str_t w s0
              rw [hw] at this ⊢
              exact this
            rw [if_pos (by simp), if_pos (by simp), r1, str_t w s0, Option.bind_some, w1, Option.bind_some, if_pos rfl, if_pos (by simp), if_pos (by simp), r2, str_t z s2, Option.bind_some, z1, Option.bind_some]
            simp
        by_cases hb : (P0 (pcs a0)).2.2.2.2 = true
        · rw [if_pos hb]; exact key _
        · rw [if_neg hb]; exact key _
  · rw [if_neg hsh, polyglotlaw11_NegoFirst.j0, if_pos rfl]
theorem NegoFirst.walk (a0 : ByteArray) (a1 : Option Addr) (len1 cap1 : Nat) (z1 : List ByteArray) (a2 : ByteArray) (W : World) (w0 : a0.size ≤ 140737488351232) (w1 : IsStrs W a1 len1 cap1 z1) (w2 : a2.size ≤ 140737488351232) (hG : GW W) :
    Calls Tryd.prog 13 #[.string a0, .slice a1 len1 cap1, .string a2] W fun e W' => e = .returned (.bool true) ∧ Below W.heap.size W W' := by
  obtain ⟨l, hl, hc, hm, hr⟩ := IsStrs.row w1
  subst hl
  exact polyglotlaw11_NegoFirst.calls 5 a0 a1 cap1 l a2 true W hr hc (NegoFirst a0 l a2 hm) hG
end Go.Proofs.YtpedajhcfkohlaaDoor.Pure
