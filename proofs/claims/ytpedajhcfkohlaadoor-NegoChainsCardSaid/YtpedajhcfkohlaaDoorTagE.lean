import Derived.Test.YtpedajhcfkohlaaDoorTagD
/- A tag with one part less, with one variant more, and with letters big or small: in plain lists. -/
namespace Go.Proofs.YtpedajhcfkohlaaDoor.Pure
open Go.RowKit Go.Proofs.YtpedajhcfkohlaaDoorHand Go.Proofs.YtpedajhcfkohlaaDoorW.PrintWords Go.Proofs.YtpedajhcfkohlaaDoorW.PrintLast Go.Proofs.YtpedajhcfkohlaaDoorW.PrintMore
set_option linter.unusedSimpArgs false
set_option linter.unusedVariables false
/-- A tag without its last part; the last word: there was more than one. -/
def lessT (lang scr reg : ByteArray) (vs : List ByteArray) : Go.Proofs.YtpedajhcfkohlaaDoorHand.Told :=
  if 0 < vs.length then (lang, scr, reg, vs.dropLast, true) else if reg.toList = ([] : List UInt8) then (if scr.toList = ([] : List UInt8) then notTold else (lang, (⟨#[]⟩ : ByteArray), reg, vs, true)) else (lang, scr, (⟨#[]⟩ : ByteArray), vs, true)
/-! Letters big or small. -/
/-! A variant behind it. -/
theorem cuts_two : ∀ (a r : List UInt8), cuts (a ++ 45 :: r) = cuts a ++ cuts r
  | [], r => cuts_app [] r (fun x hx => by cases hx)
  | c :: a, r => by
    have ih := cuts_two a r
    have hn := cuts_ne a
    rw [List.cons_append, cuts, cuts, ih]
    by_cases hc : c = 45
    · rw [if_pos hc, if_pos hc]; rfl
    · rw [if_neg hc, if_neg hc]
      cases he : cuts a with
      | nil => exact absurd he hn
      | cons h t => rfl
/-! Told again, at any size at hand. -/
theorem parse_eq2 (s : ByteArray) (h : s.size < 100000) : tag_Parse.f s = some (P0 (pcs s)) := by
  unfold tag_Parse.f
  rw [split_eq s h, Option.bind_some, if_pos]
  have := pcs_length s
  exact ⟨this.1, by omega, fun p hp => by have := (pcs_good s p hp).2; omega⟩
/-- A tag in its form, of a size at hand. -/
def Fine (lang scr reg : ByteArray) (vs : List ByteArray) : Prop := Norm lang scr reg vs ∧ GoodT 100 (lang, scr, reg, vs, true) ∧ vs.length ≤ 101
theorem fine_said (s : ByteArray) (h : s.size ≤ 100) : P0 (pcs s) = notTold ∨ ∃ lang scr reg vs, P0 (pcs s) = (lang, scr, reg, vs, true) ∧ Fine lang scr reg vs := by
  have hn : pcs s ≠ [] := List.length_pos_iff.1 (pcs_length s).1
  have hg := P0_good 100 (pcs s) (fun p hp => ⟨(pcs_good s p hp).1, Nat.le_trans (pcs_good s p hp).2 h⟩)
  have hl := (pcs_length s).2
  rcases P0_said (pcs s) hn with k | ⟨lang, scr, reg, vs, k, kn, _⟩
  · exact .inl k.1
  · rw [k] at hg
    exact .inr ⟨lang, scr, reg, vs, k, kn, hg.1, by have := hg.2; show vs.length ≤ 101; exact Nat.le_trans hg.2 (by omega)⟩
theorem fine_text (lang scr reg : ByteArray) (vs : List ByteArray) (h : Fine lang scr reg vs) : pcs (textL (partsL lang scr reg vs)) = partsL lang scr reg vs ∧ (textL (partsL lang scr reg vs)).size < 20000 ∧ P0 (pcs (textL (partsL lang scr reg vs))) = (lang, scr, reg, vs, true) := by
  obtain ⟨h1, h2, h3⟩ := h
  have hp := partsL_good 100 lang scr reg vs h2
  have e := text_pcs 100 _ (partsL_ne lang scr reg vs) hp
  have hs := text_size 100 _ hp
  have hl := (partsL_len lang scr reg vs).1
  refine ⟨e, ?_, by rw [e]; exact P0_again lang scr reg vs h1⟩
  have : (partsL lang scr reg vs).length * (100 + 1) ≤ 104 * (100 + 1) := Nat.mul_le_mul_right _ (by omega)
  omega
end Go.Proofs.YtpedajhcfkohlaaDoor.Pure
