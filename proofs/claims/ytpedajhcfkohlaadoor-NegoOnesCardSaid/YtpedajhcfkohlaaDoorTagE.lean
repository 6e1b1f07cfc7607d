import Derived.Test.YtpedajhcfkohlaaDoorTagD
/- A tag with one part less, with one variant more, and with letters big or small: in plain lists. -/
namespace Go.Proofs.YtpedajhcfkohlaaDoor.Pure
open Go.RowKit Go.Proofs.YtpedajhcfkohlaaDoorHand Go.Proofs.YtpedajhcfkohlaaDoorW.PrintWords Go.Proofs.YtpedajhcfkohlaaDoorW.PrintLast Go.Proofs.YtpedajhcfkohlaaDoorW.PrintMore
set_option linter.unusedSimpArgs false
set_option linter.unusedVariables false
/-- A tag without its last part; the last word: there was more than one. -/
def lessT (lang scr reg : ByteArray) (vs : List ByteArray) : Go.Proofs.YtpedajhcfkohlaaDoorHand.Told :=
  if 0 < vs.length then (lang, scr, reg, vs.dropLast, true) else if reg.toList = ([] : List UInt8) then (if scr.toList = ([] : List UInt8) then notTold else (lang, (⟨#[]⟩ : ByteArray), reg, vs, true)) else (lang, scr, (⟨#[]⟩ : ByteArray), vs, true)
/-! Letters big or small. -/
/-! A variant behind it. -/
/-! Told again, at any size at hand. -/
theorem parse_eq2 (s : ByteArray) (h : s.size < 100000) : tag_Parse.f s = some (P0 (pcs s)) := by
  unfold tag_Parse.f
  rw [split_eq s h, Option.bind_some, if_pos]
  have := pcs_length s
  exact ⟨this.1, by omega, fun p hp => by have := (pcs_good s p hp).2; omega⟩
end Go.Proofs.YtpedajhcfkohlaaDoor.Pure
