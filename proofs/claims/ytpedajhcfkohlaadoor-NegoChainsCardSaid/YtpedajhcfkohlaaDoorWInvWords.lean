-- Out of the kit's printed words, cut down to what is used here by this repo's own program (wip/dead.py): altered, so no printed file any more.
import Derived.Test.YtpedajhcfkohlaaDoorWInv
import Derived.Test.YtpedajhcfkohlaaDoorWFootNe
namespace Go.Proofs.YtpedajhcfkohlaaDoorW.PrintWords
open Go.RowKit
/-- A row that isn't empty: its address. -/
theorem Kd.R_slice1 {α : Type} {d : Kd α} {e base : Nat} {ok : Nat → Prop} {w : World} {v : Value} {xs : List α} (h : d.R e w base ok v xs) (hn : 0 < xs.length) : ∃ (ad : Addr) (c : Nat), v = .slice (some ad) xs.length c := by
  obtain ⟨A, c, rfl⟩ := Kd.R_slice h
  have h2 := (Kd.R_reads' h).2.2
  obtain ⟨ad, he, _⟩ := h2.2.2 hn
  subst he
  exact ⟨ad, c, rfl⟩
end Go.Proofs.YtpedajhcfkohlaaDoorW.PrintWords
namespace Go.Proofs.YtpedajhcfkohlaaDoorW.PrintLast
section
variable {ops : Array Oper} {a : Act} {o og : Oper} {g : Nat} {t : Tmp} {u : Bool}
end
end Go.Proofs.YtpedajhcfkohlaaDoorW.PrintLast
