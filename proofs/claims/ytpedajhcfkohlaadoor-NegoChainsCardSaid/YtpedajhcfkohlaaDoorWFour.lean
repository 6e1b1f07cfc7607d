-- Out of the kit's printed words, cut down to what is used here by this repo's own program (wip/dead.py): altered, so no printed file any more.
import Derived.Test.YtpedajhcfkohlaaDoorWTab
/-! ### 56. Four, five, six operations that may come up next, in any order -/
namespace Go.Proofs.YtpedajhcfkohlaaDoorW.PrintLast
section
variable {P : Program} {ops : Array Oper} {Q : Exit → Act → World → Prop} {md : Region.Mode} {S : World → Prop} {ds : List Nat} {T : Bool × List (List Nat × List Nat)}
end
end Go.Proofs.YtpedajhcfkohlaaDoorW.PrintLast
