-- Out of the kit's printed words, cut down to what is used here by this repo's own program (wip/dead.py): altered, so no printed file any more.
import Derived.Test.YtpedajhcfkohlaaDoorWWords
import Derived.Laws.StructEq
/-! ### 53. '==' of structs as_ one Bool -/
namespace Go.Proofs.YtpedajhcfkohlaaDoorW.PrintWords
open Go.RowKit
section
variable {P : Program} {d : Nat} {xs ys : Array Value} {f : Field} {fs : List Field} {a b : Value} {r s : Bool} {w : World}
end
end Go.Proofs.YtpedajhcfkohlaaDoorW.PrintWords
