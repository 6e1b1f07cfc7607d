/- Texts joined by this session's own program, part 23. -/
import Derived.Test.YtkmbkejmfffafaaGreatDoorQ19
set_option linter.unusedSectionVars false
set_option linter.unusedVariables false
set_option linter.unusedSimpArgs false
namespace Go.Proofs.YtkmbkejmfffafaaGreatDoor.Refl
open Go Go.RowKit
set_option linter.unusedVariables false
set_option linter.unusedSimpArgs false
set_option maxRecDepth 1000000
theorem runN220 (L Lg Sc Re T D S F : List UInt8) (neg : Bool) (M : Int) (sc l m q u v : Nat) (z w : Int) (a a2 b b2 : UInt8) : NumRun ⟨⟨sc, 0, L, Lg, Sc, Re, T, none, neg, D, S⟩, [a, a2], [b, b2], F, l, m, q, u, v⟩ z w 78 617 68 255 M := by unfold NumRun; kernel_rfl
theorem runN221 (L Lg Sc Re T D S F : List UInt8) (vs : List (List UInt8)) (neg : Bool) (M : Int) (sc l m q u v : Nat) (z w : Int) (a a2 b b2 : UInt8) : NumRun ⟨⟨sc, 0, L, Lg, Sc, Re, T, (some vs), neg, D, S⟩, [a, a2], [b, b2], F, l, m, q, u, v⟩ z w 77 183 69 258 M := by unfold NumRun; kernel_rfl
end Go.Proofs.YtkmbkejmfffafaaGreatDoor.Refl
