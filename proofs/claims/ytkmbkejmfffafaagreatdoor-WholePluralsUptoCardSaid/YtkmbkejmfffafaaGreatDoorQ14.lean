/- Texts joined by this session's own program, part 14. -/
import Derived.Test.YtkmbkejmfffafaaGreatDoorQ12
set_option linter.unusedSectionVars false
set_option linter.unusedVariables false
set_option linter.unusedSimpArgs false
namespace Go.Proofs.YtkmbkejmfffafaaGreatDoor.Refl
open Go Go.RowKit
set_option linter.unusedVariables false
set_option linter.unusedSimpArgs false
set_option maxRecDepth 1000000
theorem runP100 (L Lg Sc Re T D S : List UInt8) (neg : Bool) (m : Int) : lookB (acall (envS (plugP ⟨1, 0, L, Lg, Sc, Re, T, none, neg, D, S⟩) .nil) 200 5 [strV L, decA neg D 1] (hM m (orcP 811))) = some (.bool true, [], allB (fun b => b) (obP 6 ⟨1, 0, L, Lg, Sc, Re, T, none, neg, D, S⟩)) := by kernel_rfl
theorem runP110 (L Lg Sc Re T D S : List UInt8) (neg : Bool) (m : Int) : lookB (acall (envS (plugP ⟨1, 1, L, Lg, Sc, Re, T, none, neg, D, S⟩) .nil) 200 5 [strV L, decA neg D 1] (hM m (orcP 701))) = some (.bool true, [], allB (fun b => b) (obP 1 ⟨1, 1, L, Lg, Sc, Re, T, none, neg, D, S⟩)) := by kernel_rfl
theorem runP120 (L Lg Sc Re T D S : List UInt8) (neg : Bool) (m : Int) : lookB (acall (envS (plugP ⟨1, 2, L, Lg, Sc, Re, T, none, neg, D, S⟩) .nil) 200 5 [strV L, decA neg D 1] (hM m (orcP 723))) = some (.bool true, [], allB (fun b => b) (obP 2 ⟨1, 2, L, Lg, Sc, Re, T, none, neg, D, S⟩)) := by kernel_rfl
theorem runP130 (L Lg Sc Re T D S : List UInt8) (neg : Bool) (m : Int) : lookB (acall (envS (plugP ⟨1, 3, L, Lg, Sc, Re, T, none, neg, D, S⟩) .nil) 200 5 [strV L, decA neg D 1] (hM m (orcP 745))) = some (.bool true, [], allB (fun b => b) (obP 3 ⟨1, 3, L, Lg, Sc, Re, T, none, neg, D, S⟩)) := by kernel_rfl
theorem runP140 (L Lg Sc Re T D S : List UInt8) (neg : Bool) (m : Int) : lookB (acall (envS (plugP ⟨1, 4, L, Lg, Sc, Re, T, none, neg, D, S⟩) .nil) 200 5 [strV L, decA neg D 1] (hM m (orcP 767))) = some (.bool true, [], allB (fun b => b) (obP 4 ⟨1, 4, L, Lg, Sc, Re, T, none, neg, D, S⟩)) := by kernel_rfl
theorem runP150 (L Lg Sc Re T D S : List UInt8) (neg : Bool) (m : Int) : lookB (acall (envS (plugP ⟨1, 5, L, Lg, Sc, Re, T, none, neg, D, S⟩) .nil) 200 5 [strV L, decA neg D 1] (hM m (orcP 789))) = some (.bool true, [], allB (fun b => b) (obP 5 ⟨1, 5, L, Lg, Sc, Re, T, none, neg, D, S⟩)) := by kernel_rfl
theorem runP101 (L Lg Sc Re T D S : List UInt8) (vs : List (List UInt8)) (neg : Bool) (m : Int) : lookB (acall (envS (plugP ⟨1, 0, L, Lg, Sc, Re, T, (some vs), neg, D, S⟩) .nil) 200 5 [strV L, decA neg D 1] (hM m (orcP 811))) = some (.bool true, [], allB (fun b => b) (obP 6 ⟨1, 0, L, Lg, Sc, Re, T, (some vs), neg, D, S⟩)) := by kernel_rfl
theorem runP111 (L Lg Sc Re T D S : List UInt8) (vs : List (List UInt8)) (neg : Bool) (m : Int) : lookB (acall (envS (plugP ⟨1, 1, L, Lg, Sc, Re, T, (some vs), neg, D, S⟩) .nil) 200 5 [strV L, decA neg D 1] (hM m (orcP 701))) = some (.bool true, [], allB (fun b => b) (obP 1 ⟨1, 1, L, Lg, Sc, Re, T, (some vs), neg, D, S⟩)) := by kernel_rfl
theorem runP121 (L Lg Sc Re T D S : List UInt8) (vs : List (List UInt8)) (neg : Bool) (m : Int) : lookB (acall (envS (plugP ⟨1, 2, L, Lg, Sc, Re, T, (some vs), neg, D, S⟩) .nil) 200 5 [strV L, decA neg D 1] (hM m (orcP 723))) = some (.bool true, [], allB (fun b => b) (obP 2 ⟨1, 2, L, Lg, Sc, Re, T, (some vs), neg, D, S⟩)) := by kernel_rfl
theorem runP131 (L Lg Sc Re T D S : List UInt8) (vs : List (List UInt8)) (neg : Bool) (m : Int) : lookB (acall (envS (plugP ⟨1, 3, L, Lg, Sc, Re, T, (some vs), neg, D, S⟩) .nil) 200 5 [strV L, decA neg D 1] (hM m (orcP 745))) = some (.bool true, [], allB (fun b => b) (obP 3 ⟨1, 3, L, Lg, Sc, Re, T, (some vs), neg, D, S⟩)) := by kernel_rfl
theorem runP141 (L Lg Sc Re T D S : List UInt8) (vs : List (List UInt8)) (neg : Bool) (m : Int) : lookB (acall (envS (plugP ⟨1, 4, L, Lg, Sc, Re, T, (some vs), neg, D, S⟩) .nil) 200 5 [strV L, decA neg D 1] (hM m (orcP 767))) = some (.bool true, [], allB (fun b => b) (obP 4 ⟨1, 4, L, Lg, Sc, Re, T, (some vs), neg, D, S⟩)) := by kernel_rfl
theorem runP151 (L Lg Sc Re T D S : List UInt8) (vs : List (List UInt8)) (neg : Bool) (m : Int) : lookB (acall (envS (plugP ⟨1, 5, L, Lg, Sc, Re, T, (some vs), neg, D, S⟩) .nil) 200 5 [strV L, decA neg D 1] (hM m (orcP 789))) = some (.bool true, [], allB (fun b => b) (obP 5 ⟨1, 5, L, Lg, Sc, Re, T, (some vs), neg, D, S⟩)) := by kernel_rfl
end Go.Proofs.YtkmbkejmfffafaaGreatDoor.Refl
