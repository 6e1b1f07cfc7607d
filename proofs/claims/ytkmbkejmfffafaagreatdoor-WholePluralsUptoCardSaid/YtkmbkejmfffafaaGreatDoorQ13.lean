/- Texts joined by this session's own program, part 13. -/
import Derived.Test.YtkmbkejmfffafaaGreatDoorQ12
set_option linter.unusedSectionVars false
set_option linter.unusedVariables false
set_option linter.unusedSimpArgs false
namespace Go.Proofs.YtkmbkejmfffafaaGreatDoor.Refl
open Go Go.RowKit
set_option linter.unusedVariables false
set_option linter.unusedSimpArgs false
set_option maxRecDepth 1000000
theorem runP000 (L Lg Sc Re T D S : List UInt8) (neg : Bool) (m : Int) : lookB (acall (envS (plugP ⟨0, 0, L, Lg, Sc, Re, T, none, neg, D, S⟩) .nil) 200 5 [strV L, decA neg D 0] (hM m (orcP 811))) = some (.bool true, [], allB (fun b => b) (obP 6 ⟨0, 0, L, Lg, Sc, Re, T, none, neg, D, S⟩)) := by kernel_rfl
theorem runP010 (L Lg Sc Re T D S : List UInt8) (neg : Bool) (m : Int) : lookB (acall (envS (plugP ⟨0, 1, L, Lg, Sc, Re, T, none, neg, D, S⟩) .nil) 200 5 [strV L, decA neg D 0] (hM m (orcP 701))) = some (.bool true, [], allB (fun b => b) (obP 1 ⟨0, 1, L, Lg, Sc, Re, T, none, neg, D, S⟩)) := by kernel_rfl
theorem runP020 (L Lg Sc Re T D S : List UInt8) (neg : Bool) (m : Int) : lookB (acall (envS (plugP ⟨0, 2, L, Lg, Sc, Re, T, none, neg, D, S⟩) .nil) 200 5 [strV L, decA neg D 0] (hM m (orcP 723))) = some (.bool true, [], allB (fun b => b) (obP 2 ⟨0, 2, L, Lg, Sc, Re, T, none, neg, D, S⟩)) := by kernel_rfl
theorem runP030 (L Lg Sc Re T D S : List UInt8) (neg : Bool) (m : Int) : lookB (acall (envS (plugP ⟨0, 3, L, Lg, Sc, Re, T, none, neg, D, S⟩) .nil) 200 5 [strV L, decA neg D 0] (hM m (orcP 745))) = some (.bool true, [], allB (fun b => b) (obP 3 ⟨0, 3, L, Lg, Sc, Re, T, none, neg, D, S⟩)) := by kernel_rfl
theorem runP040 (L Lg Sc Re T D S : List UInt8) (neg : Bool) (m : Int) : lookB (acall (envS (plugP ⟨0, 4, L, Lg, Sc, Re, T, none, neg, D, S⟩) .nil) 200 5 [strV L, decA neg D 0] (hM m (orcP 767))) = some (.bool true, [], allB (fun b => b) (obP 4 ⟨0, 4, L, Lg, Sc, Re, T, none, neg, D, S⟩)) := by kernel_rfl
theorem runP050 (L Lg Sc Re T D S : List UInt8) (neg : Bool) (m : Int) : lookB (acall (envS (plugP ⟨0, 5, L, Lg, Sc, Re, T, none, neg, D, S⟩) .nil) 200 5 [strV L, decA neg D 0] (hM m (orcP 789))) = some (.bool true, [], allB (fun b => b) (obP 5 ⟨0, 5, L, Lg, Sc, Re, T, none, neg, D, S⟩)) := by kernel_rfl
theorem runP001 (L Lg Sc Re T D S : List UInt8) (vs : List (List UInt8)) (neg : Bool) (m : Int) : lookB (acall (envS (plugP ⟨0, 0, L, Lg, Sc, Re, T, (some vs), neg, D, S⟩) .nil) 200 5 [strV L, decA neg D 0] (hM m (orcP 811))) = some (.bool true, [], allB (fun b => b) (obP 6 ⟨0, 0, L, Lg, Sc, Re, T, (some vs), neg, D, S⟩)) := by kernel_rfl
theorem runP011 (L Lg Sc Re T D S : List UInt8) (vs : List (List UInt8)) (neg : Bool) (m : Int) : lookB (acall (envS (plugP ⟨0, 1, L, Lg, Sc, Re, T, (some vs), neg, D, S⟩) .nil) 200 5 [strV L, decA neg D 0] (hM m (orcP 701))) = some (.bool true, [], allB (fun b => b) (obP 1 ⟨0, 1, L, Lg, Sc, Re, T, (some vs), neg, D, S⟩)) := by kernel_rfl
theorem runP021 (L Lg Sc Re T D S : List UInt8) (vs : List (List UInt8)) (neg : Bool) (m : Int) : lookB (acall (envS (plugP ⟨0, 2, L, Lg, Sc, Re, T, (some vs), neg, D, S⟩) .nil) 200 5 [strV L, decA neg D 0] (hM m (orcP 723))) = some (.bool true, [], allB (fun b => b) (obP 2 ⟨0, 2, L, Lg, Sc, Re, T, (some vs), neg, D, S⟩)) := by kernel_rfl
theorem runP031 (L Lg Sc Re T D S : List UInt8) (vs : List (List UInt8)) (neg : Bool) (m : Int) : lookB (acall (envS (plugP ⟨0, 3, L, Lg, Sc, Re, T, (some vs), neg, D, S⟩) .nil) 200 5 [strV L, decA neg D 0] (hM m (orcP 745))) = some (.bool true, [], allB (fun b => b) (obP 3 ⟨0, 3, L, Lg, Sc, Re, T, (some vs), neg, D, S⟩)) := by kernel_rfl
theorem runP041 (L Lg Sc Re T D S : List UInt8) (vs : List (List UInt8)) (neg : Bool) (m : Int) : lookB (acall (envS (plugP ⟨0, 4, L, Lg, Sc, Re, T, (some vs), neg, D, S⟩) .nil) 200 5 [strV L, decA neg D 0] (hM m (orcP 767))) = some (.bool true, [], allB (fun b => b) (obP 4 ⟨0, 4, L, Lg, Sc, Re, T, (some vs), neg, D, S⟩)) := by kernel_rfl
theorem runP051 (L Lg Sc Re T D S : List UInt8) (vs : List (List UInt8)) (neg : Bool) (m : Int) : lookB (acall (envS (plugP ⟨0, 5, L, Lg, Sc, Re, T, (some vs), neg, D, S⟩) .nil) 200 5 [strV L, decA neg D 0] (hM m (orcP 789))) = some (.bool true, [], allB (fun b => b) (obP 5 ⟨0, 5, L, Lg, Sc, Re, T, (some vs), neg, D, S⟩)) := by kernel_rfl
end Go.Proofs.YtkmbkejmfffafaaGreatDoor.Refl
