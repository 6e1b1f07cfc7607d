/- Texts joined by this session's own program, part 16. -/
import Derived.Test.YtkmbkejmfffafaaGreatDoorQ12
set_option linter.unusedSectionVars false
set_option linter.unusedVariables false
set_option linter.unusedSimpArgs false
namespace Go.Proofs.YtkmbkejmfffafaaGreatDoor.Refl
open Go Go.RowKit
set_option linter.unusedVariables false
set_option linter.unusedSimpArgs false
set_option maxRecDepth 1000000
theorem runP300 (L Lg Sc Re T D S : List UInt8) (neg : Bool) (m : Int) : lookB (acall (envS (plugP ⟨3, 0, L, Lg, Sc, Re, T, none, neg, D, S⟩) .nil) 200 5 [strV L, decA neg D 3] (hM m (orcP 811))) = some (.bool true, [], allB (fun b => b) (obP 6 ⟨3, 0, L, Lg, Sc, Re, T, none, neg, D, S⟩)) := by kernel_rfl
theorem runP310 (L Lg Sc Re T D S : List UInt8) (neg : Bool) (m : Int) : lookB (acall (envS (plugP ⟨3, 1, L, Lg, Sc, Re, T, none, neg, D, S⟩) .nil) 200 5 [strV L, decA neg D 3] (hM m (orcP 701))) = some (.bool true, [], allB (fun b => b) (obP 1 ⟨3, 1, L, Lg, Sc, Re, T, none, neg, D, S⟩)) := by kernel_rfl
theorem runP320 (L Lg Sc Re T D S : List UInt8) (neg : Bool) (m : Int) : lookB (acall (envS (plugP ⟨3, 2, L, Lg, Sc, Re, T, none, neg, D, S⟩) .nil) 200 5 [strV L, decA neg D 3] (hM m (orcP 723))) = some (.bool true, [], allB (fun b => b) (obP 2 ⟨3, 2, L, Lg, Sc, Re, T, none, neg, D, S⟩)) := by kernel_rfl
theorem runP330 (L Lg Sc Re T D S : List UInt8) (neg : Bool) (m : Int) : lookB (acall (envS (plugP ⟨3, 3, L, Lg, Sc, Re, T, none, neg, D, S⟩) .nil) 200 5 [strV L, decA neg D 3] (hM m (orcP 745))) = some (.bool true, [], allB (fun b => b) (obP 3 ⟨3, 3, L, Lg, Sc, Re, T, none, neg, D, S⟩)) := by kernel_rfl
theorem runP340 (L Lg Sc Re T D S : List UInt8) (neg : Bool) (m : Int) : lookB (acall (envS (plugP ⟨3, 4, L, Lg, Sc, Re, T, none, neg, D, S⟩) .nil) 200 5 [strV L, decA neg D 3] (hM m (orcP 767))) = some (.bool true, [], allB (fun b => b) (obP 4 ⟨3, 4, L, Lg, Sc, Re, T, none, neg, D, S⟩)) := by kernel_rfl
theorem runP350 (L Lg Sc Re T D S : List UInt8) (neg : Bool) (m : Int) : lookB (acall (envS (plugP ⟨3, 5, L, Lg, Sc, Re, T, none, neg, D, S⟩) .nil) 200 5 [strV L, decA neg D 3] (hM m (orcP 789))) = some (.bool true, [], allB (fun b => b) (obP 5 ⟨3, 5, L, Lg, Sc, Re, T, none, neg, D, S⟩)) := by kernel_rfl
theorem runP301 (L Lg Sc Re T D S : List UInt8) (vs : List (List UInt8)) (neg : Bool) (m : Int) : lookB (acall (envS (plugP ⟨3, 0, L, Lg, Sc, Re, T, (some vs), neg, D, S⟩) .nil) 200 5 [strV L, decA neg D 3] (hM m (orcP 811))) = some (.bool true, [], allB (fun b => b) (obP 6 ⟨3, 0, L, Lg, Sc, Re, T, (some vs), neg, D, S⟩)) := by kernel_rfl
theorem runP311 (L Lg Sc Re T D S : List UInt8) (vs : List (List UInt8)) (neg : Bool) (m : Int) : lookB (acall (envS (plugP ⟨3, 1, L, Lg, Sc, Re, T, (some vs), neg, D, S⟩) .nil) 200 5 [strV L, decA neg D 3] (hM m (orcP 701))) = some (.bool true, [], allB (fun b => b) (obP 1 ⟨3, 1, L, Lg, Sc, Re, T, (some vs), neg, D, S⟩)) := by kernel_rfl
theorem runP321 (L Lg Sc Re T D S : List UInt8) (vs : List (List UInt8)) (neg : Bool) (m : Int) : lookB (acall (envS (plugP ⟨3, 2, L, Lg, Sc, Re, T, (some vs), neg, D, S⟩) .nil) 200 5 [strV L, decA neg D 3] (hM m (orcP 723))) = some (.bool true, [], allB (fun b => b) (obP 2 ⟨3, 2, L, Lg, Sc, Re, T, (some vs), neg, D, S⟩)) := by kernel_rfl
theorem runP331 (L Lg Sc Re T D S : List UInt8) (vs : List (List UInt8)) (neg : Bool) (m : Int) : lookB (acall (envS (plugP ⟨3, 3, L, Lg, Sc, Re, T, (some vs), neg, D, S⟩) .nil) 200 5 [strV L, decA neg D 3] (hM m (orcP 745))) = some (.bool true, [], allB (fun b => b) (obP 3 ⟨3, 3, L, Lg, Sc, Re, T, (some vs), neg, D, S⟩)) := by kernel_rfl
theorem runP341 (L Lg Sc Re T D S : List UInt8) (vs : List (List UInt8)) (neg : Bool) (m : Int) : lookB (acall (envS (plugP ⟨3, 4, L, Lg, Sc, Re, T, (some vs), neg, D, S⟩) .nil) 200 5 [strV L, decA neg D 3] (hM m (orcP 767))) = some (.bool true, [], allB (fun b => b) (obP 4 ⟨3, 4, L, Lg, Sc, Re, T, (some vs), neg, D, S⟩)) := by kernel_rfl
theorem runP351 (L Lg Sc Re T D S : List UInt8) (vs : List (List UInt8)) (neg : Bool) (m : Int) : lookB (acall (envS (plugP ⟨3, 5, L, Lg, Sc, Re, T, (some vs), neg, D, S⟩) .nil) 200 5 [strV L, decA neg D 3] (hM m (orcP 789))) = some (.bool true, [], allB (fun b => b) (obP 5 ⟨3, 5, L, Lg, Sc, Re, T, (some vs), neg, D, S⟩)) := by kernel_rfl
end Go.Proofs.YtkmbkejmfffafaaGreatDoor.Refl
