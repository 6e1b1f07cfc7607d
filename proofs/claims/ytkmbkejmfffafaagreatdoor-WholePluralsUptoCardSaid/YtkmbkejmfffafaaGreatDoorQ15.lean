/- Texts joined by this session's own program, part 15. -/
import Derived.Test.YtkmbkejmfffafaaGreatDoorQ12
set_option linter.unusedSectionVars false
set_option linter.unusedVariables false
set_option linter.unusedSimpArgs false
namespace Go.Proofs.YtkmbkejmfffafaaGreatDoor.Refl
open Go Go.RowKit
set_option linter.unusedVariables false
set_option linter.unusedSimpArgs false
set_option maxRecDepth 1000000
theorem runP200 (L Lg Sc Re T D S : List UInt8) (neg : Bool) (m : Int) : lookB (acall (envS (plugP ⟨2, 0, L, Lg, Sc, Re, T, none, neg, D, S⟩) .nil) 200 5 [strV L, decA neg D 2] (hM m (orcP 811))) = some (.bool true, [], allB (fun b => b) (obP 6 ⟨2, 0, L, Lg, Sc, Re, T, none, neg, D, S⟩)) := by kernel_rfl
theorem runP210 (L Lg Sc Re T D S : List UInt8) (neg : Bool) (m : Int) : lookB (acall (envS (plugP ⟨2, 1, L, Lg, Sc, Re, T, none, neg, D, S⟩) .nil) 200 5 [strV L, decA neg D 2] (hM m (orcP 701))) = some (.bool true, [], allB (fun b => b) (obP 1 ⟨2, 1, L, Lg, Sc, Re, T, none, neg, D, S⟩)) := by kernel_rfl
theorem runP220 (L Lg Sc Re T D S : List UInt8) (neg : Bool) (m : Int) : lookB (acall (envS (plugP ⟨2, 2, L, Lg, Sc, Re, T, none, neg, D, S⟩) .nil) 200 5 [strV L, decA neg D 2] (hM m (orcP 723))) = some (.bool true, [], allB (fun b => b) (obP 2 ⟨2, 2, L, Lg, Sc, Re, T, none, neg, D, S⟩)) := by kernel_rfl
theorem runP230 (L Lg Sc Re T D S : List UInt8) (neg : Bool) (m : Int) : lookB (acall (envS (plugP ⟨2, 3, L, Lg, Sc, Re, T, none, neg, D, S⟩) .nil) 200 5 [strV L, decA neg D 2] (hM m (orcP 745))) = some (.bool true, [], allB (fun b => b) (obP 3 ⟨2, 3, L, Lg, Sc, Re, T, none, neg, D, S⟩)) := by kernel_rfl
theorem runP240 (L Lg Sc Re T D S : List UInt8) (neg : Bool) (m : Int) : lookB (acall (envS (plugP ⟨2, 4, L, Lg, Sc, Re, T, none, neg, D, S⟩) .nil) 200 5 [strV L, decA neg D 2] (hM m (orcP 767))) = some (.bool true, [], allB (fun b => b) (obP 4 ⟨2, 4, L, Lg, Sc, Re, T, none, neg, D, S⟩)) := by kernel_rfl
theorem runP250 (L Lg Sc Re T D S : List UInt8) (neg : Bool) (m : Int) : lookB (acall (envS (plugP ⟨2, 5, L, Lg, Sc, Re, T, none, neg, D, S⟩) .nil) 200 5 [strV L, decA neg D 2] (hM m (orcP 789))) = some (.bool true, [], allB (fun b => b) (obP 5 ⟨2, 5, L, Lg, Sc, Re, T, none, neg, D, S⟩)) := by kernel_rfl
theorem runP201 (L Lg Sc Re T D S : List UInt8) (vs : List (List UInt8)) (neg : Bool) (m : Int) : lookB (acall (envS (plugP ⟨2, 0, L, Lg, Sc, Re, T, (some vs), neg, D, S⟩) .nil) 200 5 [strV L, decA neg D 2] (hM m (orcP 811))) = some (.bool true, [], allB (fun b => b) (obP 6 ⟨2, 0, L, Lg, Sc, Re, T, (some vs), neg, D, S⟩)) := by kernel_rfl
theorem runP211 (L Lg Sc Re T D S : List UInt8) (vs : List (List UInt8)) (neg : Bool) (m : Int) : lookB (acall (envS (plugP ⟨2, 1, L, Lg, Sc, Re, T, (some vs), neg, D, S⟩) .nil) 200 5 [strV L, decA neg D 2] (hM m (orcP 701))) = some (.bool true, [], allB (fun b => b) (obP 1 ⟨2, 1, L, Lg, Sc, Re, T, (some vs), neg, D, S⟩)) := by kernel_rfl
theorem runP221 (L Lg Sc Re T D S : List UInt8) (vs : List (List UInt8)) (neg : Bool) (m : Int) : lookB (acall (envS (plugP ⟨2, 2, L, Lg, Sc, Re, T, (some vs), neg, D, S⟩) .nil) 200 5 [strV L, decA neg D 2] (hM m (orcP 723))) = some (.bool true, [], allB (fun b => b) (obP 2 ⟨2, 2, L, Lg, Sc, Re, T, (some vs), neg, D, S⟩)) := by kernel_rfl
theorem runP231 (L Lg Sc Re T D S : List UInt8) (vs : List (List UInt8)) (neg : Bool) (m : Int) : lookB (acall (envS (plugP ⟨2, 3, L, Lg, Sc, Re, T, (some vs), neg, D, S⟩) .nil) 200 5 [strV L, decA neg D 2] (hM m (orcP 745))) = some (.bool true, [], allB (fun b => b) (obP 3 ⟨2, 3, L, Lg, Sc, Re, T, (some vs), neg, D, S⟩)) := by kernel_rfl
theorem runP241 (L Lg Sc Re T D S : List UInt8) (vs : List (List UInt8)) (neg : Bool) (m : Int) : lookB (acall (envS (plugP ⟨2, 4, L, Lg, Sc, Re, T, (some vs), neg, D, S⟩) .nil) 200 5 [strV L, decA neg D 2] (hM m (orcP 767))) = some (.bool true, [], allB (fun b => b) (obP 4 ⟨2, 4, L, Lg, Sc, Re, T, (some vs), neg, D, S⟩)) := by kernel_rfl
theorem runP251 (L Lg Sc Re T D S : List UInt8) (vs : List (List UInt8)) (neg : Bool) (m : Int) : lookB (acall (envS (plugP ⟨2, 5, L, Lg, Sc, Re, T, (some vs), neg, D, S⟩) .nil) 200 5 [strV L, decA neg D 2] (hM m (orcP 789))) = some (.bool true, [], allB (fun b => b) (obP 5 ⟨2, 5, L, Lg, Sc, Re, T, (some vs), neg, D, S⟩)) := by kernel_rfl
end Go.Proofs.YtkmbkejmfffafaaGreatDoor.Refl
