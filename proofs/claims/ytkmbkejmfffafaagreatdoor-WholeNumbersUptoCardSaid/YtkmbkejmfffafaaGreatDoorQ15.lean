/- Texts joined by this session's own program, part 15. -/
import Derived.Test.YtkmbkejmfffafaaGreatDoorQ14
set_option linter.unusedSectionVars false
set_option linter.unusedVariables false
set_option linter.unusedSimpArgs false
namespace Go.Proofs.YtkmbkejmfffafaaGreatDoor.Refl
open Go Go.RowKit
set_option linter.unusedVariables false
set_option linter.unusedSimpArgs false
set_option maxRecDepth 1000000
noncomputable def srcNA : List UInt8 := [97, 32, 61, 32, 91, 123, 32, 78, 85, 77, 66, 69, 82, 40, 36, 110, 44, 32, 109, 105, 110, 105, 109, 117, 109, 70, 114, 97, 99, 116, 105, 111, 110, 68, 105, 103, 105, 116, 115, 58, 32]
noncomputable def srcNB : List UInt8 := [44, 32, 109, 97, 120, 105, 109, 117, 109, 70, 114, 97, 99, 116, 105, 111, 110, 68, 105, 103, 105, 116, 115, 58, 32]
noncomputable def srcNC : List UInt8 := [44, 32, 117, 115, 101, 71, 114, 111, 117, 112, 105, 110, 103, 58, 32, 34, 102, 97, 108, 115, 101, 34, 41, 32, 125, 93]
noncomputable def srcN (D E : List UInt8) : List UInt8 := app srcNA (app D (app srcNB (app E srcNC)))
noncomputable def argAt (D E : List UInt8) (i : Nat) : List Value := [.agg ⟨[strV (srcN D E)]⟩, intV i, intV 1]
noncomputable def argIs (n : List UInt8) (k : Nat) (t x : List UInt8) (i : Nat) : Value := .tuple ⟨[.agg ⟨[strV n, intV k, strV t, strV x, strV [], .slice none 0 0, .pointer none, .slice none 0 0]⟩, intV i, .bool true]⟩
noncomputable def argR1 : Value := argIs [] 2 [] [110] 16
noncomputable def argR2 (D : List UInt8) : Value := argIs nmMin 1 D [] (Nat.add 41 (len D))
noncomputable def argR3 (D E : List UInt8) : Value := argIs nmMax 1 E [] (Nat.add (Nat.add 66 (len D)) (len E))
noncomputable def argR4 (D E : List UInt8) : Value := argIs nmGrp 0 txFalse [] (Nat.add (Nat.add 88 (len D)) (len E))
theorem flat_argAt (D E : List UInt8) (i : Nat) : ∀ v ∈ argAt D E i, flat 5 v = true := fun v hv => by
  simp only [argAt, List.mem_cons, List.not_mem_nil, or_false] at hv
  rcases hv with rfl | rfl | rfl <;> rfl
theorem runArg2_1 (a : UInt8) : allB (fun l => ranTo 319 (argAt (itoaF l) [a] 18) (argR2 (itoaF l))) (upTo 21 []) = true := by kernel_rfl
theorem runArg3_1 (a : UInt8) : allB (fun m => ranTo 319 (argAt [a] (itoaF m) 44) (argR3 [a] (itoaF m))) (upTo 21 []) = true := by kernel_rfl
theorem runArg2_2 (a b : UInt8) : allB (fun l => ranTo 319 (argAt (itoaF l) [a, b] 18) (argR2 (itoaF l))) (upTo 21 []) = true := by kernel_rfl
theorem runArg3_2 (a b : UInt8) : allB (fun m => ranTo 319 (argAt [a, b] (itoaF m) 45) (argR3 [a, b] (itoaF m))) (upTo 21 []) = true := by kernel_rfl
theorem runArg1_11 (a : UInt8) (c : UInt8) : ranTo 319 (argAt [a] [c] 14) argR1 = true := by kernel_rfl
theorem runArg4_11 (a : UInt8) (c : UInt8) : ranTo 319 (argAt [a] [c] 70) (argR4 [a] [c]) = true := by kernel_rfl
theorem runArg1_12 (a : UInt8) (c d : UInt8) : ranTo 319 (argAt [a] [c, d] 14) argR1 = true := by kernel_rfl
theorem runArg4_12 (a : UInt8) (c d : UInt8) : ranTo 319 (argAt [a] [c, d] 71) (argR4 [a] [c, d]) = true := by kernel_rfl
theorem runArg1_21 (a b : UInt8) (c : UInt8) : ranTo 319 (argAt [a, b] [c] 14) argR1 = true := by kernel_rfl
theorem runArg4_21 (a b : UInt8) (c : UInt8) : ranTo 319 (argAt [a, b] [c] 71) (argR4 [a, b] [c]) = true := by kernel_rfl
theorem runArg1_22 (a b : UInt8) (c d : UInt8) : ranTo 319 (argAt [a, b] [c, d] 14) argR1 = true := by kernel_rfl
theorem runArg4_22 (a b : UInt8) (c d : UInt8) : ranTo 319 (argAt [a, b] [c, d] 72) (argR4 [a, b] [c, d]) = true := by kernel_rfl
end Go.Proofs.YtkmbkejmfffafaaGreatDoor.Refl
