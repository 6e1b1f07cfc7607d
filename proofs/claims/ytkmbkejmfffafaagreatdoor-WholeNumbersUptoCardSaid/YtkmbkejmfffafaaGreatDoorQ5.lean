/- Texts joined by this session's own program, part 5. -/
import Derived.Test.YtkmbkejmfffafaaGreatDoorQ4
import Derived.KernelRfl
set_option linter.unusedSectionVars false
set_option linter.unusedVariables false
set_option linter.unusedSimpArgs false
namespace Go.Proofs.YtkmbkejmfffafaaGreatDoor.Refl
open Go Go.RowKit
set_option linter.unusedVariables false
set_option linter.unusedSimpArgs false
set_option maxRecDepth 100000
noncomputable def itoaGood (n : Nat) : Bool := match acall (envT []) 60 18 [intV n] hP with
  | some q => match q with
    | (v, h) => match asStr v with
      | some l => match bytesEq l (itoaF n) with
        | true => clean h
        | false => false
      | none => false
  | none => false
theorem itoa0 : allB (fun i => itoaGood (Nat.add 0 i)) (upTo 100 []) = true := by kernel_rfl
theorem itoa1 : allB (fun i => itoaGood (Nat.add 100 i)) (upTo 100 []) = true := by kernel_rfl
theorem itoa2 : allB (fun i => itoaGood (Nat.add 200 i)) (upTo 100 []) = true := by kernel_rfl
theorem itoa3 : allB (fun i => itoaGood (Nat.add 300 i)) (upTo 100 []) = true := by kernel_rfl
theorem itoaAll {n : Nat} (h : n < 400) : itoaGood n = true := by
  have go : ∀ a, allB (fun i => itoaGood (Nat.add a i)) (upTo 100 []) = true → a ≤ n → n < a + 100 → itoaGood n = true := fun a k h1 h2 => by
    have := (allB_eq _ _).1 k (n - a) ((upTo_mem 100 [] _).2 (.inl (by omega)))
    have e : Nat.add a (n - a) = n := by show a + (n - a) = n; omega
    rw [e] at this; exact this
  by_cases h0 : n < 100
  · exact go 0 itoa0 (by omega) (by omega)
  by_cases h1 : n < 200
  · exact go 100 itoa1 (by omega) (by omega)
  by_cases h2 : n < 300
  · exact go 200 itoa2 (by omega) (by omega)
  by_cases h3 : n < 400
  · exact go 300 itoa3 (by omega) (by omega)
  · omega
noncomputable def atoiGood (n : Nat) : Bool := match acall (envT []) 60 181 [strV (itoaF n)] hP with
  | some q => match q with
    | (v, h) => match asTup v with
      | some l => match l with
        | [a, b] => match asInt a with
          | some i => match kEq .i64 i.k with
            | true => match iEq i.n (Int.ofNat n) with
              | true => match isNilI b with
                | true => clean h
                | false => false
              | false => false
            | false => false
          | none => false
        | _ => false
      | none => false
  | none => false
theorem atoi0 : allB (fun i => atoiGood (Nat.add 0 i)) (upTo 100 []) = true := by kernel_rfl
theorem atoi1 : allB (fun i => atoiGood (Nat.add 100 i)) (upTo 100 []) = true := by kernel_rfl
theorem atoi2 : allB (fun i => atoiGood (Nat.add 200 i)) (upTo 100 []) = true := by kernel_rfl
theorem atoi3 : allB (fun i => atoiGood (Nat.add 300 i)) (upTo 100 []) = true := by kernel_rfl
theorem atoiAll {n : Nat} (h : n < 400) : atoiGood n = true := by
  have go : ∀ a, allB (fun i => atoiGood (Nat.add a i)) (upTo 100 []) = true → a ≤ n → n < a + 100 → atoiGood n = true := fun a k h1 h2 => by
    have := (allB_eq _ _).1 k (n - a) ((upTo_mem 100 [] _).2 (.inl (by omega)))
    have e : Nat.add a (n - a) = n := by show a + (n - a) = n; omega
    rw [e] at this; exact this
  by_cases h0 : n < 100
  · exact go 0 atoi0 (by omega) (by omega)
  by_cases h1 : n < 200
  · exact go 100 atoi1 (by omega) (by omega)
  by_cases h2 : n < 300
  · exact go 200 atoi2 (by omega) (by omega)
  by_cases h3 : n < 400
  · exact go 300 atoi3 (by omega) (by omega)
  · omega
end Go.Proofs.YtkmbkejmfffafaaGreatDoor.Refl
