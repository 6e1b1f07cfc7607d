/- Texts joined by this session's own program, part 11. -/
import Derived.Test.YtkmbkejmfffafaaGreatDoorQ10
set_option linter.unusedSectionVars false
set_option linter.unusedVariables false
set_option linter.unusedSimpArgs false
namespace Go.Proofs.YtkmbkejmfffafaaGreatDoor.Refl
open Go Go.RowKit
set_option linter.unusedVariables false
set_option linter.unusedSimpArgs false
set_option maxRecDepth 1000000
set_option maxHeartbeats 4000000
structure OF (D W P N Q : List UInt8) (sc a b : Nat) : Prop where
  l0 : sc < D.length
  l1 : D.length ≤ 1000
  hW : W = D.take (D.length - sc)
  hP : P = D.drop (D.length - sc)
  p84 : Pure false 84 [strV W, strV [48]] (strV N)
  p85 : Pure false 85 [strV P, strV [48]] (strV Q)
  p1 : Pure false 121 [numA N sc (bytesEq Q []), intV 1] (intV a)
  p2 : Pure false 121 [numA N sc (bytesEq Q []), intV 2] (intV b)
noncomputable def eL (W P N Q : List UInt8) (i j : Nat) (t84 t121 : List (Nat × (List Value × Value))) : Env := envS [(50, xClosed 200 50), (84, xTold false 84 ((Nat.succ i, ([strV W, strV [48]], strV N)) :: t84)), (85, xTold false 85 [(Nat.succ j, ([strV P, strV [48]], strV Q))]), (121, xTold false 121 t121)] ((Tr.nil.set i W).set j P)
section
variable (g D W P N Q : List UInt8) (neg : Bool) (sc a b : Nat)
end
section
variable {g D W P N Q : List UInt8} {neg : Bool} {sc a b : Nat}
end
end Go.Proofs.YtkmbkejmfffafaaGreatDoor.Refl
