/- The second reading of the model's code, part 11 of 13. -/
import Derived.Test.YtkmbkejmfffafaaGreatDoorM10
set_option linter.unusedSectionVars false
set_option linter.unusedVariables false
set_option linter.unusedSimpArgs false
/- The second reading: WholeArgs, run by the kernel with whatever texts. -/
namespace Go.Proofs.YtkmbkejmfffafaaGreatDoor.Refl
open Go Go.RowKit
set_option linter.unusedVariables false
set_option linter.unusedSimpArgs false
set_option maxRecDepth 1000000

noncomputable def srcA : List UInt8 := [97, 32, 61, 32, 60, 123, 32, 36, 120, 32, 125, 62]
def bsAA : List Nat := [0, 0, 0, 0, 1, 1]
noncomputable def tabAA (s t : List UInt8) : List (Nat × List UInt8) := []
noncomputable def EAA (s t : List UInt8) : Env := envT [(8, xAlive), (63, xClosed 200 63), (107, xClosed 200 107), (12, xClosed 200 12), (18, xItoa), (143, xRune), (97, yText (tabAA s t))]
def bsAB : List Nat := [0, 1, 1, 1, 0, 1]
noncomputable def tabAB (s t : List UInt8) : List (Nat × List UInt8) := []
noncomputable def EAB (s t : List UInt8) : Env := envT [(8, xAlive), (63, xClosed 200 63), (107, xClosed 200 107), (12, xClosed 200 12), (18, xItoa), (143, xRune), (97, yText (tabAB s t))]
def bsAC : List Nat := [0, 1, 1, 1, 0, 0, 1, 0, 0, 1, 1, 1, 1, 0, 1, 1, 1, 0, 0, 0, 0, 1, 0, 0, 1, 1, 0, 0, 0, 1, 0, 0, 1, 1, 1, 1, 1, 1, 1, 1, 1, 1, 0, 1, 1, 1, 1, 1, 1, 1, 1, 1, 1, 1, 0, 1, 1, 1, 1, 1, 1, 0, 1, 1, 0, 0, 0, 0, 1, 0, 1, 1, 0, 0, 1, 0, 0, 0, 1, 0, 0, 0, 1, 0, 0, 0, 0, 1, 1, 1, 1, 0, 1, 1, 1, 1, 1, 1, 1, 1, 1, 1, 0, 1, 1, 0, 1, 1, 1, 1, 1, 1, 1, 0, 1, 1, 1, 1, 1, 1, 1, 1, 1, 1, 0, 1, 1, 1, 0, 0, 0, 0, 0, 0, 0, 1, 0, 0, 0, 1, 1, 0, 1, 1, 0, 0, 0, 0, 0, 1, 1, 0, 1, 0, 0, 0, 1, 0, 0, 0, 1, 0, 0, 0, 1, 0, 0, 0, 1, 0, 0, 0, 1, 0, 0, 0, 1, 0, 0, 0, 1, 0, 0, 0, 1, 0, 0, 0, 1, 0, 0, 0, 0, 0, 0, 0, 0, 0, 1, 2, 1, 2, 2, 1, 1, 1, 0, 0, 1, 0, 0, 2, 1, 1, 1, 1, 1, 0, 1, 1, 1, 0, 0, 0, 0, 1, 0, 0, 1, 1, 0, 0, 0, 1, 0, 0, 1, 1, 1, 1, 1, 1, 1, 1, 1, 1, 0, 1, 1, 1, 1, 1, 1, 1, 1, 1, 1, 1, 0, 1, 1, 1, 1, 1, 1, 0, 1, 1, 0, 0, 0, 1, 0, 0, 0, 1, 2, 0, 0, 1, 2, 2, 2, 0, 0, 0, 0, 0, 1, 1, 1, 1, 1, 1, 1, 1, 1, 1, 0, 1, 1, 1, 1, 0, 0, 1, 0, 0, 0, 0, 1, 1, 1, 1, 1, 1, 1, 1, 1, 1, 1, 1, 1, 1, 1, 0, 0, 1, 1, 1, 1, 1, 1, 1, 2, 2, 1, 1, 1, 0, 0, 1, 2, 1, 1, 1, 0, 1, 1, 1, 1, 1, 1, 1, 1, 2, 2, 1, 1, 1, 0, 0, 1, 2, 1, 1, 1, 0, 1, 0, 0, 0, 0, 0, 0, 0, 1, 1, 1, 1, 1, 0, 1, 1, 1, 1, 1, 1, 1, 1, 1, 1, 0, 1, 1, 0, 1, 1, 1, 1, 1, 1, 1, 0, 1, 1, 1, 1, 1, 1, 1, 1, 1, 1, 0, 1, 1, 1, 0, 0, 0, 0, 0, 0, 0, 1, 0, 0, 0, 1, 1, 0, 1, 1, 0, 0, 1, 0, 0, 0, 0, 1, 1, 1, 1, 0, 1, 1, 1, 0, 0, 0, 0, 1, 0, 0, 1, 1, 0, 0, 0, 1, 0, 0, 1, 1, 1, 1, 1, 1, 1, 1, 1, 1, 0, 1, 1, 1, 1, 1, 1, 1, 1, 1, 1, 1, 0, 1, 1, 1, 1, 1, 1, 0, 1, 1, 0, 0, 0, 0, 1, 1, 1, 1, 1, 0, 1, 1, 1, 1, 1, 1, 1, 1, 1, 1, 0, 1, 1, 0, 1, 1, 1, 1, 1, 1, 1, 0, 1, 1, 1, 1, 1, 1, 1, 1, 1, 1, 0, 1, 1, 1, 0, 0, 0, 0, 0, 0, 0, 1, 0, 0, 0, 1, 1, 0, 1, 1, 0, 0, 0, 0, 0, 1, 1, 1, 1, 0, 1, 1, 0, 0, 0, 1, 0, 0, 0, 1, 1, 1, 1, 1, 0, 0, 1, 0, 1, 1, 0, 0, 1, 0, 0, 1, 1, 1, 0, 0, 0, 1, 1, 1, 0, 0, 1, 0, 1, 1, 1, 1, 0, 1, 1, 1, 1, 1, 0, 0, 1, 1, 1, 1, 1, 1, 1, 1, 1, 1, 1, 1, 1, 1, 1, 1, 1, 1]
noncomputable def tabAC (s t : List UInt8) : List (Nat × List UInt8) := [(199, [97]), (201, [101, 110]), (202, [48]), (211, srcA), (276, [113]), (280, [97]), (281, []), (282, [50]), (334, [120]), (335, [116]), (342, t), (355, [120]), (356, [116]), (363, [])]
noncomputable def EAC (s t : List UInt8) : Env := envT [(8, xAlive), (63, xClosed 200 63), (107, xClosed 200 107), (12, xClosed 200 12), (18, xItoa), (143, xRune), (97, yText (tabAC s t))]
def bsAD : List Nat := [0, 1, 1, 1, 0, 0, 1, 0, 0, 1, 1, 1, 1, 0, 1, 1, 1, 0, 0, 0, 0, 1, 0, 0, 1, 1, 0, 0, 0, 1, 0, 0, 1, 1, 1, 1, 1, 1, 1, 1, 1, 1, 0, 1, 1, 1, 1, 1, 1, 1, 1, 1, 1, 1, 0, 1, 1, 1, 1, 1, 1, 0, 1, 1, 0, 0, 0, 0, 1, 0, 1, 1, 0, 0, 1, 0, 0, 0, 1, 0, 0, 0, 1, 0, 0, 0, 0, 1, 1, 1, 1, 0, 1, 1, 1, 1, 1, 1, 1, 1, 1, 1, 0, 1, 1, 0, 1, 1, 1, 1, 1, 1, 1, 0, 1, 1, 1, 1, 1, 1, 1, 1, 1, 1, 0, 1, 1, 1, 0, 0, 0, 0, 0, 0, 0, 1, 0, 0, 0, 1, 1, 0, 1, 1, 0, 0, 0, 0, 0, 1, 1, 0, 1, 0, 0, 0, 1, 0, 0, 0, 1, 0, 0, 0, 1, 0, 0, 0, 1, 0, 0, 0, 1, 0, 0, 0, 1, 0, 0, 0, 1, 0, 0, 0, 1, 0, 0, 0, 1, 0, 0, 0, 0, 0, 0, 0, 0, 0, 1, 2, 1, 2, 2, 1, 1, 1, 0, 0, 1, 0, 0, 2, 1, 1, 1, 1, 1, 0, 1, 1, 1, 0, 0, 0, 0, 1, 0, 0, 1, 1, 0, 0, 0, 1, 0, 0, 1, 1, 1, 1, 1, 1, 1, 1, 1, 1, 0, 1, 1, 1, 1, 1, 1, 1, 1, 1, 1, 1, 0, 1, 1, 1, 1, 1, 1, 0, 1, 1, 0, 0, 0, 1, 0, 0, 0, 1, 2, 0, 0, 1, 2, 2, 2, 0, 0, 0, 0, 0, 1, 1, 1, 1, 1, 1, 1, 1, 1, 1, 0, 1, 1, 1, 1, 0, 0, 1, 0, 0, 0, 0, 1, 1, 1, 1, 1, 1, 1, 1, 1, 1, 1, 1, 1, 1, 1, 0, 0, 1, 1, 1, 1, 1, 1, 1, 2, 2, 1, 1, 1, 0, 0, 1, 2, 1, 1, 1, 0, 1, 1, 1, 1, 1, 1, 1, 1, 2, 2, 1, 1, 1, 0, 0, 1, 2, 1, 1, 1, 0, 1, 0, 0, 0, 0, 0, 0, 0, 1, 1, 1, 1, 1, 0, 1, 1, 1, 1, 1, 1, 1, 1, 1, 1, 0, 1, 1, 0, 1, 1, 1, 1, 1, 1, 1, 0, 1, 1, 1, 1, 1, 1, 1, 1, 1, 1, 0, 1, 1, 1, 0, 0, 0, 0, 0, 0, 0, 1, 0, 0, 0, 1, 1, 0, 1, 1, 0, 0, 1, 0, 0, 0, 0, 1, 1, 1, 1, 0, 1, 1, 1, 0, 0, 0, 0, 1, 0, 0, 1, 1, 0, 0, 0, 1, 0, 0, 1, 1, 1, 1, 1, 1, 1, 1, 1, 1, 0, 1, 1, 1, 1, 1, 1, 1, 1, 1, 1, 1, 0, 1, 1, 1, 1, 1, 1, 0, 1, 1, 0, 0, 0, 0, 1, 1, 1, 1, 1, 0, 1, 1, 1, 1, 1, 1, 1, 1, 1, 1, 0, 1, 1, 0, 1, 1, 1, 1, 1, 1, 1, 0, 1, 1, 1, 1, 1, 1, 1, 1, 1, 1, 0, 1, 1, 1, 0, 0, 0, 0, 0, 0, 0, 1, 0, 0, 0, 1, 1, 0, 1, 1, 0, 0, 0, 0, 0, 1, 1, 1, 1, 0, 1, 1, 0, 0, 0, 1, 0, 0, 0, 1, 1, 1, 1, 1, 0, 0, 1, 0, 1, 1, 0, 0, 1, 0, 0, 1, 1, 1, 0, 0, 0, 0, 1, 1, 0, 0, 1, 0, 1, 1, 1, 1, 0, 1, 1, 1, 1, 1, 0, 0, 1, 1, 1, 1, 1, 1, 1, 1, 1, 1, 1, 1, 1, 1, 1, 1, 1, 1]
noncomputable def tabAD (s t : List UInt8) : List (Nat × List UInt8) := [(199, [97]), (201, [101, 110]), (202, [48]), (211, srcA), (276, [113]), (280, [97]), (281, []), (282, [50]), (334, [120]), (335, [116]), (342, t), (355, [120]), (356, [116]), (363, s)]
noncomputable def EAD (s t : List UInt8) : Env := envT [(8, xAlive), (63, xClosed 200 63), (107, xClosed 200 107), (12, xClosed 200 12), (18, xItoa), (143, xRune), (97, yText (tabAD s t))]
noncomputable def pA (s t : List UInt8) : List (List UInt8) := [[97], [101, 110], [48], srcA, [113], [97], [], [50], [120], [116], t, [120], [116], s]
noncomputable def lookA (r : AR) : Option (Value × List Nat × Bool) := match r with
  | some q => match q with
    | (v, h) => some (v, h.log, allB (fun b => b) h.ob)
  | none => none
noncomputable def obAA (s t : List UInt8) : List Bool :=
  [beqB (Nat.beq 1 1) (iLt 300 (Int.ofNat (len s))),
   beqB (Nat.beq 0 1) (beqB (iLt 300 (Int.ofNat (len s))) false),
   beqB (Nat.beq 0 1) (beqB (iLt 300 (Int.ofNat (len s))) false),
   beqB (Nat.beq 0 1) (beqB (iLt 300 (Int.ofNat (len s))) false)]
theorem runAA (s t : List UInt8) : lookA (acall (EAA s t) 200 7 [strV s, strV t] (hSym (bits bsAA 0))) = some (.bool true, [], allB (fun b => b) (obAA s t)) := by kernel_rfl
noncomputable def obAB (s t : List UInt8) : List Bool :=
  [beqB (Nat.beq 1 1) (iLt 300 (Int.ofNat (len t))),
   beqB (Nat.beq 0 1) (iLt 300 (Int.ofNat (len s))),
   beqB (Nat.beq 1 1) (beqB (iLt 300 (Int.ofNat (len s))) false),
   beqB (Nat.beq 1 1) (beqB (iLt 300 (Int.ofNat (len s))) false),
   beqB (Nat.beq 1 1) (beqB (iLt 300 (Int.ofNat (len s))) false)]
theorem runAB (s t : List UInt8) : lookA (acall (EAB s t) 200 7 [strV s, strV t] (hSym (bits bsAB 0))) = some (.bool true, [], allB (fun b => b) (obAB s t)) := by kernel_rfl
noncomputable def obAC (s t : List UInt8) : List Bool :=
  [beqB (Nat.beq 0 1) !iEq (Int.ofNat (nP (pA [] t) 14)) (Int.ofNat (len (sP (pA [] t) 14))),
   beqB (Nat.beq 1 1) (beqB (!iEq (Int.ofNat (nP (pA [] t) 14)) (Int.ofNat (len (sP (pA [] t) 14)))) false),
   beqB (Nat.beq 1 1) (beqB (!iEq (Int.ofNat (nP (pA [] t) 14)) (Int.ofNat (len (sP (pA [] t) 14)))) false),
   beqB (Nat.beq 1 1) (beqB (!iEq (Int.ofNat (nP (pA [] t) 14)) (Int.ofNat (len (sP (pA [] t) 14)))) false),
   beqB (Nat.beq 1 1) (beqB (!iEq (Int.ofNat (nP (pA [] t) 14)) (Int.ofNat (len (sP (pA [] t) 14)))) false),
   beqB (Nat.beq 1 1) (beqB (!iEq (Int.ofNat (nP (pA [] t) 14)) (Int.ofNat (len (sP (pA [] t) 14)))) false),
   beqB (Nat.beq 0 1) (iLt (Int.ofNat (nP (pA [] t) 14)) (Int.ofNat (len (sP (pA [] t) 14)))),
   (len (sP (pA [] t) 14)).ble 1099511627776,
   bytesEq (List.take (len (partF [])) (List.drop (nP (pA [] t) 13) (sP (pA [] t) 14))) (partF []),
   (len (sP (pA [] t) 14)).ble 1099511627776,
   bytesEq (List.take (len (partF [116])) (List.drop (nP (pA [] t) 12) (sP (pA [] t) 14))) (partF [116]),
   (len (sP (pA [] t) 14)).ble 1099511627776,
   bytesEq (List.take (len (partF [120])) (List.drop (nP (pA [] t) 11) (sP (pA [] t) 14))) (partF [120]),
   (len (sP (pA [] t) 14)).ble 1099511627776,
   (len t).blt 400,
   bytesEq (List.take (len (partF t)) (List.drop (nP (pA [] t) 10) (sP (pA [] t) 14))) (partF t),
   (len (sP (pA [] t) 14)).ble 1099511627776,
   (len (sP (pA [] t) 14)).ble 1099511627776,
   (len (sP (pA [] t) 14)).ble 1099511627776,
   (len (sP (pA [] t) 14)).ble 1099511627776,
   (len (sP (pA [] t) 14)).ble 1099511627776,
   (len (sP (pA [] t) 14)).ble 1099511627776,
   (len (sP (pA [] t) 14)).ble 1099511627776,
   (len (sP (pA [] t) 14)).ble 1099511627776,
   (len (sP (pA [] t) 14)).ble 1099511627776,
   (len (sP (pA [] t) 14)).ble 1099511627776,
   (len (sP (pA [] t) 14)).beq (len (sP (pA [] t) 14)),
   beqB (Nat.beq 0 1) (iLt 262144 (Int.ofNat (len (sP (pA [] t) 14)))),
   (len (sP (pA [] t) 14)).beq (nP (pA [] t) 14),
   (nP (pA [] t) 14).ble 1099511627776,
   (len (sP (pA [] t) 13)).beq (nP (pA [] t) 13),
   (nP (pA [] t) 14).ble 4294967296,
   (len (sP (pA [] t) 12)).beq (nP (pA [] t) 12),
   (nP (pA [] t) 13).ble 4294967296,
   (len (sP (pA [] t) 11)).beq (nP (pA [] t) 11),
   (nP (pA [] t) 12).ble 4294967296,
   beqB (Nat.beq 0 1) ((len (partF t)).beq 0),
   (nP (pA [] t) 11).ble 4294967296,
   ((len (app (app (itoaF (len t)) [58]) t)).add (len [44])).ble 1099511627776,
   ((len (app (itoaF (len t)) [58])).add (len t)).ble 1099511627776,
   ((len (itoaF (len t))).add (len [58])).ble 1099511627776,
   (len t).blt 400,
   beqB (Nat.beq 0 1) (iLt 300 (Int.ofNat (len t)))]
theorem runAC (s t : List UInt8) : lookA (acall (EAC [] t) 200 7 [strV [], strV t] (hSym (bits bsAC 0))) = some (.bool true, [], allB (fun b => b) (obAC s t)) := by kernel_rfl
noncomputable def obAD (s t : List UInt8) : List Bool :=
  [beqB (Nat.beq 1 1) (bytesEq (app (app (app [] [60]) s) [62]) (app (app [60] s) [62])),
   beqB (Nat.beq 1 1) (beqB (bytesEq (app (app (app [] [60]) s) [62]) (app (app [60] s) [62])) true),
   beqB (Nat.beq 1 1) (beqB (bytesEq (app (app (app [] [60]) s) [62]) (app (app [60] s) [62])) true),
   beqB (Nat.beq 1 1) (beqB (bytesEq (app (app (app [] [60]) s) [62]) (app (app [60] s) [62])) true),
   beqB (Nat.beq 1 1) (beqB (bytesEq (app (app (app [] [60]) s) [62]) (app (app [60] s) [62])) true),
   beqB (Nat.beq 1 1) (beqB (bytesEq (app (app (app [] [60]) s) [62]) (app (app [60] s) [62])) true),
   ((len (app [60] s)).add (len [62])).ble 1099511627776,
   ((len [60]).add (len s)).ble 1099511627776,
   beqB (Nat.beq 0 1) !iEq (Int.ofNat (nP (pA s t) 14)) (Int.ofNat (len (sP (pA s t) 14))),
   beqB (Nat.beq 1 1) (beqB (!iEq (Int.ofNat (nP (pA s t) 14)) (Int.ofNat (len (sP (pA s t) 14)))) false),
   beqB (Nat.beq 1 1) (beqB (!iEq (Int.ofNat (nP (pA s t) 14)) (Int.ofNat (len (sP (pA s t) 14)))) false),
   beqB (Nat.beq 1 1) (beqB (!iEq (Int.ofNat (nP (pA s t) 14)) (Int.ofNat (len (sP (pA s t) 14)))) false),
   beqB (Nat.beq 1 1) (beqB (!iEq (Int.ofNat (nP (pA s t) 14)) (Int.ofNat (len (sP (pA s t) 14)))) false),
   beqB (Nat.beq 1 1) (beqB (!iEq (Int.ofNat (nP (pA s t) 14)) (Int.ofNat (len (sP (pA s t) 14)))) false),
   (len (app (app (app [] [60]) s) [62])).beq (((Nat.add 0 (len [60])).add (len s)).add (len [62])),
   (len (app (app [] [60]) s)).beq ((Nat.add 0 (len [60])).add (len s)),
   (((Nat.add 0 (len [60])).add (len s)).add (len [62])).ble 4294967296,
   beqB (Nat.beq 0 1) ((len s).beq 0),
   ((Nat.add 0 (len [60])).add (len s)).ble 4294967296,
   beqB (Nat.beq 0 1) (iLt 2500 (Int.ofNat (rcF s))),
   (len s).ble 1099511627776,
   beqB (Nat.beq 0 1) (iLt (Int.ofNat (nP (pA s t) 14)) (Int.ofNat (len (sP (pA s t) 14)))),
   (len (sP (pA s t) 14)).ble 1099511627776,
   (len s).blt 400,
   bytesEq (List.take (len (partF s)) (List.drop (nP (pA s t) 13) (sP (pA s t) 14))) (partF s),
   (len (sP (pA s t) 14)).ble 1099511627776,
   bytesEq (List.take (len (partF [116])) (List.drop (nP (pA s t) 12) (sP (pA s t) 14))) (partF [116]),
   (len (sP (pA s t) 14)).ble 1099511627776,
   bytesEq (List.take (len (partF [120])) (List.drop (nP (pA s t) 11) (sP (pA s t) 14))) (partF [120]),
   (len (sP (pA s t) 14)).ble 1099511627776,
   (len t).blt 400,
   bytesEq (List.take (len (partF t)) (List.drop (nP (pA s t) 10) (sP (pA s t) 14))) (partF t),
   (len (sP (pA s t) 14)).ble 1099511627776,
   (len (sP (pA s t) 14)).ble 1099511627776,
   (len (sP (pA s t) 14)).ble 1099511627776,
   (len (sP (pA s t) 14)).ble 1099511627776,
   (len (sP (pA s t) 14)).ble 1099511627776,
   (len (sP (pA s t) 14)).ble 1099511627776,
   (len (sP (pA s t) 14)).ble 1099511627776,
   (len (sP (pA s t) 14)).ble 1099511627776,
   (len (sP (pA s t) 14)).ble 1099511627776,
   (len (sP (pA s t) 14)).ble 1099511627776,
   (len (sP (pA s t) 14)).beq (len (sP (pA s t) 14)),
   beqB (Nat.beq 0 1) (iLt 262144 (Int.ofNat (len (sP (pA s t) 14)))),
   (len (sP (pA s t) 14)).beq (nP (pA s t) 14),
   (nP (pA s t) 14).ble 1099511627776,
   beqB (Nat.beq 0 1) ((nP (pA s t) 14).beq 0),
   beqB (Nat.beq 0 1) ((nP (pA s t) 14).beq 0),
   (len (sP (pA s t) 13)).beq (nP (pA s t) 13),
   beqB (Nat.beq 0 1) ((len (partF s)).beq 0),
   (nP (pA s t) 14).ble 4294967296,
   ((len (app (app (itoaF (len s)) [58]) s)).add (len [44])).ble 1099511627776,
   ((len (app (itoaF (len s)) [58])).add (len s)).ble 1099511627776,
   ((len (itoaF (len s))).add (len [58])).ble 1099511627776,
   (len s).blt 400,
   (len (sP (pA s t) 12)).beq (nP (pA s t) 12),
   (nP (pA s t) 13).ble 4294967296,
   (len (sP (pA s t) 11)).beq (nP (pA s t) 11),
   (nP (pA s t) 12).ble 4294967296,
   beqB (Nat.beq 0 1) ((len (partF t)).beq 0),
   (nP (pA s t) 11).ble 4294967296,
   ((len (app (app (itoaF (len t)) [58]) t)).add (len [44])).ble 1099511627776,
   ((len (app (itoaF (len t)) [58])).add (len t)).ble 1099511627776,
   ((len (itoaF (len t))).add (len [58])).ble 1099511627776,
   (len t).blt 400,
   beqB (Nat.beq 0 1) (iLt 300 (Int.ofNat (len t))),
   beqB (Nat.beq 0 1) (iLt 300 (Int.ofNat (len s))),
   beqB (Nat.beq 1 1) (beqB (iLt 300 (Int.ofNat (len s))) false),
   beqB (Nat.beq 1 1) (beqB (iLt 300 (Int.ofNat (len s))) false),
   beqB (Nat.beq 1 1) (beqB (iLt 300 (Int.ofNat (len s))) false)]
theorem runAD (s t : List UInt8) : lookA (acall (EAD s t) 200 7 [strV s, strV t] (hSym (bits bsAD 0))) = some (.bool true, [], allB (fun b => b) (obAD s t)) := by kernel_rfl
end Go.Proofs.YtkmbkejmfffafaaGreatDoor.Refl
/- The second reading: WholeArgs is true. -/
namespace Go.Proofs.YtkmbkejmfffafaaGreatDoor.Refl
open Go Go.RowKit
set_option linter.unusedVariables false
set_option linter.unusedSimpArgs false
set_option maxRecDepth 100000

theorem pA_lt {s t : List UInt8} (hs : s.length ≤ 300) (ht : t.length ≤ 300) : ∀ p ∈ pA s t, p.length < 400 := by
  intro p hp
  simp only [pA, List.mem_cons, List.not_mem_nil, or_false] at hp
  rcases hp with rfl | rfl | rfl | rfl | rfl | rfl | rfl | rfl | rfl | rfl | rfl | rfl | rfl | rfl <;> first | omega | (simp [srcA]; done) | (simp [srcA]; omega)
theorem ble_of {a b : Nat} (h : a ≤ b) : Nat.ble a b = true := by rw [ble_eq]; exact decide_eq_true h
theorem blt_of {a b : Nat} (h : a < b) : Nat.blt a b = true := by rw [blt_eq]; exact decide_eq_true h
theorem beq_of {a b : Nat} (h : a = b) : Nat.beq a b = true := by rw [bq]; exact decide_eq_true h
theorem beq_no {a b : Nat} (h : a ≠ b) : Nat.beq a b = false := by rw [bq]; exact decide_eq_false h
theorem iLt_no {a b : Nat} (h : b ≤ a) : iLt (Int.ofNat a) (Int.ofNat b) = false := by rw [iLt_eq]; exact decide_eq_false (by simp; omega)
theorem iLt_of {a b : Nat} (h : a < b) : iLt (Int.ofNat a) (Int.ofNat b) = true := by rw [iLt_eq]; exact decide_eq_true (by simp; omega)
theorem iEq_of {a b : Nat} (h : a = b) : iEq (Int.ofNat a) (Int.ofNat b) = true := by rw [iEq_eq]; exact decide_eq_true (by rw [h])
theorem bytesEq_of {a b : List UInt8} (h : a = b) : bytesEq a b = true := by rw [bytesEq_eq]; exact decide_eq_true h
theorem sP_len (l : List (List UInt8)) (k : Nat) : len (sP l k) = nP l k := by rw [len_eq, nP_eq]
/-- What is owed of a text that is written. -/
structure Part (t : List UInt8) : Prop where
  lt : Nat.blt (len t) 400 = true
  a : Nat.ble (Nat.add (len (itoaF (len t))) (len [58])) 1099511627776 = true
  b : Nat.ble (Nat.add (len (app (itoaF (len t)) [58])) (len t)) 1099511627776 = true
  c : Nat.ble (Nat.add (len (app (app (itoaF (len t)) [58]) t)) (len [44])) 1099511627776 = true
  d : Nat.beq (len (partF t)) 0 = false
  e : Nat.ble (len t) 1099511627776 = true
theorem part_of {t : List UInt8} (h : t.length < 400) : Part t := by
  obtain ⟨h1, h2, _⟩ := itoa_nice h
  have h3 := partF_len h
  refine ⟨?_, ?_, ?_, ?_, ?_, ?_⟩
  · rw [len_eq]; exact blt_of h
  · refine ble_of ?_; simp only [len_eq, Nat.add_eq, List.length_cons, List.length_nil]; omega
  · refine ble_of ?_; simp only [len_eq, app_eq, Nat.add_eq, List.length_append, List.length_cons, List.length_nil]; omega
  · refine ble_of ?_; simp only [len_eq, app_eq, Nat.add_eq, List.length_append, List.length_cons, List.length_nil]; omega
  · rw [len_eq]; exact beq_no (by omega)
  · rw [len_eq]; exact ble_of (by omega)
theorem obAA_all {s t : List UInt8} (hs : 300 < s.length) : ∀ x ∈ obAA s t, x = true := by
  have f : iLt 300 (Int.ofNat (len s)) = true := iLt_of (a := 300) (by rw [len_eq]; exact hs)
  intro x hx
  simp only [obAA, List.mem_cons, List.not_mem_nil, or_false] at hx
  rcases hx with hx | hx | hx | hx <;> subst hx <;> rw [f] <;> rfl
theorem obAB_all {s t : List UInt8} (hs : s.length ≤ 300) (ht : 300 < t.length) : ∀ x ∈ obAB s t, x = true := by
  have f : iLt 300 (Int.ofNat (len s)) = false := iLt_no (a := 300) (by rw [len_eq]; exact hs)
  have g : iLt 300 (Int.ofNat (len t)) = true := iLt_of (a := 300) (by rw [len_eq]; exact ht)
  intro x hx
  simp only [obAB, List.mem_cons, List.not_mem_nil, or_false] at hx
  rcases hx with hx | hx | hx | hx | hx <;> subst hx <;> first | (rw [f]; rfl) | (rw [g]; rfl)
/-- What is owed of the script as a whole. -/
structure Whole (s t : List UInt8) : Prop where
  n11 : Nat.ble (nP (pA s t) 11) 4294967296 = true
  n12 : Nat.ble (nP (pA s t) 12) 4294967296 = true
  n13 : Nat.ble (nP (pA s t) 13) 4294967296 = true
  n14 : Nat.ble (nP (pA s t) 14) 4294967296 = true
  m14 : Nat.ble (nP (pA s t) 14) 1099511627776 = true
  e11 : Nat.beq (len (sP (pA s t) 11)) (nP (pA s t) 11) = true
  e12 : Nat.beq (len (sP (pA s t) 12)) (nP (pA s t) 12) = true
  e13 : Nat.beq (len (sP (pA s t) 13)) (nP (pA s t) 13) = true
  e14 : Nat.beq (len (sP (pA s t) 14)) (nP (pA s t) 14) = true
  ee : Nat.beq (len (sP (pA s t) 14)) (len (sP (pA s t) 14)) = true
  z : Nat.beq (nP (pA s t) 14) 0 = false
  k : iLt 262144 (Int.ofNat (len (sP (pA s t) 14))) = false
  l : Nat.ble (len (sP (pA s t) 14)) 1099511627776 = true
  p10 : bytesEq (List.take (len (partF t)) (List.drop (nP (pA s t) 10) (sP (pA s t) 14))) (partF t) = true
  p11 : bytesEq (List.take (len (partF [120])) (List.drop (nP (pA s t) 11) (sP (pA s t) 14))) (partF [120]) = true
  p12 : bytesEq (List.take (len (partF [116])) (List.drop (nP (pA s t) 12) (sP (pA s t) 14))) (partF [116]) = true
  p13 : bytesEq (List.take (len (partF s)) (List.drop (nP (pA s t) 13) (sP (pA s t) 14))) (partF s) = true
  lt : iLt (Int.ofNat (nP (pA s t) 14)) (Int.ofNat (len (sP (pA s t) 14))) = false
  eq : iEq (Int.ofNat (nP (pA s t) 14)) (Int.ofNat (len (sP (pA s t) 14))) = true
theorem whole_of {s t : List UInt8} (hs : s.length ≤ 300) (ht : t.length ≤ 300) : Whole s t := by
  have hl := pA_lt hs ht
  have h14 : (pA s t).length = 14 := rfl
  have hn : ∀ k, nP (pA s t) k ≤ 5656 := fun k => by have := nP_le hl k; rw [h14] at this; omega
  have n11 := hn 11; have n12 := hn 12; have n13 := hn 13; have n14 := hn 14
  exact {
    n11 := ble_of (by omega), n12 := ble_of (by omega), n13 := ble_of (by omega), n14 := ble_of (by omega), m14 := ble_of (by omega)
    e11 := beq_of (sP_len _ _), e12 := beq_of (sP_len _ _), e13 := beq_of (sP_len _ _), e14 := beq_of (sP_len _ _), ee := beq_of rfl
    z := beq_no (by have := nP_pos hl (k := 14) (by omega) (by simp [pA]); omega)
    k := iLt_no (a := 262144) (by rw [sP_len]; omega)
    l := ble_of (by rw [sP_len]; omega)
    p10 := bytesEq_of (part_at rfl (by rw [h14]; exact Nat.le_refl _))
    p11 := bytesEq_of (part_at rfl (by rw [h14]; exact Nat.le_refl _))
    p12 := bytesEq_of (part_at rfl (by rw [h14]; exact Nat.le_refl _))
    p13 := bytesEq_of (part_at rfl (by rw [h14]; exact Nat.le_refl _))
    lt := iLt_no (by rw [sP_len]; exact Nat.le_refl _)
    eq := iEq_of (sP_len _ _).symm }
theorem obAC_all {t : List UInt8} (ht : t.length ≤ 300) : ∀ x ∈ obAC [] t, x = true := by
  have g : iLt 300 (Int.ofNat (len t)) = false := iLt_no (a := 300) (by rw [len_eq]; exact ht)
  have P := part_of (t := t) (by omega)
  obtain ⟨t1, t2, t3, t4, t5, t6⟩ := P
  obtain ⟨n11, n12, n13, n14, m14, e11, e12, e13, e14, ee, z, k, l, p10, p11, p12, p13, lt, eq⟩ := whole_of (s := []) (t := t) (by simp) ht
  intro x hx
  simp only [obAC, List.mem_cons, List.not_mem_nil, or_false] at hx
  rcases hx with hx | hx | hx | hx | hx | hx | hx | hx | hx | hx | hx | hx | hx | hx | hx | hx | hx | hx | hx | hx | hx | hx | hx | hx | hx | hx | hx | hx | hx | hx | hx | hx | hx | hx | hx | hx | hx | hx | hx | hx | hx | hx | hx
  all_goals (subst hx; first | with_reducible assumption | (rw [g]; rfl) | (rw [t5]; rfl) | (rw [z]; rfl) | (rw [k]; rfl) | (rw [lt]; rfl) | (rw [eq]; rfl))
theorem obAD_all {s t : List UInt8} (hs : s.length ≤ 300) (ht : t.length ≤ 300) (h0 : s ≠ []) : ∀ x ∈ obAD s t, x = true := by
  have f : iLt 300 (Int.ofNat (len s)) = false := iLt_no (a := 300) (by rw [len_eq]; exact hs)
  have g : iLt 300 (Int.ofNat (len t)) = false := iLt_no (a := 300) (by rw [len_eq]; exact ht)
  obtain ⟨t1, t2, t3, t4, t5, t6⟩ := part_of (t := t) (by omega)
  obtain ⟨s1, s2, s3, s4, s5, s6⟩ := part_of (t := s) (by omega)
  obtain ⟨n11, n12, n13, n14, m14, e11, e12, e13, e14, ee, z, k, l, p10, p11, p12, p13, lt, eq⟩ := whole_of (s := s) (t := t) hs ht
  have hrc : rcF s ≤ 300 := Nat.le_trans (Lib.runeCount_le ⟨⟨s⟩⟩) hs
  have r1 : iLt 2500 (Int.ofNat (rcF s)) = false := iLt_no (a := 2500) (by omega)
  have q0 : Nat.beq (len s) 0 = false := by rw [len_eq]; exact beq_no (by intro e; exact h0 (List.eq_nil_of_length_eq_zero e))
  have u1 : Nat.ble (Nat.add (Nat.add 0 (len [60])) (len s)) 4294967296 = true := ble_of (by simp only [len_eq, Nat.add_eq, List.length_cons, List.length_nil]; omega)
  have u2 : Nat.ble (Nat.add (Nat.add (Nat.add 0 (len [60])) (len s)) (len [62])) 4294967296 = true := ble_of (by simp only [len_eq, Nat.add_eq, List.length_cons, List.length_nil]; omega)
  have u3 : Nat.beq (len (app (app [] [60]) s)) (Nat.add (Nat.add 0 (len [60])) (len s)) = true := beq_of (by simp only [len_eq, app_eq, Nat.add_eq, List.length_append, List.length_cons, List.length_nil])
  have u4 : Nat.beq (len (app (app (app [] [60]) s) [62])) (Nat.add (Nat.add (Nat.add 0 (len [60])) (len s)) (len [62])) = true := beq_of (by simp only [len_eq, app_eq, Nat.add_eq, List.length_append, List.length_cons, List.length_nil])
  have u5 : Nat.ble (Nat.add (len [60]) (len s)) 1099511627776 = true := ble_of (by simp only [len_eq, Nat.add_eq, List.length_cons, List.length_nil]; omega)
  have u6 : Nat.ble (Nat.add (len (app [60] s)) (len [62])) 1099511627776 = true := ble_of (by simp only [len_eq, app_eq, Nat.add_eq, List.length_append, List.length_cons, List.length_nil]; omega)
  have u7 : bytesEq (app (app (app [] [60]) s) [62]) (app (app [60] s) [62]) = true := bytesEq_of rfl
  intro x hx
  simp only [obAD, List.mem_cons, List.not_mem_nil, or_false] at hx
  rcases hx with hx | hx | hx | hx | hx | hx | hx | hx | hx | hx | hx | hx | hx | hx | hx | hx | hx | hx | hx | hx | hx | hx | hx | hx | hx | hx | hx | hx | hx | hx | hx | hx | hx | hx | hx | hx | hx | hx | hx | hx | hx | hx | hx | hx | hx | hx | hx | hx | hx | hx | hx | hx | hx | hx | hx | hx | hx | hx | hx | hx | hx | hx | hx | hx | hx | hx | hx | hx | hx | hx
  all_goals (subst hx; first | with_reducible assumption | (rw [f]; rfl) | (rw [g]; rfl) | (rw [t5]; rfl) | (rw [s5]; rfl) | (rw [z]; rfl) | (rw [k]; rfl) | (rw [lt]; rfl) | (rw [eq]; rfl) | (rw [r1]; rfl) | (rw [q0]; rfl) | (rw [u7]; rfl))
theorem lookA_some {r : AR} {q : Value × List Nat × Bool} (h : lookA r = some q) (hq : q.2.2 = true) : ∃ h1, r = some (q.1, h1) ∧ h1.log = q.2.1 ∧ OB h1 := by
  unfold lookA at h
  cases r with
  | none => simp at h
  | some p =>
    obtain ⟨v, h1⟩ := p
    simp at h
    subst h
    exact ⟨h1, rfl, rfl, (allB_eq _ _).1 hq⟩
theorem envA_ok (tab : List (Nat × List UInt8)) : ∀ x ∈ [(8, xAlive), (63, xClosed 200 63), (107, xClosed 200 107), (12, xClosed 200 12), (18, xItoa), (143, xRune), (97, yText tab)], ExtOK Tryz.prog 12 x.1 x.2 := by
  intro x hx
  simp only [List.mem_cons, List.not_mem_nil, or_false] at hx
  rcases hx with rfl | rfl | rfl | rfl | rfl | rfl | rfl
  · exact xAlive_ok
  · exact xClosed_ok _ _
  · exact xClosed_ok _ _
  · exact xClosed_ok _ _
  · exact xItoa_ok
  · exact xRune_ok
  · exact yText_ok _
/-- WholeArgs comes to true, whatever the texts. -/
theorem args_run (s t : List UInt8) : ∃ plug orc h1, (∀ x ∈ plug, ExtOK Tryz.prog 12 x.1 x.2) ∧ acall (envT plug) 200 7 [strV s, strV t] (hSym orc) = some (.bool true, h1) ∧ OB h1 ∧ h1.log = [] := by
  by_cases hs : s.length ≤ 300
  · by_cases ht : t.length ≤ 300
    · by_cases h0 : s = []
      · subst h0
        obtain ⟨h1, k1, k2, k3⟩ := lookA_some (runAC [] t) ((allB_eq _ _).2 (obAC_all ht))
        exact ⟨_, _, h1, envA_ok _, k1, k3, k2⟩
      · obtain ⟨h1, k1, k2, k3⟩ := lookA_some (runAD s t) ((allB_eq _ _).2 (obAD_all hs ht h0))
        exact ⟨_, _, h1, envA_ok _, k1, k3, k2⟩
    · obtain ⟨h1, k1, k2, k3⟩ := lookA_some (runAB s t) ((allB_eq _ _).2 (obAB_all hs (by omega)))
      exact ⟨_, _, h1, envA_ok _, k1, k3, k2⟩
  · obtain ⟨h1, k1, k2, k3⟩ := lookA_some (runAA s t) ((allB_eq _ _).2 (obAA_all (t := t) (by omega)))
    exact ⟨_, _, h1, envA_ok _, k1, k3, k2⟩
end Go.Proofs.YtkmbkejmfffafaaGreatDoor.Refl
