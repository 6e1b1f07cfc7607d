/- Facts of the row of 'WholeNumbers' (second form) that its proof asks, each by the kernel by itself. -/
import Derived.Test.YtkmbkejmfffafaaGreatDoorRows
import Derived.WalkKit
import Derived.ProofKit
import Derived.Stop.Joined
set_option linter.unusedSectionVars false
set_option linter.unusedVariables false
set_option linter.unusedSimpArgs false
namespace Go.Proofs.YtkmbkejmfffafaaGreatDoor.wholeNumbers
set_option maxRecDepth 100000
theorem and2 {a b : Bool} (h : a = true) (k : b = true) : (a && b) = true := by rw [h, k]; rfl
theorem c0 : (Rows.wholeNumbersUptoRow.wf (OpenSpec.ofChange Rows.wholeNumbersSpec)) = true := by kernel_rfl
theorem c1 : (laidOutB Tryz.prog) = true := by kernel_rfl
theorem c2 : (mapsRowed Tryz.prog) = true := by kernel_rfl
theorem c3 : (Tryz.f6.params.all (Tryz.prog.readableRec ·)) = true := by kernel_rfl
theorem c4 : (namedTie Tryz.prog Rows.wholeNumbersUptoRow.named Rows.wholeNumbersSpec.vars) = true := by kernel_rfl
theorem c5 : (Rows.wholeNumbersUptoRow.stops == []) = true := by kernel_rfl
theorem c6 : (Tryz.prog.stops == []) = true := by kernel_rfl
theorem c7 : (Rows.wholeNumbersUptoRow.knobs == []) = true := by kernel_rfl
theorem c8 : (Tryz.prog.stopKnobs == []) = true := by kernel_rfl
theorem c9 : (Rows.wholeNumbersUptoRow.inPlace == Tryz.prog.inPlace 6) = true := by kernel_rfl
theorem c10 : (Rows.wholeNumbersUptoRow.unfollowed == Tryz.prog.unfollowed 6) = true := by kernel_rfl
theorem c11 : (Rows.wholeNumbersUptoRow.recurses == Tryz.prog.recurses 6) = true := by kernel_rfl
theorem c12 : (Rows.wholeNumbersUptoRow.named == Tryz.prog.varsNamed 6) = true := by kernel_rfl
theorem c13 : (Rows.wholeNumbersUptoRow.maps == (Tryz.f6.params.toList ++ Rows.wholeNumbersSpec.plain.varTypes Tryz.prog).any (Tryz.prog.mapsRec ·)) = true := by kernel_rfl
theorem c14 : (Rows.wholeNumbersUptoRow.ifaces == (Tryz.f6.params.toList ++ Rows.wholeNumbersSpec.plain.varTypes Tryz.prog).any (Tryz.prog.ifacesRec ·)) = true := by kernel_rfl
theorem c15 : (Rows.wholeNumbersUptoRow.mapsOut == Tryz.prog.mapsAmong Tryz.f6.resultTypes.toList) = true := by kernel_rfl
theorem c16 : (Rows.wholeNumbersUptoRow.loops == (Tryz.f6.params.toList ++ Rows.wholeNumbersSpec.plain.varTypes Tryz.prog).any (Tryz.prog.loopsFrom ·)) = true := by kernel_rfl
theorem c17 : (Rows.wholeNumbersUptoRow.wideKeys == (Tryz.f6.params.toList ++ Rows.wholeNumbersSpec.plain.varTypes Tryz.prog ++ Tryz.f6.resultTypes.toList).any (Tryz.prog.wideKeysFrom ·)) = true := by kernel_rfl
theorem c18 : (Rows.wholeNumbersSpec.vars.all (Tryz.prog.varReadable ·)) = true := by kernel_rfl
theorem c19 : (Tryz.f6.resultTypes.all (fun t => Tryz.prog.readableRec t && decide (t < Tryz.prog.types.size))) = true := by kernel_rfl
theorem c20 : (Rows.wholeNumbersUptoRow.ifacesOut == Tryz.f6.resultTypes.toList.any (Tryz.prog.ifacesRec ·)) = true := by kernel_rfl
theorem c21 : (Rows.wholeNumbersUptoRow.loopsOut == Tryz.f6.resultTypes.toList.any (Tryz.prog.loopsFrom ·)) = true := by kernel_rfl
theorem c22 : (Rows.wholeNumbersUptoRow.plainKeys == Tryz.prog.plainKeys) = true := by kernel_rfl
theorem c23 : (Rows.wholeNumbersUptoRow.shortTexts.isNone) = true := by kernel_rfl
theorem c24 : (Tryz.prog.stopsHeard) = true := by kernel_rfl
theorem c25 : (Tryz.prog.mayEnter) = true := by kernel_rfl
theorem c26 : (Rows.wholeNumbersUptoRow.lifted == Tryz.prog.liftsFinal) = true := by kernel_rfl
theorem c27 : (Tryz.prog.make == some Rows.wholeNumbersUptoRow.make) = true := by kernel_rfl
theorem c28 : (Rows.wholeNumbersUptoRow.kinds == (if Rows.wholeNumbersUptoRow.domain.isEmpty then [] else Tryz.f6.params.toList.map fun t => match Tryz.prog.underlying t with | some (.int k) => some k | _ => none)) = true := by kernel_rfl
theorem c29 : (Rows.wholeNumbersUptoRow.pinned == Rows.wholeNumbersUptoRow.pinnedBy) = true := by kernel_rfl
theorem c30 : (Rows.wholeNumbersUptoRow.veiled == (Tryz.f6.params.toList ++ Rows.wholeNumbersSpec.plain.varTypes Tryz.prog ++ Tryz.f6.resultTypes.toList).any (Tryz.prog.veiledRec ·)) = true := by kernel_rfl
theorem c31 : (Rows.wholeNumbersUptoRow.veiledFits Tryz.prog Tryz.f6.params.toList (Tryz.f6.params.toList ++ Rows.wholeNumbersSpec.plain.varTypes Tryz.prog ++ Tryz.f6.resultTypes.toList)) = true := by kernel_rfl
theorem closed : joinedFacts Tryz.prog 6 Tryz.f6 Rows.wholeNumbersSpec Rows.wholeNumbersUptoRow = true := (and2 (and2 (and2 (and2 (and2 (and2 (and2 (and2 (and2 (and2 (and2 (and2 (and2 (and2 (and2 (and2 (and2 (and2 (and2 (and2 (and2 (and2 (and2 (and2 (and2 (and2 (and2 (and2 (and2 (and2 (and2 c0 c1) c2) c3) c4) c5) c6) c7) c8) c9) c10) c11) c12) c13) c14) c15) c16) c17) c18) c19) c20) c21) c22) c23) c24) c25) c26) c27) c28) c29) c30) c31)
end Go.Proofs.YtkmbkejmfffafaaGreatDoor.wholeNumbers
