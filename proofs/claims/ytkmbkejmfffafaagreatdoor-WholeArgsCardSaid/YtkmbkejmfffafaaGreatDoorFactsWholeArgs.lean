/- Facts of the row of 'WholeArgs' that its proof asks, each by the kernel by itself. -/
import Derived.Test.YtkmbkejmfffafaaGreatDoorRows
import Derived.WalkKit
import Derived.ProofKit
import Derived.Stop.Joined
set_option linter.unusedSectionVars false
set_option linter.unusedVariables false
set_option linter.unusedSimpArgs false
namespace Go.Proofs.YtkmbkejmfffafaaGreatDoor.wholeArgs
set_option maxRecDepth 100000
theorem and2 {a b : Bool} (h : a = true) (k : b = true) : (a && b) = true := by rw [h, k]; rfl
theorem c0 : (Rows.wholeArgsRow.wf (OpenSpec.ofChange Rows.wholeArgsSpec)) = true := by kernel_rfl
theorem c1 : (laidOutB Tryz.prog) = true := by kernel_rfl
theorem c2 : (mapsRowed Tryz.prog) = true := by kernel_rfl
theorem c3 : (Tryz.f7.params.all (Tryz.prog.readableRec ·)) = true := by kernel_rfl
theorem c4 : (namedTie Tryz.prog Rows.wholeArgsRow.named Rows.wholeArgsSpec.vars) = true := by kernel_rfl
theorem c5 : (Rows.wholeArgsRow.stops == []) = true := by kernel_rfl
theorem c6 : (Tryz.prog.stops == []) = true := by kernel_rfl
theorem c7 : (Rows.wholeArgsRow.knobs == []) = true := by kernel_rfl
theorem c8 : (Tryz.prog.stopKnobs == []) = true := by kernel_rfl
theorem c9 : (Rows.wholeArgsRow.inPlace == Tryz.prog.inPlace 7) = true := by kernel_rfl
theorem c10 : (Rows.wholeArgsRow.unfollowed == Tryz.prog.unfollowed 7) = true := by kernel_rfl
theorem c11 : (Rows.wholeArgsRow.recurses == Tryz.prog.recurses 7) = true := by kernel_rfl
theorem c12 : (Rows.wholeArgsRow.named == Tryz.prog.varsNamed 7) = true := by kernel_rfl
theorem c13 : (Rows.wholeArgsRow.maps == (Tryz.f7.params.toList ++ Rows.wholeArgsSpec.plain.varTypes Tryz.prog).any (Tryz.prog.mapsRec ·)) = true := by kernel_rfl
theorem c14 : (Rows.wholeArgsRow.ifaces == (Tryz.f7.params.toList ++ Rows.wholeArgsSpec.plain.varTypes Tryz.prog).any (Tryz.prog.ifacesRec ·)) = true := by kernel_rfl
theorem c15 : (Rows.wholeArgsRow.mapsOut == Tryz.prog.mapsAmong Tryz.f7.resultTypes.toList) = true := by kernel_rfl
theorem c16 : (Rows.wholeArgsRow.loops == (Tryz.f7.params.toList ++ Rows.wholeArgsSpec.plain.varTypes Tryz.prog).any (Tryz.prog.loopsFrom ·)) = true := by kernel_rfl
theorem c17 : (Rows.wholeArgsRow.wideKeys == (Tryz.f7.params.toList ++ Rows.wholeArgsSpec.plain.varTypes Tryz.prog ++ Tryz.f7.resultTypes.toList).any (Tryz.prog.wideKeysFrom ·)) = true := by kernel_rfl
theorem c18 : (Rows.wholeArgsSpec.vars.all (Tryz.prog.varReadable ·)) = true := by kernel_rfl
theorem c19 : (Tryz.f7.resultTypes.all (fun t => Tryz.prog.readableRec t && decide (t < Tryz.prog.types.size))) = true := by kernel_rfl
theorem c20 : (Rows.wholeArgsRow.ifacesOut == Tryz.f7.resultTypes.toList.any (Tryz.prog.ifacesRec ·)) = true := by kernel_rfl
theorem c21 : (Rows.wholeArgsRow.loopsOut == Tryz.f7.resultTypes.toList.any (Tryz.prog.loopsFrom ·)) = true := by kernel_rfl
theorem c22 : (Rows.wholeArgsRow.plainKeys == Tryz.prog.plainKeys) = true := by kernel_rfl
theorem c23 : (Rows.wholeArgsRow.shortTexts.isNone) = true := by kernel_rfl
theorem c24 : (Tryz.prog.stopsHeard) = true := by kernel_rfl
theorem c25 : (Tryz.prog.mayEnter) = true := by kernel_rfl
theorem c26 : (Rows.wholeArgsRow.lifted == Tryz.prog.liftsFinal) = true := by kernel_rfl
theorem c27 : (Tryz.prog.make == some Rows.wholeArgsRow.make) = true := by kernel_rfl
theorem c28 : (Rows.wholeArgsRow.kinds == (if Rows.wholeArgsRow.domain.isEmpty then [] else Tryz.f7.params.toList.map fun t => match Tryz.prog.underlying t with | some (.int k) => some k | _ => none)) = true := by kernel_rfl
theorem c29 : (Rows.wholeArgsRow.pinned == Rows.wholeArgsRow.pinnedBy) = true := by kernel_rfl
theorem c30 : (Rows.wholeArgsRow.veiled == (Tryz.f7.params.toList ++ Rows.wholeArgsSpec.plain.varTypes Tryz.prog ++ Tryz.f7.resultTypes.toList).any (Tryz.prog.veiledRec ·)) = true := by kernel_rfl
theorem c31 : (Rows.wholeArgsRow.veiledFits Tryz.prog Tryz.f7.params.toList (Tryz.f7.params.toList ++ Rows.wholeArgsSpec.plain.varTypes Tryz.prog ++ Tryz.f7.resultTypes.toList)) = true := by kernel_rfl
theorem closed : joinedFacts Tryz.prog 7 Tryz.f7 Rows.wholeArgsSpec Rows.wholeArgsRow = true := (and2 (and2 (and2 (and2 (and2 (and2 (and2 (and2 (and2 (and2 (and2 (and2 (and2 (and2 (and2 (and2 (and2 (and2 (and2 (and2 (and2 (and2 (and2 (and2 (and2 (and2 (and2 (and2 (and2 (and2 (and2 c0 c1) c2) c3) c4) c5) c6) c7) c8) c9) c10) c11) c12) c13) c14) c15) c16) c17) c18) c19) c20) c21) c22) c23) c24) c25) c26) c27) c28) c29) c30) c31)
end Go.Proofs.YtkmbkejmfffafaaGreatDoor.wholeArgs
