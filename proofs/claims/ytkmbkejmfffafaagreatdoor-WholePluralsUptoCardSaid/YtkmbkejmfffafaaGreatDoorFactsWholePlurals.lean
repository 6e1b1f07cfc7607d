/- Facts of the row of 'WholePlurals' (second form) that its proof asks, each by the kernel by itself. -/
import Derived.Test.YtkmbkejmfffafaaGreatDoorRows
import Derived.WalkKit
import Derived.ProofKit
import Derived.Stop.Joined
set_option linter.unusedSectionVars false
set_option linter.unusedVariables false
set_option linter.unusedSimpArgs false
namespace Go.Proofs.YtkmbkejmfffafaaGreatDoor.wholePlurals
set_option maxRecDepth 100000
theorem and2 {a b : Bool} (h : a = true) (k : b = true) : (a && b) = true := by rw [h, k]; rfl
theorem c0 : (Rows.wholePluralsUptoRow.wf (OpenSpec.ofChange Rows.wholePluralsSpec)) = true := by kernel_rfl
theorem c1 : (laidOutB Tryz.prog) = true := by kernel_rfl
theorem c2 : (mapsRowed Tryz.prog) = true := by kernel_rfl
theorem c3 : (Tryz.f5.params.all (Tryz.prog.readableRec ·)) = true := by kernel_rfl
theorem c4 : (namedTie Tryz.prog Rows.wholePluralsUptoRow.named Rows.wholePluralsSpec.vars) = true := by kernel_rfl
theorem c5 : (Rows.wholePluralsUptoRow.stops == []) = true := by kernel_rfl
theorem c6 : (Tryz.prog.stops == []) = true := by kernel_rfl
theorem c7 : (Rows.wholePluralsUptoRow.knobs == []) = true := by kernel_rfl
theorem c8 : (Tryz.prog.stopKnobs == []) = true := by kernel_rfl
theorem c9 : (Rows.wholePluralsUptoRow.inPlace == Tryz.prog.inPlace 5) = true := by kernel_rfl
theorem c10 : (Rows.wholePluralsUptoRow.unfollowed == Tryz.prog.unfollowed 5) = true := by kernel_rfl
theorem c11 : (Rows.wholePluralsUptoRow.recurses == Tryz.prog.recurses 5) = true := by kernel_rfl
theorem c12 : (Rows.wholePluralsUptoRow.named == Tryz.prog.varsNamed 5) = true := by kernel_rfl
theorem c13 : (Rows.wholePluralsUptoRow.maps == (Tryz.f5.params.toList ++ Rows.wholePluralsSpec.plain.varTypes Tryz.prog).any (Tryz.prog.mapsRec ·)) = true := by kernel_rfl
theorem c14 : (Rows.wholePluralsUptoRow.ifaces == (Tryz.f5.params.toList ++ Rows.wholePluralsSpec.plain.varTypes Tryz.prog).any (Tryz.prog.ifacesRec ·)) = true := by kernel_rfl
theorem c15 : (Rows.wholePluralsUptoRow.mapsOut == Tryz.prog.mapsAmong Tryz.f5.resultTypes.toList) = true := by kernel_rfl
theorem c16 : (Rows.wholePluralsUptoRow.loops == (Tryz.f5.params.toList ++ Rows.wholePluralsSpec.plain.varTypes Tryz.prog).any (Tryz.prog.loopsFrom ·)) = true := by kernel_rfl
theorem c17 : (Rows.wholePluralsUptoRow.wideKeys == (Tryz.f5.params.toList ++ Rows.wholePluralsSpec.plain.varTypes Tryz.prog ++ Tryz.f5.resultTypes.toList).any (Tryz.prog.wideKeysFrom ·)) = true := by kernel_rfl
theorem c18 : (Rows.wholePluralsSpec.vars.all (Tryz.prog.varReadable ·)) = true := by kernel_rfl
theorem c19 : (Tryz.f5.resultTypes.all (fun t => Tryz.prog.readableRec t && decide (t < Tryz.prog.types.size))) = true := by kernel_rfl
theorem c20 : (Rows.wholePluralsUptoRow.ifacesOut == Tryz.f5.resultTypes.toList.any (Tryz.prog.ifacesRec ·)) = true := by kernel_rfl
theorem c21 : (Rows.wholePluralsUptoRow.loopsOut == Tryz.f5.resultTypes.toList.any (Tryz.prog.loopsFrom ·)) = true := by kernel_rfl
theorem c22 : (Rows.wholePluralsUptoRow.plainKeys == Tryz.prog.plainKeys) = true := by kernel_rfl
theorem c23 : (Rows.wholePluralsUptoRow.shortTexts.isNone) = true := by kernel_rfl
theorem c24 : (Tryz.prog.stopsHeard) = true := by kernel_rfl
theorem c25 : (Tryz.prog.mayEnter) = true := by kernel_rfl
theorem c26 : (Rows.wholePluralsUptoRow.lifted == Tryz.prog.liftsFinal) = true := by kernel_rfl
theorem c27 : (Tryz.prog.make == some Rows.wholePluralsUptoRow.make) = true := by kernel_rfl
theorem c28 : (Rows.wholePluralsUptoRow.kinds == (if Rows.wholePluralsUptoRow.domain.isEmpty then [] else Tryz.f5.params.toList.map fun t => match Tryz.prog.underlying t with | some (.int k) => some k | _ => none)) = true := by kernel_rfl
theorem c29 : (Rows.wholePluralsUptoRow.pinned == Rows.wholePluralsUptoRow.pinnedBy) = true := by kernel_rfl
theorem c30 : (Rows.wholePluralsUptoRow.veiled == (Tryz.f5.params.toList ++ Rows.wholePluralsSpec.plain.varTypes Tryz.prog ++ Tryz.f5.resultTypes.toList).any (Tryz.prog.veiledRec ·)) = true := by kernel_rfl
theorem c31 : (Rows.wholePluralsUptoRow.veiledFits Tryz.prog Tryz.f5.params.toList (Tryz.f5.params.toList ++ Rows.wholePluralsSpec.plain.varTypes Tryz.prog ++ Tryz.f5.resultTypes.toList)) = true := by kernel_rfl
theorem closed : joinedFacts Tryz.prog 5 Tryz.f5 Rows.wholePluralsSpec Rows.wholePluralsUptoRow = true := (and2 (and2 (and2 (and2 (and2 (and2 (and2 (and2 (and2 (and2 (and2 (and2 (and2 (and2 (and2 (and2 (and2 (and2 (and2 (and2 (and2 (and2 (and2 (and2 (and2 (and2 (and2 (and2 (and2 (and2 (and2 c0 c1) c2) c3) c4) c5) c6) c7) c8) c9) c10) c11) c12) c13) c14) c15) c16) c17) c18) c19) c20) c21) c22) c23) c24) c25) c26) c27) c28) c29) c30) c31)
end Go.Proofs.YtkmbkejmfffafaaGreatDoor.wholePlurals
