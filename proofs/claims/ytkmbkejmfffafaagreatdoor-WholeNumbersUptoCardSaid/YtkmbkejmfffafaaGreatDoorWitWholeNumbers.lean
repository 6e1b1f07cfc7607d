/- A start that meets the condition of the row of 'WholeNumbers' (second form), and what its card asks of the program; each by the kernel by itself. -/
import Derived.Test.YtkmbkejmfffafaaGreatDoorRows
import Derived.WalkKit
import Derived.ProofKit
import Derived.ChangeOld
import Derived.SizedLaws
import Derived.LaidMore
import Derived.Lay
import Derived.Stop.Joined
import Derived.SevenTiedAt
set_option linter.unusedSectionVars false
set_option linter.unusedVariables false
set_option linter.unusedSimpArgs false
namespace Go.Proofs.YtkmbkejmfffafaaGreatDoor.wholeNumbers
set_option maxRecDepth 100000
set_option linter.unusedVariables false
noncomputable def laidL : List (String × DataW Unit) := Rows.wholeNumbersUptoRow.laid
theorem laid_plain : (laidL.all fun x => x.2.handleName?.isNone) = true := by kernel_rfl
theorem lay_fits (os : Os) : (World.holding Tryz.prog os ⟨#[], #[], []⟩).layFits Tryz.prog laidL [] = true := by kernel_rfl
theorem lay_ifaces (os : Os) : (World.holding Tryz.prog os ⟨#[], #[], []⟩).layIfaces Tryz.prog laidL (World.laidAll Tryz.prog os laidL) = true := by kernel_rfl
noncomputable def wargs : Array Value := #[.string ByteArray.empty, .agg #[.bool false, .string ByteArray.empty, .int .i64 0], .int .i64 0, .int .i64 0]
noncomputable def ww (os : Os) : World := (World.laidAll Tryz.prog os laidL).forCall (fun _ _ => 0) ⟨#[], wargs, []⟩
theorem zip1 (os : Os) : (ww os).variablesZipB Tryz.prog = true := by kernel_rfl
theorem zip2 (os : Os) : (((ww os).heap.toList.drop Tryz.prog.globals.size).take ((begin Tryz.prog (fun _ _ => 0) default).world.heap.size - Tryz.prog.globals.size) =
      (begin Tryz.prog (fun _ _ => 0) default).world.heap.toList.drop Tryz.prog.globals.size) := by kernel_rfl
theorem wit1 (os : Os) : Input.okWideB Tryz.prog (ww os) 6 ⟨#[], wargs, []⟩ = true := by kernel_rfl
theorem reads (os : Os) (H : Type) (enc : TypeId × Value → H) : DataW.whole enc Tryz.prog (ww os).memory Tryz.f6.params.toList Rows.wholeNumbersSpec.vars false wargs.toList 8 = some ([.lit (.string []), .agg [.lit (.bool false), .lit (.string []), .lit (.int .i64 0)], .lit (.int .i64 0), .lit (.int .i64 0)], [], []) := by kernel_rfl
theorem wit3 (os : Os) (H : Type) (enc : TypeId × Value → H) : (Rows.OpenSpec.upto Rows.wholeNumbersSpec).bare.sizedB enc Tryz.prog Tryz.f6 false (ww os).memory wargs 8 = true := by kernel_rfl
theorem noInit : Tryz.prog.inits.idxOf? 6 = none := by kernel_rfl
theorem own : ownKnob Tryz.prog.godebug = none := by kernel_rfl
theorem named : Tryz.prog.funcNamed "polyglot/polyglottop.WholeNumbers" = some 6 := by kernel_rfl
theorem inst : Tryz.f6.isInstance Tryz.prog Rows.wholeNumbersUptoRow.origin Rows.wholeNumbersUptoRow.targs := of_decide_eq_true (by kernel_rfl)
theorem wrap : Tryz.f6.isWrapper Tryz.prog Rows.wholeNumbersUptoRow.wrapper Rows.wholeNumbersUptoRow.mainSum := by
  unfold Func.isWrapper; first | (rw [if_pos (by decide +kernel)]; kernel_rfl) | (rw [if_neg (by decide +kernel)]; exact ⟨rfl, rfl⟩)
theorem byText : Rows.wholeNumbersUptoRow.wfByText (Rows.OpenSpec.upto Rows.wholeNumbersSpec) = true := by kernel_rfl
theorem mainIs : Tryz.pinned.checked.prog.mainIs = some (true, "6f4ee9d34a9af7c04cca0bf8be3cd9375ee8ce42f3290383531d59abe8e3f9f7".toList) := by kernel_rfl
theorem looks : true = Tryz.pinned.checked.prog.looks [] := by kernel_rfl
theorem goesBy : false = Rows.wholeNumbersUptoRow.goesBy Tryz.pinned.checked.prog := by kernel_rfl
theorem begin0 : ((begin Tryz.prog (fun _ _ => 0) default).world.heap[0]?).bind Obj.row? = some (Array.replicate 256 (.int .u8 0), 166) := by kernel_rfl
theorem begin2 : ((begin Tryz.prog (fun _ _ => 0) default).world.heap[2]?).bind Obj.row? = some (Array.replicate 20 (.int .u64 0), 264) := by kernel_rfl
theorem begin4 : ((begin Tryz.prog (fun _ _ => 0) default).world.heap[4]?).bind Obj.row? = some (#[.int .i64 0], 3) := by kernel_rfl
end Go.Proofs.YtkmbkejmfffafaaGreatDoor.wholeNumbers
