/- A start that meets the condition of the row of 'WholeArgs', and what its card asks of the program; each by the kernel by itself. -/
import Derived.Test.YtkmbkejmfffafaaGreatDoorRows
import Derived.WalkKit
import Derived.ProofKit
import Derived.ChangeOld
import Derived.SizedLaws
import Derived.LaidMore
import Derived.Lay
import Derived.Stop.Joined
import Derived.SevenTiedAt
set_option linter.unusedSectionVars false
set_option linter.unusedVariables false
set_option linter.unusedSimpArgs false
namespace Go.Proofs.YtkmbkejmfffafaaGreatDoor.wholeArgs
set_option maxRecDepth 100000
set_option linter.unusedVariables false
noncomputable def laidL : List (String × DataW Unit) := Rows.wholeArgsRow.laid
theorem laid_plain : (laidL.all fun x => x.2.handleName?.isNone) = true := by kernel_rfl
theorem lay_fits (os : Os) : (World.holding Tryz.prog os ⟨#[], #[], []⟩).layFits Tryz.prog laidL [] = true := by kernel_rfl
theorem lay_ifaces (os : Os) : (World.holding Tryz.prog os ⟨#[], #[], []⟩).layIfaces Tryz.prog laidL (World.laidAll Tryz.prog os laidL) = true := by kernel_rfl
noncomputable def wargs : Array Value := #[.string ByteArray.empty, .string ByteArray.empty]
noncomputable def ww (os : Os) : World := (World.laidAll Tryz.prog os laidL).forCall (fun _ _ => 0) ⟨#[], wargs, []⟩
theorem zip1 (os : Os) : (ww os).variablesZipB Tryz.prog = true := by kernel_rfl
theorem zip2 (os : Os) : (((ww os).heap.toList.drop Tryz.prog.globals.size).take ((begin Tryz.prog (fun _ _ => 0) default).world.heap.size - Tryz.prog.globals.size) =
      (begin Tryz.prog (fun _ _ => 0) default).world.heap.toList.drop Tryz.prog.globals.size) := by kernel_rfl
theorem wit1 (os : Os) : Input.okWideB Tryz.prog (ww os) 7 ⟨#[], wargs, []⟩ = true := by kernel_rfl
theorem wit2 (os : Os) (H : Type) (enc : TypeId × Value → H) : Rows.wholeArgsSpec.preB enc Tryz.prog Tryz.f7 [] false (ww os).memory wargs 8 = true := by kernel_rfl
theorem wit3 (os : Os) (H : Type) (enc : TypeId × Value → H) : Rows.wholeArgsSpec.sizedB enc Tryz.prog Tryz.f7 false (ww os).memory wargs 8 = true := by kernel_rfl
theorem noInit : Tryz.prog.inits.idxOf? 7 = none := by kernel_rfl
theorem own : ownKnob Tryz.prog.godebug = none := by kernel_rfl
theorem named : Tryz.prog.funcNamed "polyglot/polyglottop.WholeArgs" = some 7 := by kernel_rfl
theorem inst : Tryz.f7.isInstance Tryz.prog Rows.wholeArgsRow.origin Rows.wholeArgsRow.targs := of_decide_eq_true (by kernel_rfl)
theorem wrap : Tryz.f7.isWrapper Tryz.prog Rows.wholeArgsRow.wrapper Rows.wholeArgsRow.mainSum := by
  unfold Func.isWrapper; first | (rw [if_pos (by decide +kernel)]; kernel_rfl) | (rw [if_neg (by decide +kernel)]; exact ⟨rfl, rfl⟩)
theorem byText : Rows.wholeArgsRow.wfByText (OpenSpec.ofChange Rows.wholeArgsSpec) = true := by kernel_rfl
theorem mainIs : Tryz.pinned.checked.prog.mainIs = some (true, "6f4ee9d34a9af7c04cca0bf8be3cd9375ee8ce42f3290383531d59abe8e3f9f7".toList) := by kernel_rfl
theorem looks : true = Tryz.pinned.checked.prog.looks [] := by kernel_rfl
theorem goesBy : false = Rows.wholeArgsRow.goesBy Tryz.pinned.checked.prog := by kernel_rfl
theorem begin0 : ((begin Tryz.prog (fun _ _ => 0) default).world.heap[0]?).bind Obj.row? = some (Array.replicate 256 (.int .u8 0), 166) := by kernel_rfl
theorem begin2 : ((begin Tryz.prog (fun _ _ => 0) default).world.heap[2]?).bind Obj.row? = some (Array.replicate 20 (.int .u64 0), 264) := by kernel_rfl
end Go.Proofs.YtkmbkejmfffafaaGreatDoor.wholeArgs
