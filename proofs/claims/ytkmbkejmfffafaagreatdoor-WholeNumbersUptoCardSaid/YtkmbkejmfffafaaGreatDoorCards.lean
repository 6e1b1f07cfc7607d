/-
  DERIVED. GIVEN WITH THE SEED: THE CARDS: each row of YtkmbkejmfffafaaGreatDoorRows.lean that lists a variable, with what it lists TIED to the program's text (the seventh form; the later family's looks); each row that meets fmt, with fmt's text TOLD by the authors' own Lean function (tested against real Go, not proved from fmt's source: count such statements apart). THE CARD IS WHAT COUNTS. Prove the row's statement (the work); the ties are given (YtkmbkejmfffafaaGreatDoorTie.lean); close each card by the builder's one call (the guide's Derived/Test/ToyasCard.lean, 'card_holds'). Laid BY PROGRAM, IN A SANDBOX (cutbox-door.mjs). By AI agents, Wed Nov 11 2026. No macro, syntax, notation, axiom, sorry.
-/
import Derived.Test.YtkmbkejmfffafaaGreatDoorRows
import GoSem.ClaimSeven
namespace Go.Proofs.YtkmbkejmfffafaaGreatDoor
namespace Rows

/-- THE TIED CARD OF 'polyglottop.WholeOrder'. -/
def wholeOrderCard : Claim7 := { stood := { row := wholeOrderRow, standIns := [], harness := (true, "6f4ee9d34a9af7c04cca0bf8be3cd9375ee8ce42f3290383531d59abe8e3f9f7"), looks := true }, kinds := [], alts := [], laidByText := true, laidKinds := [.data, .data, .data, .data, .sentinel, .sentinel, .listed, .sentinel, .data, .pinned], laidTests := true, laidLooks := .later }
def WholeOrderCardSaid : Prop := Claim7.holds Tryz.pinned (.plain (OpenSpec.ofChange wholeOrderSpec)) wholeOrderCard

/-- THE TIED CARD OF 'polyglottop.WholeLater'. -/
def wholeLaterCard : Claim7 := { stood := { row := wholeLaterRow, standIns := [], harness := (true, "6f4ee9d34a9af7c04cca0bf8be3cd9375ee8ce42f3290383531d59abe8e3f9f7"), looks := true }, kinds := [], alts := [], laidByText := true, laidKinds := [.data, .data, .data, .data, .sentinel, .sentinel, .listed, .sentinel, .data, .pinned], laidTests := true, laidLooks := .later }
def WholeLaterCardSaid : Prop := Claim7.holds Tryz.pinned (.plain (OpenSpec.ofChange wholeLaterSpec)) wholeLaterCard

/-- THE TIED CARD OF 'polyglottop.WholePlurals'. -/
def wholePluralsCard : Claim7 := { stood := { row := wholePluralsRow, standIns := [], harness := (true, "6f4ee9d34a9af7c04cca0bf8be3cd9375ee8ce42f3290383531d59abe8e3f9f7"), looks := true }, kinds := [], alts := [], laidByText := true, laidKinds := [.data, .data, .data, .data, .sentinel, .sentinel, .listed, .sentinel, .data, .pinned], laidTests := true, laidLooks := .later }
def WholePluralsCardSaid : Prop := Claim7.holds Tryz.pinned (.plain (OpenSpec.ofChange wholePluralsSpec)) wholePluralsCard

/-- THE TIED CARD OF 'polyglottop.WholeNumbers'. -/
def wholeNumbersCard : Claim7 := { stood := { row := wholeNumbersRow, standIns := [], harness := (true, "6f4ee9d34a9af7c04cca0bf8be3cd9375ee8ce42f3290383531d59abe8e3f9f7"), looks := true }, kinds := [], alts := [], laidByText := true, laidKinds := [.data, .data, .data, .data, .sentinel, .sentinel, .listed, .sentinel, .data, .pinned], laidTests := true, laidLooks := .later }
def WholeNumbersCardSaid : Prop := Claim7.holds Tryz.pinned (.plain (OpenSpec.ofChange wholeNumbersSpec)) wholeNumbersCard

/-- THE TIED CARD OF 'polyglottop.WholeArgs'. -/
def wholeArgsCard : Claim7 := { stood := { row := wholeArgsRow, standIns := [], harness := (true, "6f4ee9d34a9af7c04cca0bf8be3cd9375ee8ce42f3290383531d59abe8e3f9f7"), looks := true }, kinds := [], alts := [], laidByText := true, laidKinds := [.data, .data, .data, .data, .sentinel, .sentinel, .listed, .sentinel, .data, .pinned], laidTests := true, laidLooks := .later }
def WholeArgsCardSaid : Prop := Claim7.holds Tryz.pinned (.plain (OpenSpec.ofChange wholeArgsSpec)) wholeArgsCard

/-- THE SECOND FORM's CARD OF 'polyglottop.WholeOrder'. -/
def wholeOrderUptoCard : Claim7 := { stood := { row := wholeOrderUptoRow, standIns := [], harness := (true, "6f4ee9d34a9af7c04cca0bf8be3cd9375ee8ce42f3290383531d59abe8e3f9f7"), looks := true }, kinds := [], alts := [], laidByText := true, laidKinds := [.data, .data, .data, .data, .sentinel, .sentinel, .listed, .sentinel, .data, .pinned], laidTests := true, laidLooks := .later }
def WholeOrderUptoCardSaid : Prop := Claim7.holds Tryz.pinned (.plain (OpenSpec.upto wholeOrderSpec)) wholeOrderUptoCard

/-- THE SECOND FORM's CARD OF 'polyglottop.WholeLater'. -/
def wholeLaterUptoCard : Claim7 := { stood := { row := wholeLaterUptoRow, standIns := [], harness := (true, "6f4ee9d34a9af7c04cca0bf8be3cd9375ee8ce42f3290383531d59abe8e3f9f7"), looks := true }, kinds := [], alts := [], laidByText := true, laidKinds := [.data, .data, .data, .data, .sentinel, .sentinel, .listed, .sentinel, .data, .pinned], laidTests := true, laidLooks := .later }
def WholeLaterUptoCardSaid : Prop := Claim7.holds Tryz.pinned (.plain (OpenSpec.upto wholeLaterSpec)) wholeLaterUptoCard

/-- THE SECOND FORM's CARD OF 'polyglottop.WholePlurals'. -/
def wholePluralsUptoCard : Claim7 := { stood := { row := wholePluralsUptoRow, standIns := [], harness := (true, "6f4ee9d34a9af7c04cca0bf8be3cd9375ee8ce42f3290383531d59abe8e3f9f7"), looks := true }, kinds := [], alts := [], laidByText := true, laidKinds := [.data, .data, .data, .data, .sentinel, .sentinel, .listed, .sentinel, .data, .pinned], laidTests := true, laidLooks := .later }
def WholePluralsUptoCardSaid : Prop := Claim7.holds Tryz.pinned (.plain (OpenSpec.upto wholePluralsSpec)) wholePluralsUptoCard

/-- THE SECOND FORM's CARD OF 'polyglottop.WholeNumbers'. -/
def wholeNumbersUptoCard : Claim7 := { stood := { row := wholeNumbersUptoRow, standIns := [], harness := (true, "6f4ee9d34a9af7c04cca0bf8be3cd9375ee8ce42f3290383531d59abe8e3f9f7"), looks := true }, kinds := [], alts := [], laidByText := true, laidKinds := [.data, .data, .data, .data, .sentinel, .sentinel, .listed, .sentinel, .data, .pinned], laidTests := true, laidLooks := .later }
def WholeNumbersUptoCardSaid : Prop := Claim7.holds Tryz.pinned (.plain (OpenSpec.upto wholeNumbersSpec)) wholeNumbersUptoCard

/-- THE SECOND FORM's CARD OF 'polyglottop.WholeArgs'. -/
def wholeArgsUptoCard : Claim7 := { stood := { row := wholeArgsUptoRow, standIns := [], harness := (true, "6f4ee9d34a9af7c04cca0bf8be3cd9375ee8ce42f3290383531d59abe8e3f9f7"), looks := true }, kinds := [], alts := [], laidByText := true, laidKinds := [.data, .data, .data, .data, .sentinel, .sentinel, .listed, .sentinel, .data, .pinned], laidTests := true, laidLooks := .later }
def WholeArgsUptoCardSaid : Prop := Claim7.holds Tryz.pinned (.plain (OpenSpec.upto wholeArgsSpec)) wholeArgsUptoCard
end Rows
end Go.Proofs.YtkmbkejmfffafaaGreatDoor
