/-
  DERIVED. GIVEN WITH THE SEED: THE CARDS: each row of YtpedajhcfkohlaaDoorRows.lean that lists a variable, with what it lists TIED to the program's text (the seventh form; the later family's looks); each row that meets fmt, with fmt's text TOLD by the authors' own Lean function (tested against real Go, not proved from fmt's source: count such statements apart). THE CARD IS WHAT COUNTS. Prove the row's statement (the work); the ties are given (YtpedajhcfkohlaaDoorTie.lean); close each card by the builder's one call (the guide's Derived/Test/ToyasCard.lean, 'card_holds'). Laid BY PROGRAM, IN A SANDBOX (cutbox-door.mjs). By AI agents, Wed Nov 11 2026. No macro, syntax, notation, axiom, sorry.
-/
import Derived.Test.YtpedajhcfkohlaaDoorRows
import GoSem.ClaimSeven
namespace Go.Proofs.YtpedajhcfkohlaaDoor
namespace Rows

/-- THE TIED CARD OF 'polyglotlaw03.TagParses'. -/
def tagParsesCard : Claim7 := { stood := { row := tagParsesRow, standIns := [], harness := (true, "a61f2999c33fb557915a4b08f90c97fe4f1b0adb4f2a1bd93004f23caea866cf"), looks := false }, kinds := [], alts := [], laidByText := true, laidKinds := [.data, .pinned], laidTests := true, laidLooks := .later }
def TagParsesCardSaid : Prop := Claim7.holds Tryd.pinned (.plain (OpenSpec.ofChange tagParsesSpec)) tagParsesCard

/-- THE TIED CARD OF 'polyglotlaw03.TagFits'. -/
def tagFitsCard : Claim7 := { stood := { row := tagFitsRow, standIns := [], harness := (true, "a61f2999c33fb557915a4b08f90c97fe4f1b0adb4f2a1bd93004f23caea866cf"), looks := false }, kinds := [], alts := [], laidByText := true, laidKinds := [.data, .pinned], laidTests := true, laidLooks := .later }
def TagFitsCardSaid : Prop := Claim7.holds Tryd.pinned (.plain (OpenSpec.ofChange tagFitsSpec)) tagFitsCard

/-- THE TIED CARD OF 'polyglotlaw03.TagLess'. -/
def tagLessCard : Claim7 := { stood := { row := tagLessRow, standIns := [], harness := (true, "a61f2999c33fb557915a4b08f90c97fe4f1b0adb4f2a1bd93004f23caea866cf"), looks := false }, kinds := [], alts := [], laidByText := true, laidKinds := [.data, .pinned], laidTests := true, laidLooks := .later }
def TagLessCardSaid : Prop := Claim7.holds Tryd.pinned (.plain (OpenSpec.ofChange tagLessSpec)) tagLessCard

/-- THE TIED CARD OF 'polyglotlaw03.TagMore'. -/
def tagMoreCard : Claim7 := { stood := { row := tagMoreRow, standIns := [], harness := (true, "a61f2999c33fb557915a4b08f90c97fe4f1b0adb4f2a1bd93004f23caea866cf"), looks := false }, kinds := [], alts := [], laidByText := true, laidKinds := [.data, .pinned], laidTests := true, laidLooks := .later }
def TagMoreCardSaid : Prop := Claim7.holds Tryd.pinned (.plain (OpenSpec.ofChange tagMoreSpec)) tagMoreCard

/-- THE TIED CARD OF 'polyglotlaw13.MomentFormats'. -/
def momentFormatsCard : Claim7 := { stood := { row := momentFormatsRow, standIns := [], harness := (true, "a61f2999c33fb557915a4b08f90c97fe4f1b0adb4f2a1bd93004f23caea866cf"), looks := false }, kinds := [], alts := [], laidByText := true, laidKinds := [.data, .data, .data], laidTests := true, laidLooks := .later }
def MomentFormatsCardSaid : Prop := Claim7.holds Tryd.pinned (.plain (OpenSpec.ofChange momentFormatsSpec)) momentFormatsCard

/-- THE TIED CARD OF 'polyglotlaw13.MomentDay'. -/
def momentDayCard : Claim7 := { stood := { row := momentDayRow, standIns := [], harness := (true, "a61f2999c33fb557915a4b08f90c97fe4f1b0adb4f2a1bd93004f23caea866cf"), looks := false }, kinds := [], alts := [], laidByText := true, laidKinds := [.data, .data, .data], laidTests := true, laidLooks := .later }
def MomentDayCardSaid : Prop := Claim7.holds Tryd.pinned (.plain (OpenSpec.ofChange momentDaySpec)) momentDayCard

/-- THE TIED CARD OF 'polyglotlaw13.MomentParts'. -/
def momentPartsCard : Claim7 := { stood := { row := momentPartsRow, standIns := [], harness := (true, "a61f2999c33fb557915a4b08f90c97fe4f1b0adb4f2a1bd93004f23caea866cf"), looks := false }, kinds := [], alts := [], laidByText := true, laidKinds := [.data, .data, .data], laidTests := true, laidLooks := .later }
def MomentPartsCardSaid : Prop := Claim7.holds Tryd.pinned (.plain (OpenSpec.ofChange momentPartsSpec)) momentPartsCard

/-- THE TIED CARD OF 'polyglotlaw13.MomentWords'. -/
def momentWordsCard : Claim7 := { stood := { row := momentWordsRow, standIns := [], harness := (true, "a61f2999c33fb557915a4b08f90c97fe4f1b0adb4f2a1bd93004f23caea866cf"), looks := false }, kinds := [], alts := [], laidByText := true, laidKinds := [.data, .data, .data], laidTests := true, laidLooks := .later }
def MomentWordsCardSaid : Prop := Claim7.holds Tryd.pinned (.plain (OpenSpec.ofChange momentWordsSpec)) momentWordsCard

/-- THE TIED CARD OF 'polyglotlaw11.NegoChains'. -/
def negoChainsCard : Claim7 := { stood := { row := negoChainsRow, standIns := [], harness := (true, "a61f2999c33fb557915a4b08f90c97fe4f1b0adb4f2a1bd93004f23caea866cf"), looks := false }, kinds := [], alts := [], laidByText := true, laidKinds := [.data, .pinned], laidTests := true, laidLooks := .later }
def NegoChainsCardSaid : Prop := Claim7.holds Tryd.pinned (.plain (OpenSpec.ofChange negoChainsSpec)) negoChainsCard

/-- THE TIED CARD OF 'polyglotlaw11.NegoOnes'. -/
def negoOnesCard : Claim7 := { stood := { row := negoOnesRow, standIns := [], harness := (true, "a61f2999c33fb557915a4b08f90c97fe4f1b0adb4f2a1bd93004f23caea866cf"), looks := false }, kinds := [], alts := [], laidByText := true, laidKinds := [.data, .pinned], laidTests := true, laidLooks := .later }
def NegoOnesCardSaid : Prop := Claim7.holds Tryd.pinned (.plain (OpenSpec.ofChange negoOnesSpec)) negoOnesCard

/-- THE TIED CARD OF 'polyglotlaw11.NegoFirst'. -/
def negoFirstCard : Claim7 := { stood := { row := negoFirstRow, standIns := [], harness := (true, "a61f2999c33fb557915a4b08f90c97fe4f1b0adb4f2a1bd93004f23caea866cf"), looks := false }, kinds := [], alts := [], laidByText := true, laidKinds := [.data, .pinned], laidTests := true, laidLooks := .later }
def NegoFirstCardSaid : Prop := Claim7.holds Tryd.pinned (.plain (OpenSpec.ofChange negoFirstSpec)) negoFirstCard

/-- THE SECOND FORM's CARD OF 'polyglotlaw03.TagParses'. -/
def tagParsesUptoCard : Claim7 := { stood := { row := tagParsesUptoRow, standIns := [], harness := (true, "a61f2999c33fb557915a4b08f90c97fe4f1b0adb4f2a1bd93004f23caea866cf"), looks := false }, kinds := [], alts := [], laidByText := true, laidKinds := [.data, .pinned], laidTests := true, laidLooks := .later }
def TagParsesUptoCardSaid : Prop := Claim7.holds Tryd.pinned (.plain (OpenSpec.upto tagParsesSpec)) tagParsesUptoCard

/-- THE SECOND FORM's CARD OF 'polyglotlaw03.TagFits'. -/
def tagFitsUptoCard : Claim7 := { stood := { row := tagFitsUptoRow, standIns := [], harness := (true, "a61f2999c33fb557915a4b08f90c97fe4f1b0adb4f2a1bd93004f23caea866cf"), looks := false }, kinds := [], alts := [], laidByText := true, laidKinds := [.data, .pinned], laidTests := true, laidLooks := .later }
def TagFitsUptoCardSaid : Prop := Claim7.holds Tryd.pinned (.plain (OpenSpec.upto tagFitsSpec)) tagFitsUptoCard

/-- THE SECOND FORM's CARD OF 'polyglotlaw03.TagLess'. -/
def tagLessUptoCard : Claim7 := { stood := { row := tagLessUptoRow, standIns := [], harness := (true, "a61f2999c33fb557915a4b08f90c97fe4f1b0adb4f2a1bd93004f23caea866cf"), looks := false }, kinds := [], alts := [], laidByText := true, laidKinds := [.data, .pinned], laidTests := true, laidLooks := .later }
def TagLessUptoCardSaid : Prop := Claim7.holds Tryd.pinned (.plain (OpenSpec.upto tagLessSpec)) tagLessUptoCard

/-- THE SECOND FORM's CARD OF 'polyglotlaw03.TagMore'. -/
def tagMoreUptoCard : Claim7 := { stood := { row := tagMoreUptoRow, standIns := [], harness := (true, "a61f2999c33fb557915a4b08f90c97fe4f1b0adb4f2a1bd93004f23caea866cf"), looks := false }, kinds := [], alts := [], laidByText := true, laidKinds := [.data, .pinned], laidTests := true, laidLooks := .later }
def TagMoreUptoCardSaid : Prop := Claim7.holds Tryd.pinned (.plain (OpenSpec.upto tagMoreSpec)) tagMoreUptoCard

/-- THE SECOND FORM's CARD OF 'polyglotlaw13.MomentFormats'. -/
def momentFormatsUptoCard : Claim7 := { stood := { row := momentFormatsUptoRow, standIns := [], harness := (true, "a61f2999c33fb557915a4b08f90c97fe4f1b0adb4f2a1bd93004f23caea866cf"), looks := false }, kinds := [], alts := [], laidByText := true, laidKinds := [.data, .data, .data], laidTests := true, laidLooks := .later }
def MomentFormatsUptoCardSaid : Prop := Claim7.holds Tryd.pinned (.plain (OpenSpec.upto momentFormatsSpec)) momentFormatsUptoCard

/-- THE SECOND FORM's CARD OF 'polyglotlaw13.MomentDay'. -/
def momentDayUptoCard : Claim7 := { stood := { row := momentDayUptoRow, standIns := [], harness := (true, "a61f2999c33fb557915a4b08f90c97fe4f1b0adb4f2a1bd93004f23caea866cf"), looks := false }, kinds := [], alts := [], laidByText := true, laidKinds := [.data, .data, .data], laidTests := true, laidLooks := .later }
def MomentDayUptoCardSaid : Prop := Claim7.holds Tryd.pinned (.plain (OpenSpec.upto momentDaySpec)) momentDayUptoCard

/-- THE SECOND FORM's CARD OF 'polyglotlaw13.MomentParts'. -/
def momentPartsUptoCard : Claim7 := { stood := { row := momentPartsUptoRow, standIns := [], harness := (true, "a61f2999c33fb557915a4b08f90c97fe4f1b0adb4f2a1bd93004f23caea866cf"), looks := false }, kinds := [], alts := [], laidByText := true, laidKinds := [.data, .data, .data], laidTests := true, laidLooks := .later }
def MomentPartsUptoCardSaid : Prop := Claim7.holds Tryd.pinned (.plain (OpenSpec.upto momentPartsSpec)) momentPartsUptoCard

/-- THE SECOND FORM's CARD OF 'polyglotlaw13.MomentWords'. -/
def momentWordsUptoCard : Claim7 := { stood := { row := momentWordsUptoRow, standIns := [], harness := (true, "a61f2999c33fb557915a4b08f90c97fe4f1b0adb4f2a1bd93004f23caea866cf"), looks := false }, kinds := [], alts := [], laidByText := true, laidKinds := [.data, .data, .data], laidTests := true, laidLooks := .later }
def MomentWordsUptoCardSaid : Prop := Claim7.holds Tryd.pinned (.plain (OpenSpec.upto momentWordsSpec)) momentWordsUptoCard

/-- THE SECOND FORM's CARD OF 'polyglotlaw11.NegoChains'. -/
def negoChainsUptoCard : Claim7 := { stood := { row := negoChainsUptoRow, standIns := [], harness := (true, "a61f2999c33fb557915a4b08f90c97fe4f1b0adb4f2a1bd93004f23caea866cf"), looks := false }, kinds := [], alts := [], laidByText := true, laidKinds := [.data, .pinned], laidTests := true, laidLooks := .later }
def NegoChainsUptoCardSaid : Prop := Claim7.holds Tryd.pinned (.plain (OpenSpec.upto negoChainsSpec)) negoChainsUptoCard

/-- THE SECOND FORM's CARD OF 'polyglotlaw11.NegoOnes'. -/
def negoOnesUptoCard : Claim7 := { stood := { row := negoOnesUptoRow, standIns := [], harness := (true, "a61f2999c33fb557915a4b08f90c97fe4f1b0adb4f2a1bd93004f23caea866cf"), looks := false }, kinds := [], alts := [], laidByText := true, laidKinds := [.data, .pinned], laidTests := true, laidLooks := .later }
def NegoOnesUptoCardSaid : Prop := Claim7.holds Tryd.pinned (.plain (OpenSpec.upto negoOnesSpec)) negoOnesUptoCard

/-- THE SECOND FORM's CARD OF 'polyglotlaw11.NegoFirst'. -/
def negoFirstUptoCard : Claim7 := { stood := { row := negoFirstUptoRow, standIns := [], harness := (true, "a61f2999c33fb557915a4b08f90c97fe4f1b0adb4f2a1bd93004f23caea866cf"), looks := false }, kinds := [], alts := [], laidByText := true, laidKinds := [.data, .pinned], laidTests := true, laidLooks := .later }
def NegoFirstUptoCardSaid : Prop := Claim7.holds Tryd.pinned (.plain (OpenSpec.upto negoFirstSpec)) negoFirstUptoCard
end Rows
end Go.Proofs.YtpedajhcfkohlaaDoor
