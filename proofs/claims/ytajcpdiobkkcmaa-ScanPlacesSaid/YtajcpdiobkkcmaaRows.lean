/-
  No cell of these rows narrows 'for every input' (looked for: loops, veiled, ifaces, maps, wideKeys, modest, calm, conditions, laid).
  DERIVED. THE GIVEN ROWS OF THIS SEAT. 7 by the template 'for every input the law returns true; each argument reads behind the call as it read before'; 0 by the template 'total and deterministic' (their statements: YtajcpdiobkkcmaaTotals.lean).
  GIVEN WITH THE SEED: the statements are not yours to turn. If you find one false, say at which input.
  Laid BY PROGRAM, IN A SANDBOX (cutbox-rows.mjs): the forced cells as the released guide's own fill.sh prints them over the translation 7a3e8b3bdf5be469… (all of the seat's roots in one cut). By AI agents, Wed Nov 11 2026. No macro, syntax, notation, axiom, sorry.
-/
import Derived.Test.YtajcpdiobkkcmaaChecked
import GoSem.Claim
import GoSem.ClaimJoined
import GoSem.ClaimMapViews
import Derived.JoinedTies
import Derived.KernelRfl
namespace Go.Proofs.Ytajcpdiobkkcmaa
/- THE CELL 'sum', in the pinned program and in every row, IS THE sha256 OF THE DUMP (.gsa) THAT YtajcpdiobkkcmaaProg.lean LOADS. Nothing in Lean hashes anything: it is a label: what it is worth is what the hold of that sum in a sandbox is worth. -/
noncomputable def Try.pinned : Pinned := { name := "ytajcpdiobkkcmaa", sum := "7a3e8b3bdf5be46966b76047291dcaddc786acc883f1af5ccddd829fe9f7382f", checked := Try.checked }
namespace Rows
def none {H : Type} : Left H := { results := [], args := [] }

/-- 'polyglotlaw05.DateFrom': WHATEVER THE INPUT: true; the input reads as it did. -/
def dateFromSpec : ChangeSpec := { name := "dateFrom", fn := fun _ => fun
  | [d] => { results := [.lit (.bool true)], args := [d] }
  | _ => none }
def dateFromRow : OpenClaim := { program := "ytajcpdiobkkcmaa", sum := "7a3e8b3bdf5be46966b76047291dcaddc786acc883f1af5ccddd829fe9f7382f", func := "polyglot/polyglotlaw05.DateFrom", spec := "dateFrom", apart := false }
def DateFromSaid : Prop := dateFromRow.holds Try.pinned (OpenSpec.ofChange dateFromSpec)

/-- ITS FALSE NEIGHBOUR: 'it returns false'. Refute it at one input. -/
def dateFromWrong : ChangeSpec := { name := "dateFrom", fn := fun _ => fun
  | [d] => { results := [.lit (.bool false)], args := [d] }
  | _ => none }
def DateFromWrongFalsely : Prop := dateFromRow.holds Try.pinned (OpenSpec.ofChange dateFromWrong)

/-- 'polyglotlaw05.DateTo': WHATEVER THE INPUT: true; the input reads as it did. -/
def dateToSpec : ChangeSpec := { name := "dateTo", fn := fun _ => fun
  | [d1, d2, d3, d4] => { results := [.lit (.bool true)], args := [d1, d2, d3, d4] }
  | _ => none }
def dateToRow : OpenClaim := { program := "ytajcpdiobkkcmaa", sum := "7a3e8b3bdf5be46966b76047291dcaddc786acc883f1af5ccddd829fe9f7382f", func := "polyglot/polyglotlaw05.DateTo", spec := "dateTo", apart := false }
def DateToSaid : Prop := dateToRow.holds Try.pinned (OpenSpec.ofChange dateToSpec)

/-- ITS FALSE NEIGHBOUR: 'it returns false'. Refute it at one input. -/
def dateToWrong : ChangeSpec := { name := "dateTo", fn := fun _ => fun
  | [d1, d2, d3, d4] => { results := [.lit (.bool false)], args := [d1, d2, d3, d4] }
  | _ => none }
def DateToWrongFalsely : Prop := dateToRow.holds Try.pinned (OpenSpec.ofChange dateToWrong)

/-- 'polyglotlaw05.DateNext': WHATEVER THE INPUT: true; the input reads as it did. -/
def dateNextSpec : ChangeSpec := { name := "dateNext", fn := fun _ => fun
  | [d] => { results := [.lit (.bool true)], args := [d] }
  | _ => none }
def dateNextRow : OpenClaim := { program := "ytajcpdiobkkcmaa", sum := "7a3e8b3bdf5be46966b76047291dcaddc786acc883f1af5ccddd829fe9f7382f", func := "polyglot/polyglotlaw05.DateNext", spec := "dateNext", apart := false }
def DateNextSaid : Prop := dateNextRow.holds Try.pinned (OpenSpec.ofChange dateNextSpec)

/-- ITS FALSE NEIGHBOUR: 'it returns false'. Refute it at one input. -/
def dateNextWrong : ChangeSpec := { name := "dateNext", fn := fun _ => fun
  | [d] => { results := [.lit (.bool false)], args := [d] }
  | _ => none }
def DateNextWrongFalsely : Prop := dateNextRow.holds Try.pinned (OpenSpec.ofChange dateNextWrong)

/-- 'polyglotlaw05.DateDays': WHATEVER THE INPUT: true; the input reads as it did. -/
def dateDaysSpec : ChangeSpec := { name := "dateDays", fn := fun _ => fun
  | [d1, d2] => { results := [.lit (.bool true)], args := [d1, d2] }
  | _ => none }
def dateDaysRow : OpenClaim := { program := "ytajcpdiobkkcmaa", sum := "7a3e8b3bdf5be46966b76047291dcaddc786acc883f1af5ccddd829fe9f7382f", func := "polyglot/polyglotlaw05.DateDays", spec := "dateDays", apart := false }
def DateDaysSaid : Prop := dateDaysRow.holds Try.pinned (OpenSpec.ofChange dateDaysSpec)

/-- ITS FALSE NEIGHBOUR: 'it returns false'. Refute it at one input. -/
def dateDaysWrong : ChangeSpec := { name := "dateDays", fn := fun _ => fun
  | [d1, d2] => { results := [.lit (.bool false)], args := [d1, d2] }
  | _ => none }
def DateDaysWrongFalsely : Prop := dateDaysRow.holds Try.pinned (OpenSpec.ofChange dateDaysWrong)

/-- 'polyglotlaw06.ScanLines': WHATEVER THE INPUT: true; the input reads as it did. -/
def scanLinesSpec : ChangeSpec := { name := "scanLines", fn := fun _ => fun
  | [d1, d2] => { results := [.lit (.bool true)], args := [d1, d2] }
  | _ => none }
def scanLinesRow : OpenClaim := { program := "ytajcpdiobkkcmaa", sum := "7a3e8b3bdf5be46966b76047291dcaddc786acc883f1af5ccddd829fe9f7382f", func := "polyglot/polyglotlaw06.ScanLines", spec := "scanLines", inPlace := ["internal/bytealg.IndexByteString"], unfollowed := true, recurses := true, apart := false }
def ScanLinesSaid : Prop := scanLinesRow.holds Try.pinned (OpenSpec.ofChange scanLinesSpec)

/-- ITS FALSE NEIGHBOUR: 'it returns false'. Refute it at one input. -/
def scanLinesWrong : ChangeSpec := { name := "scanLines", fn := fun _ => fun
  | [d1, d2] => { results := [.lit (.bool false)], args := [d1, d2] }
  | _ => none }
def ScanLinesWrongFalsely : Prop := scanLinesRow.holds Try.pinned (OpenSpec.ofChange scanLinesWrong)

/-- 'polyglotlaw06.ScanPlaces': WHATEVER THE INPUT: true; the input reads as it did. -/
def scanPlacesSpec : ChangeSpec := { name := "scanPlaces", fn := fun _ => fun
  | [d1, d2] => { results := [.lit (.bool true)], args := [d1, d2] }
  | _ => none }
def scanPlacesRow : OpenClaim := { program := "ytajcpdiobkkcmaa", sum := "7a3e8b3bdf5be46966b76047291dcaddc786acc883f1af5ccddd829fe9f7382f", func := "polyglot/polyglotlaw06.ScanPlaces", spec := "scanPlaces", inPlace := ["internal/bytealg.IndexByteString"], unfollowed := true, recurses := true, apart := false }
def ScanPlacesSaid : Prop := scanPlacesRow.holds Try.pinned (OpenSpec.ofChange scanPlacesSpec)

/-- ITS FALSE NEIGHBOUR: 'it returns false'. Refute it at one input. -/
def scanPlacesWrong : ChangeSpec := { name := "scanPlaces", fn := fun _ => fun
  | [d1, d2] => { results := [.lit (.bool false)], args := [d1, d2] }
  | _ => none }
def ScanPlacesWrongFalsely : Prop := scanPlacesRow.holds Try.pinned (OpenSpec.ofChange scanPlacesWrong)

/-- 'polyglotlaw06.ScanNames': WHATEVER THE INPUT: true; the input reads as it did. -/
def scanNamesSpec : ChangeSpec := { name := "scanNames", fn := fun _ => fun
  | [d] => { results := [.lit (.bool true)], args := [d] }
  | _ => none }
def scanNamesRow : OpenClaim := { program := "ytajcpdiobkkcmaa", sum := "7a3e8b3bdf5be46966b76047291dcaddc786acc883f1af5ccddd829fe9f7382f", func := "polyglot/polyglotlaw06.ScanNames", spec := "scanNames", inPlace := ["internal/bytealg.IndexByteString"], unfollowed := true, recurses := true, apart := false }
def ScanNamesSaid : Prop := scanNamesRow.holds Try.pinned (OpenSpec.ofChange scanNamesSpec)

/-- ITS FALSE NEIGHBOUR: 'it returns false'. Refute it at one input. -/
def scanNamesWrong : ChangeSpec := { name := "scanNames", fn := fun _ => fun
  | [d] => { results := [.lit (.bool false)], args := [d] }
  | _ => none }
def ScanNamesWrongFalsely : Prop := scanNamesRow.holds Try.pinned (OpenSpec.ofChange scanNamesWrong)

/- THE SECOND FORM. 'bulk': how many values and letters a reading holds, each counted each time it is reached (what is shared counts as often as it is met; a slice's spare places count too). A statement '..UptoSaid' is the law's where the arguments, and the package variables that the reading takes, are together of bulk at most 1048576: NARROWER than '..Said'. Prove '..Said' where nothing that the law and all that it calls make is longer than what came in: it says more and counts as full. Else prove '..UptoSaid'. A law counts once. -/
mutual
def uptoBulk {H : Type} : DataW H → Nat
  | .lit (.string bytes) => bytes.length + 1
  | .lit _ => 1
  | .nil => 1
  | .ptr d => uptoBulk d + 1
  | .slice elems spare => uptoBulkAll elems + uptoBulkAll spare + 1
  | .agg parts => uptoBulkAll parts + 1
  | .iface _ d => uptoBulk d + 1
  | .map entries => uptoBulkEntries entries + 1
  | .held _ => 1
def uptoBulkAll {H : Type} : List (DataW H) → Nat
  | [] => 0
  | d :: r => uptoBulk d + uptoBulkAll r
def uptoBulkEntries {H : Type} : List (Lit × DataW H) → Nat
  | [] => 0
  | x :: r => uptoBulkEntry x + uptoBulkEntries r
def uptoBulkEntry {H : Type} : Lit × DataW H → Nat
  | (.string bytes, d) => bytes.length + uptoBulk d + 1
  | (_, d) => uptoBulk d + 1
 end
def uptoSmall : (H : Type) → List (DataW H) → Bool := fun _ ds => decide (uptoBulkAll ds ≤ 1048576)
def OpenSpec.upto (s : _root_.Go.ChangeSpec) : _root_.Go.OpenSpec := { _root_.Go.OpenSpec.ofChange s with cond := some uptoSmall }

/-- 'polyglotlaw05.DateFrom', WHERE WHAT IT READS IS OF BULK AT MOST 1048576: true; the input reads as it did. -/
def dateFromUptoRow : OpenClaim := { program := "ytajcpdiobkkcmaa", sum := "7a3e8b3bdf5be46966b76047291dcaddc786acc883f1af5ccddd829fe9f7382f", func := "polyglot/polyglotlaw05.DateFrom", spec := "dateFrom", apart := false, narrowed := true }
def DateFromUptoSaid : Prop := dateFromUptoRow.holds Try.pinned (OpenSpec.upto dateFromSpec)

/-- 'polyglotlaw05.DateTo', WHERE WHAT IT READS IS OF BULK AT MOST 1048576: true; the input reads as it did. -/
def dateToUptoRow : OpenClaim := { program := "ytajcpdiobkkcmaa", sum := "7a3e8b3bdf5be46966b76047291dcaddc786acc883f1af5ccddd829fe9f7382f", func := "polyglot/polyglotlaw05.DateTo", spec := "dateTo", apart := false, narrowed := true }
def DateToUptoSaid : Prop := dateToUptoRow.holds Try.pinned (OpenSpec.upto dateToSpec)

/-- 'polyglotlaw05.DateNext', WHERE WHAT IT READS IS OF BULK AT MOST 1048576: true; the input reads as it did. -/
def dateNextUptoRow : OpenClaim := { program := "ytajcpdiobkkcmaa", sum := "7a3e8b3bdf5be46966b76047291dcaddc786acc883f1af5ccddd829fe9f7382f", func := "polyglot/polyglotlaw05.DateNext", spec := "dateNext", apart := false, narrowed := true }
def DateNextUptoSaid : Prop := dateNextUptoRow.holds Try.pinned (OpenSpec.upto dateNextSpec)

/-- 'polyglotlaw05.DateDays', WHERE WHAT IT READS IS OF BULK AT MOST 1048576: true; the input reads as it did. -/
def dateDaysUptoRow : OpenClaim := { program := "ytajcpdiobkkcmaa", sum := "7a3e8b3bdf5be46966b76047291dcaddc786acc883f1af5ccddd829fe9f7382f", func := "polyglot/polyglotlaw05.DateDays", spec := "dateDays", apart := false, narrowed := true }
def DateDaysUptoSaid : Prop := dateDaysUptoRow.holds Try.pinned (OpenSpec.upto dateDaysSpec)

/-- 'polyglotlaw06.ScanLines', WHERE WHAT IT READS IS OF BULK AT MOST 1048576: true; the input reads as it did. -/
def scanLinesUptoRow : OpenClaim := { program := "ytajcpdiobkkcmaa", sum := "7a3e8b3bdf5be46966b76047291dcaddc786acc883f1af5ccddd829fe9f7382f", func := "polyglot/polyglotlaw06.ScanLines", spec := "scanLines", inPlace := ["internal/bytealg.IndexByteString"], unfollowed := true, recurses := true, apart := false, narrowed := true }
def ScanLinesUptoSaid : Prop := scanLinesUptoRow.holds Try.pinned (OpenSpec.upto scanLinesSpec)

/-- 'polyglotlaw06.ScanPlaces', WHERE WHAT IT READS IS OF BULK AT MOST 1048576: true; the input reads as it did. -/
def scanPlacesUptoRow : OpenClaim := { program := "ytajcpdiobkkcmaa", sum := "7a3e8b3bdf5be46966b76047291dcaddc786acc883f1af5ccddd829fe9f7382f", func := "polyglot/polyglotlaw06.ScanPlaces", spec := "scanPlaces", inPlace := ["internal/bytealg.IndexByteString"], unfollowed := true, recurses := true, apart := false, narrowed := true }
def ScanPlacesUptoSaid : Prop := scanPlacesUptoRow.holds Try.pinned (OpenSpec.upto scanPlacesSpec)

/-- 'polyglotlaw06.ScanNames', WHERE WHAT IT READS IS OF BULK AT MOST 1048576: true; the input reads as it did. -/
def scanNamesUptoRow : OpenClaim := { program := "ytajcpdiobkkcmaa", sum := "7a3e8b3bdf5be46966b76047291dcaddc786acc883f1af5ccddd829fe9f7382f", func := "polyglot/polyglotlaw06.ScanNames", spec := "scanNames", inPlace := ["internal/bytealg.IndexByteString"], unfollowed := true, recurses := true, apart := false, narrowed := true }
def ScanNamesUptoSaid : Prop := scanNamesUptoRow.holds Try.pinned (OpenSpec.upto scanNamesSpec)

end Rows
end Go.Proofs.Ytajcpdiobkkcmaa
