/-
  NARROWER THAN 'FOR EVERY INPUT', by the rows' own cells (each row's printed sentence says how): TagParses: laid · TagFits: laid · TagLess: laid · TagMore: laid · MomentFormats: laid · MomentDay: laid · MomentParts: laid · MomentWords: laid · NegoChains: laid · NegoOnes: laid · NegoFirst: laid.
  DERIVED. THE GIVEN ROWS OF THIS SEAT. 11 by the template 'for every input the law returns true; each argument reads behind the call as it read before'; 0 by the template 'total and deterministic' (their statements: YtpedajhcfkohlaaDoorTotals.lean).
  GIVEN WITH THE SEED: the statements are not yours to turn. If you find one false, say at which input.
  Laid BY PROGRAM, IN A SANDBOX (cutbox-rows.mjs): the forced cells as the released guide's own fill.sh prints them over the translation 4733201981347d9c… (all of the seat's roots in one cut). By AI agents, Wed Nov 11 2026. No macro, syntax, notation, axiom, sorry.
-/
import Derived.Test.YtpedajhcfkohlaaDoorChecked
import GoSem.PinnedTables
import GoSem.Claim
import GoSem.ClaimJoined
import GoSem.ClaimMapViews
import Derived.JoinedTies
import Derived.KernelRfl
namespace Go.Proofs.YtpedajhcfkohlaaDoor
/- THE CELL 'sum', in the pinned program and in every row, IS THE sha256 OF THE DUMP (.gsa) THAT YtpedajhcfkohlaaDoorProg.lean LOADS. Nothing in Lean hashes anything: it is a label: what it is worth is what the hold of that sum in a sandbox is worth. -/
noncomputable def Tryd.pinned : Pinned := { name := "ytpedajhcfkohlaadoor", sum := "4733201981347d9c2ef75b7a23cf839640326a42d33d5b1b557e7ebf4c37d25b", checked := Tryd.checked }
namespace Rows
def none {H : Type} : Left H := { results := [], args := [] }

/- WHAT THE LISTED PACKAGE-LEVEL VARIABLES READ AS WHEN THE CALL BEGINS. Each datum BY PROGRAM (the guide's laid-datum.mjs) off the statement by which the dump's own 'gosem.cut.vars' lays the variable. In a bare row this is a premise. The card (YtpedajhcfkohlaaDoorCards.lean) ties it to the program's text. -/
def laid_unicode_utf8_acceptRanges {H : Type} : DataW H := .agg [.agg [.lit (.int .u8 128), .lit (.int .u8 191)], .agg [.lit (.int .u8 160), .lit (.int .u8 191)], .agg [.lit (.int .u8 128), .lit (.int .u8 159)], .agg [.lit (.int .u8 144), .lit (.int .u8 191)], .agg [.lit (.int .u8 128), .lit (.int .u8 143)], .agg [.lit (.int .u8 0), .lit (.int .u8 0)], .agg [.lit (.int .u8 0), .lit (.int .u8 0)], .agg [.lit (.int .u8 0), .lit (.int .u8 0)], .agg [.lit (.int .u8 0), .lit (.int .u8 0)], .agg [.lit (.int .u8 0), .lit (.int .u8 0)], .agg [.lit (.int .u8 0), .lit (.int .u8 0)], .agg [.lit (.int .u8 0), .lit (.int .u8 0)], .agg [.lit (.int .u8 0), .lit (.int .u8 0)], .agg [.lit (.int .u8 0), .lit (.int .u8 0)], .agg [.lit (.int .u8 0), .lit (.int .u8 0)], .agg [.lit (.int .u8 0), .lit (.int .u8 0)]]
/-- One of Go's own tables, pinned by name: the form's constant. -/
def laid_unicode_utf8_first : DataW Unit := Go.Pinned.utf8First
def laid_math_bits_deBruijn32tab {H : Type} : DataW H := .agg [.lit (.int .u8 0), .lit (.int .u8 1), .lit (.int .u8 28), .lit (.int .u8 2), .lit (.int .u8 29), .lit (.int .u8 14), .lit (.int .u8 24), .lit (.int .u8 3), .lit (.int .u8 30), .lit (.int .u8 22), .lit (.int .u8 20), .lit (.int .u8 15), .lit (.int .u8 25), .lit (.int .u8 17), .lit (.int .u8 4), .lit (.int .u8 8), .lit (.int .u8 31), .lit (.int .u8 27), .lit (.int .u8 13), .lit (.int .u8 23), .lit (.int .u8 21), .lit (.int .u8 19), .lit (.int .u8 16), .lit (.int .u8 7), .lit (.int .u8 26), .lit (.int .u8 12), .lit (.int .u8 18), .lit (.int .u8 6), .lit (.int .u8 11), .lit (.int .u8 5), .lit (.int .u8 10), .lit (.int .u8 9)]
def laid_math_bits_deBruijn64tab {H : Type} : DataW H := .agg [.lit (.int .u8 0), .lit (.int .u8 1), .lit (.int .u8 56), .lit (.int .u8 2), .lit (.int .u8 57), .lit (.int .u8 49), .lit (.int .u8 28), .lit (.int .u8 3), .lit (.int .u8 61), .lit (.int .u8 58), .lit (.int .u8 42), .lit (.int .u8 50), .lit (.int .u8 38), .lit (.int .u8 29), .lit (.int .u8 17), .lit (.int .u8 4), .lit (.int .u8 62), .lit (.int .u8 47), .lit (.int .u8 59), .lit (.int .u8 36), .lit (.int .u8 45), .lit (.int .u8 43), .lit (.int .u8 51), .lit (.int .u8 22), .lit (.int .u8 53), .lit (.int .u8 39), .lit (.int .u8 33), .lit (.int .u8 30), .lit (.int .u8 24), .lit (.int .u8 18), .lit (.int .u8 12), .lit (.int .u8 5), .lit (.int .u8 63), .lit (.int .u8 55), .lit (.int .u8 48), .lit (.int .u8 27), .lit (.int .u8 60), .lit (.int .u8 41), .lit (.int .u8 37), .lit (.int .u8 16), .lit (.int .u8 46), .lit (.int .u8 35), .lit (.int .u8 44), .lit (.int .u8 21), .lit (.int .u8 52), .lit (.int .u8 32), .lit (.int .u8 23), .lit (.int .u8 11), .lit (.int .u8 54), .lit (.int .u8 26), .lit (.int .u8 40), .lit (.int .u8 15), .lit (.int .u8 34), .lit (.int .u8 20), .lit (.int .u8 31), .lit (.int .u8 10), .lit (.int .u8 25), .lit (.int .u8 14), .lit (.int .u8 19), .lit (.int .u8 9), .lit (.int .u8 13), .lit (.int .u8 8), .lit (.int .u8 7), .lit (.int .u8 6)]
def laid_internal_strconv_uint64pow10 {H : Type} : DataW H := .agg [.lit (.int .u64 1), .lit (.int .u64 10), .lit (.int .u64 100), .lit (.int .u64 1000), .lit (.int .u64 10000), .lit (.int .u64 100000), .lit (.int .u64 1000000), .lit (.int .u64 10000000), .lit (.int .u64 100000000), .lit (.int .u64 1000000000), .lit (.int .u64 10000000000), .lit (.int .u64 100000000000), .lit (.int .u64 1000000000000), .lit (.int .u64 10000000000000), .lit (.int .u64 100000000000000), .lit (.int .u64 1000000000000000), .lit (.int .u64 10000000000000000), .lit (.int .u64 100000000000000000), .lit (.int .u64 1000000000000000000), .lit (.int .u64 10000000000000000000)]

/-- 'polyglotlaw03.TagParses': WHATEVER THE INPUT: true; the input reads as it did. -/
def tagParsesSpec : ChangeSpec := { name := "tagParses", fn := fun _ => fun
  | [d] => { results := [.lit (.bool true)], args := [d] }
  | _ => none }
def tagParsesRow : OpenClaim := { program := "ytpedajhcfkohlaadoor", sum := "4733201981347d9c2ef75b7a23cf839640326a42d33d5b1b557e7ebf4c37d25b", func := "polyglot/polyglotlaw03.TagParses", spec := "tagParses", inPlace := ["internal/bytealg.CountString", "internal/bytealg.IndexByteString", "internal/bytealg.IndexString", "internal/abi.NoEscape", "internal/bytealg.MakeNoZero"], unfollowed := true, recurses := true, named := ["unicode/utf8.first", "unicode/utf8.acceptRanges", "internal/bytealg.MaxLen"], apart := false, laid := [("unicode/utf8.acceptRanges", laid_unicode_utf8_acceptRanges), ("unicode/utf8.first", laid_unicode_utf8_first)] }
def TagParsesSaid : Prop := tagParsesRow.holds Tryd.pinned (OpenSpec.ofChange tagParsesSpec)

/-- ITS FALSE NEIGHBOUR: 'it returns false'. Refute it at one input. -/
def tagParsesWrong : ChangeSpec := { name := "tagParses", fn := fun _ => fun
  | [d] => { results := [.lit (.bool false)], args := [d] }
  | _ => none }
def TagParsesWrongFalsely : Prop := tagParsesRow.holds Tryd.pinned (OpenSpec.ofChange tagParsesWrong)

/-- 'polyglotlaw03.TagFits': WHATEVER THE INPUT: true; the input reads as it did. -/
def tagFitsSpec : ChangeSpec := { name := "tagFits", fn := fun _ => fun
  | [d1, d2] => { results := [.lit (.bool true)], args := [d1, d2] }
  | _ => none }
def tagFitsRow : OpenClaim := { program := "ytpedajhcfkohlaadoor", sum := "4733201981347d9c2ef75b7a23cf839640326a42d33d5b1b557e7ebf4c37d25b", func := "polyglot/polyglotlaw03.TagFits", spec := "tagFits", inPlace := ["internal/bytealg.CountString", "internal/bytealg.IndexByteString", "internal/bytealg.IndexString", "internal/abi.NoEscape", "internal/bytealg.MakeNoZero"], unfollowed := true, recurses := true, named := ["unicode/utf8.first", "unicode/utf8.acceptRanges", "internal/bytealg.MaxLen"], apart := false, laid := [("unicode/utf8.acceptRanges", laid_unicode_utf8_acceptRanges), ("unicode/utf8.first", laid_unicode_utf8_first)] }
def TagFitsSaid : Prop := tagFitsRow.holds Tryd.pinned (OpenSpec.ofChange tagFitsSpec)

/-- ITS FALSE NEIGHBOUR: 'it returns false'. Refute it at one input. -/
def tagFitsWrong : ChangeSpec := { name := "tagFits", fn := fun _ => fun
  | [d1, d2] => { results := [.lit (.bool false)], args := [d1, d2] }
  | _ => none }
def TagFitsWrongFalsely : Prop := tagFitsRow.holds Tryd.pinned (OpenSpec.ofChange tagFitsWrong)

/-- 'polyglotlaw03.TagLess': WHATEVER THE INPUT: true; the input reads as it did. -/
def tagLessSpec : ChangeSpec := { name := "tagLess", fn := fun _ => fun
  | [d] => { results := [.lit (.bool true)], args := [d] }
  | _ => none }
def tagLessRow : OpenClaim := { program := "ytpedajhcfkohlaadoor", sum := "4733201981347d9c2ef75b7a23cf839640326a42d33d5b1b557e7ebf4c37d25b", func := "polyglot/polyglotlaw03.TagLess", spec := "tagLess", inPlace := ["internal/bytealg.CountString", "internal/bytealg.IndexByteString", "internal/bytealg.IndexString", "internal/abi.NoEscape", "internal/bytealg.MakeNoZero"], unfollowed := true, recurses := true, named := ["unicode/utf8.first", "unicode/utf8.acceptRanges", "internal/bytealg.MaxLen"], apart := false, laid := [("unicode/utf8.acceptRanges", laid_unicode_utf8_acceptRanges), ("unicode/utf8.first", laid_unicode_utf8_first)] }
def TagLessSaid : Prop := tagLessRow.holds Tryd.pinned (OpenSpec.ofChange tagLessSpec)

/-- ITS FALSE NEIGHBOUR: 'it returns false'. Refute it at one input. -/
def tagLessWrong : ChangeSpec := { name := "tagLess", fn := fun _ => fun
  | [d] => { results := [.lit (.bool false)], args := [d] }
  | _ => none }
def TagLessWrongFalsely : Prop := tagLessRow.holds Tryd.pinned (OpenSpec.ofChange tagLessWrong)

/-- 'polyglotlaw03.TagMore': WHATEVER THE INPUT: true; the input reads as it did. -/
def tagMoreSpec : ChangeSpec := { name := "tagMore", fn := fun _ => fun
  | [d] => { results := [.lit (.bool true)], args := [d] }
  | _ => none }
def tagMoreRow : OpenClaim := { program := "ytpedajhcfkohlaadoor", sum := "4733201981347d9c2ef75b7a23cf839640326a42d33d5b1b557e7ebf4c37d25b", func := "polyglot/polyglotlaw03.TagMore", spec := "tagMore", inPlace := ["internal/bytealg.CountString", "internal/bytealg.IndexByteString", "internal/bytealg.IndexString", "internal/abi.NoEscape", "internal/bytealg.MakeNoZero"], unfollowed := true, recurses := true, named := ["unicode/utf8.first", "unicode/utf8.acceptRanges", "internal/bytealg.MaxLen"], apart := false, laid := [("unicode/utf8.acceptRanges", laid_unicode_utf8_acceptRanges), ("unicode/utf8.first", laid_unicode_utf8_first)] }
def TagMoreSaid : Prop := tagMoreRow.holds Tryd.pinned (OpenSpec.ofChange tagMoreSpec)

/-- ITS FALSE NEIGHBOUR: 'it returns false'. Refute it at one input. -/
def tagMoreWrong : ChangeSpec := { name := "tagMore", fn := fun _ => fun
  | [d] => { results := [.lit (.bool false)], args := [d] }
  | _ => none }
def TagMoreWrongFalsely : Prop := tagMoreRow.holds Tryd.pinned (OpenSpec.ofChange tagMoreWrong)

/-- 'polyglotlaw13.MomentFormats': WHATEVER THE INPUT: true; the input reads as it did. -/
def momentFormatsSpec : ChangeSpec := { name := "momentFormats", fn := fun _ => fun
  | [d1, d2, d3] => { results := [.lit (.bool true)], args := [d1, d2, d3] }
  | _ => none }
def momentFormatsRow : OpenClaim := { program := "ytpedajhcfkohlaadoor", sum := "4733201981347d9c2ef75b7a23cf839640326a42d33d5b1b557e7ebf4c37d25b", func := "polyglot/polyglotlaw13.MomentFormats", spec := "momentFormats", inPlace := ["internal/abi.NoEscape", "internal/bytealg.MakeNoZero"], recurses := true, named := ["internal/strconv.uint64pow10", "math/bits.deBruijn32tab", "math/bits.deBruijn64tab"], apart := false, laid := [("math/bits.deBruijn32tab", laid_math_bits_deBruijn32tab), ("math/bits.deBruijn64tab", laid_math_bits_deBruijn64tab), ("internal/strconv.uint64pow10", laid_internal_strconv_uint64pow10)] }
def MomentFormatsSaid : Prop := momentFormatsRow.holds Tryd.pinned (OpenSpec.ofChange momentFormatsSpec)

/-- ITS FALSE NEIGHBOUR: 'it returns false'. Refute it at one input. -/
def momentFormatsWrong : ChangeSpec := { name := "momentFormats", fn := fun _ => fun
  | [d1, d2, d3] => { results := [.lit (.bool false)], args := [d1, d2, d3] }
  | _ => none }
def MomentFormatsWrongFalsely : Prop := momentFormatsRow.holds Tryd.pinned (OpenSpec.ofChange momentFormatsWrong)

/-- 'polyglotlaw13.MomentDay': WHATEVER THE INPUT: true; the input reads as it did. -/
def momentDaySpec : ChangeSpec := { name := "momentDay", fn := fun _ => fun
  | [d1, d2] => { results := [.lit (.bool true)], args := [d1, d2] }
  | _ => none }
def momentDayRow : OpenClaim := { program := "ytpedajhcfkohlaadoor", sum := "4733201981347d9c2ef75b7a23cf839640326a42d33d5b1b557e7ebf4c37d25b", func := "polyglot/polyglotlaw13.MomentDay", spec := "momentDay", inPlace := ["internal/abi.NoEscape", "internal/bytealg.MakeNoZero"], recurses := true, named := ["internal/strconv.uint64pow10", "math/bits.deBruijn32tab", "math/bits.deBruijn64tab"], apart := false, laid := [("math/bits.deBruijn32tab", laid_math_bits_deBruijn32tab), ("math/bits.deBruijn64tab", laid_math_bits_deBruijn64tab), ("internal/strconv.uint64pow10", laid_internal_strconv_uint64pow10)] }
def MomentDaySaid : Prop := momentDayRow.holds Tryd.pinned (OpenSpec.ofChange momentDaySpec)

/-- ITS FALSE NEIGHBOUR: 'it returns false'. Refute it at one input. -/
def momentDayWrong : ChangeSpec := { name := "momentDay", fn := fun _ => fun
  | [d1, d2] => { results := [.lit (.bool false)], args := [d1, d2] }
  | _ => none }
def MomentDayWrongFalsely : Prop := momentDayRow.holds Tryd.pinned (OpenSpec.ofChange momentDayWrong)

/-- 'polyglotlaw13.MomentParts': WHATEVER THE INPUT: true; the input reads as it did. -/
def momentPartsSpec : ChangeSpec := { name := "momentParts", fn := fun _ => fun
  | [d1, d2, d3] => { results := [.lit (.bool true)], args := [d1, d2, d3] }
  | _ => none }
def momentPartsRow : OpenClaim := { program := "ytpedajhcfkohlaadoor", sum := "4733201981347d9c2ef75b7a23cf839640326a42d33d5b1b557e7ebf4c37d25b", func := "polyglot/polyglotlaw13.MomentParts", spec := "momentParts", inPlace := ["internal/abi.NoEscape", "internal/bytealg.MakeNoZero"], named := ["internal/strconv.uint64pow10", "math/bits.deBruijn32tab", "math/bits.deBruijn64tab"], apart := false, laid := [("math/bits.deBruijn32tab", laid_math_bits_deBruijn32tab), ("math/bits.deBruijn64tab", laid_math_bits_deBruijn64tab), ("internal/strconv.uint64pow10", laid_internal_strconv_uint64pow10)] }
def MomentPartsSaid : Prop := momentPartsRow.holds Tryd.pinned (OpenSpec.ofChange momentPartsSpec)

/-- ITS FALSE NEIGHBOUR: 'it returns false'. Refute it at one input. -/
def momentPartsWrong : ChangeSpec := { name := "momentParts", fn := fun _ => fun
  | [d1, d2, d3] => { results := [.lit (.bool false)], args := [d1, d2, d3] }
  | _ => none }
def MomentPartsWrongFalsely : Prop := momentPartsRow.holds Tryd.pinned (OpenSpec.ofChange momentPartsWrong)

/-- 'polyglotlaw13.MomentWords': WHATEVER THE INPUT: true; the input reads as it did. -/
def momentWordsSpec : ChangeSpec := { name := "momentWords", fn := fun _ => fun
  | [d] => { results := [.lit (.bool true)], args := [d] }
  | _ => none }
def momentWordsRow : OpenClaim := { program := "ytpedajhcfkohlaadoor", sum := "4733201981347d9c2ef75b7a23cf839640326a42d33d5b1b557e7ebf4c37d25b", func := "polyglot/polyglotlaw13.MomentWords", spec := "momentWords", inPlace := ["internal/abi.NoEscape", "internal/bytealg.MakeNoZero"], named := ["internal/strconv.uint64pow10", "math/bits.deBruijn32tab", "math/bits.deBruijn64tab"], apart := false, laid := [("math/bits.deBruijn32tab", laid_math_bits_deBruijn32tab), ("math/bits.deBruijn64tab", laid_math_bits_deBruijn64tab), ("internal/strconv.uint64pow10", laid_internal_strconv_uint64pow10)] }
def MomentWordsSaid : Prop := momentWordsRow.holds Tryd.pinned (OpenSpec.ofChange momentWordsSpec)

/-- ITS FALSE NEIGHBOUR: 'it returns false'. Refute it at one input. -/
def momentWordsWrong : ChangeSpec := { name := "momentWords", fn := fun _ => fun
  | [d] => { results := [.lit (.bool false)], args := [d] }
  | _ => none }
def MomentWordsWrongFalsely : Prop := momentWordsRow.holds Tryd.pinned (OpenSpec.ofChange momentWordsWrong)

/-- 'polyglotlaw11.NegoChains': WHATEVER THE INPUT: true; the input reads as it did. -/
def negoChainsSpec : ChangeSpec := { name := "negoChains", fn := fun _ => fun
  | [d1, d2, d3] => { results := [.lit (.bool true)], args := [d1, d2, d3] }
  | _ => none }
def negoChainsRow : OpenClaim := { program := "ytpedajhcfkohlaadoor", sum := "4733201981347d9c2ef75b7a23cf839640326a42d33d5b1b557e7ebf4c37d25b", func := "polyglot/polyglotlaw11.NegoChains", spec := "negoChains", inPlace := ["internal/bytealg.CountString", "internal/bytealg.IndexByteString", "internal/bytealg.IndexString", "internal/abi.NoEscape", "internal/bytealg.MakeNoZero"], unfollowed := true, recurses := true, named := ["unicode/utf8.first", "unicode/utf8.acceptRanges", "internal/bytealg.MaxLen"], apart := false, laid := [("unicode/utf8.acceptRanges", laid_unicode_utf8_acceptRanges), ("unicode/utf8.first", laid_unicode_utf8_first)] }
def NegoChainsSaid : Prop := negoChainsRow.holds Tryd.pinned (OpenSpec.ofChange negoChainsSpec)

/-- ITS FALSE NEIGHBOUR: 'it returns false'. Refute it at one input. -/
def negoChainsWrong : ChangeSpec := { name := "negoChains", fn := fun _ => fun
  | [d1, d2, d3] => { results := [.lit (.bool false)], args := [d1, d2, d3] }
  | _ => none }
def NegoChainsWrongFalsely : Prop := negoChainsRow.holds Tryd.pinned (OpenSpec.ofChange negoChainsWrong)

/-- 'polyglotlaw11.NegoOnes': WHATEVER THE INPUT: true; the input reads as it did. -/
def negoOnesSpec : ChangeSpec := { name := "negoOnes", fn := fun _ => fun
  | [d1, d2, d3] => { results := [.lit (.bool true)], args := [d1, d2, d3] }
  | _ => none }
def negoOnesRow : OpenClaim := { program := "ytpedajhcfkohlaadoor", sum := "4733201981347d9c2ef75b7a23cf839640326a42d33d5b1b557e7ebf4c37d25b", func := "polyglot/polyglotlaw11.NegoOnes", spec := "negoOnes", inPlace := ["internal/bytealg.CountString", "internal/bytealg.IndexByteString", "internal/bytealg.IndexString", "internal/abi.NoEscape", "internal/bytealg.MakeNoZero"], unfollowed := true, recurses := true, named := ["unicode/utf8.first", "unicode/utf8.acceptRanges", "internal/bytealg.MaxLen"], apart := false, laid := [("unicode/utf8.acceptRanges", laid_unicode_utf8_acceptRanges), ("unicode/utf8.first", laid_unicode_utf8_first)] }
def NegoOnesSaid : Prop := negoOnesRow.holds Tryd.pinned (OpenSpec.ofChange negoOnesSpec)

/-- ITS FALSE NEIGHBOUR: 'it returns false'. Refute it at one input. -/
def negoOnesWrong : ChangeSpec := { name := "negoOnes", fn := fun _ => fun
  | [d1, d2, d3] => { results := [.lit (.bool false)], args := [d1, d2, d3] }
  | _ => none }
def NegoOnesWrongFalsely : Prop := negoOnesRow.holds Tryd.pinned (OpenSpec.ofChange negoOnesWrong)

/-- 'polyglotlaw11.NegoFirst': WHATEVER THE INPUT: true; the input reads as it did. -/
def negoFirstSpec : ChangeSpec := { name := "negoFirst", fn := fun _ => fun
  | [d1, d2, d3] => { results := [.lit (.bool true)], args := [d1, d2, d3] }
  | _ => none }
def negoFirstRow : OpenClaim := { program := "ytpedajhcfkohlaadoor", sum := "4733201981347d9c2ef75b7a23cf839640326a42d33d5b1b557e7ebf4c37d25b", func := "polyglot/polyglotlaw11.NegoFirst", spec := "negoFirst", inPlace := ["internal/bytealg.CountString", "internal/bytealg.IndexByteString", "internal/bytealg.IndexString", "internal/abi.NoEscape", "internal/bytealg.MakeNoZero"], unfollowed := true, recurses := true, named := ["unicode/utf8.first", "unicode/utf8.acceptRanges", "internal/bytealg.MaxLen"], apart := false, laid := [("unicode/utf8.acceptRanges", laid_unicode_utf8_acceptRanges), ("unicode/utf8.first", laid_unicode_utf8_first)] }
def NegoFirstSaid : Prop := negoFirstRow.holds Tryd.pinned (OpenSpec.ofChange negoFirstSpec)

/-- ITS FALSE NEIGHBOUR: 'it returns false'. Refute it at one input. -/
def negoFirstWrong : ChangeSpec := { name := "negoFirst", fn := fun _ => fun
  | [d1, d2, d3] => { results := [.lit (.bool false)], args := [d1, d2, d3] }
  | _ => none }
def NegoFirstWrongFalsely : Prop := negoFirstRow.holds Tryd.pinned (OpenSpec.ofChange negoFirstWrong)

/- THE SECOND FORM. 'bulk': how many values and letters a reading holds, each counted each time it is reached (what is shared counts as often as it is met; a slice's spare places count too). A statement '..UptoSaid' is the law's where the arguments, and the package variables that the reading takes, are together of bulk at most 1048576: NARROWER than '..Said'. Prove '..Said' where nothing that the law and all that it calls make is longer than what came in: it says more and counts as full. Else prove '..UptoSaid'. A law counts once. -/
mutual
def uptoBulk {H : Type} : DataW H → Nat
  | .lit (.string bytes) => bytes.length + 1
  | .lit _ => 1
  | .nil => 1
  | .ptr d => uptoBulk d + 1
  | .slice elems spare => uptoBulkAll elems + uptoBulkAll spare + 1
  | .agg parts => uptoBulkAll parts + 1
  | .iface _ d => uptoBulk d + 1
  | .map entries => uptoBulkEntries entries + 1
  | .held _ => 1
def uptoBulkAll {H : Type} : List (DataW H) → Nat
  | [] => 0
  | d :: r => uptoBulk d + uptoBulkAll r
def uptoBulkEntries {H : Type} : List (Lit × DataW H) → Nat
  | [] => 0
  | x :: r => uptoBulkEntry x + uptoBulkEntries r
def uptoBulkEntry {H : Type} : Lit × DataW H → Nat
  | (.string bytes, d) => bytes.length + uptoBulk d + 1
  | (_, d) => uptoBulk d + 1
 end
def uptoSmall : (H : Type) → List (DataW H) → Bool := fun _ ds => decide (uptoBulkAll ds ≤ 1048576)
def OpenSpec.upto (s : _root_.Go.ChangeSpec) : _root_.Go.OpenSpec := { _root_.Go.OpenSpec.ofChange s with cond := some uptoSmall }

/-- 'polyglotlaw03.TagParses', WHERE WHAT IT READS IS OF BULK AT MOST 1048576: true; the input reads as it did. -/
def tagParsesUptoRow : OpenClaim := { program := "ytpedajhcfkohlaadoor", sum := "4733201981347d9c2ef75b7a23cf839640326a42d33d5b1b557e7ebf4c37d25b", func := "polyglot/polyglotlaw03.TagParses", spec := "tagParses", inPlace := ["internal/bytealg.CountString", "internal/bytealg.IndexByteString", "internal/bytealg.IndexString", "internal/abi.NoEscape", "internal/bytealg.MakeNoZero"], unfollowed := true, recurses := true, named := ["unicode/utf8.first", "unicode/utf8.acceptRanges", "internal/bytealg.MaxLen"], apart := false, laid := [("unicode/utf8.acceptRanges", laid_unicode_utf8_acceptRanges), ("unicode/utf8.first", laid_unicode_utf8_first)], narrowed := true }
def TagParsesUptoSaid : Prop := tagParsesUptoRow.holds Tryd.pinned (OpenSpec.upto tagParsesSpec)

/-- 'polyglotlaw03.TagFits', WHERE WHAT IT READS IS OF BULK AT MOST 1048576: true; the input reads as it did. -/
def tagFitsUptoRow : OpenClaim := { program := "ytpedajhcfkohlaadoor", sum := "4733201981347d9c2ef75b7a23cf839640326a42d33d5b1b557e7ebf4c37d25b", func := "polyglot/polyglotlaw03.TagFits", spec := "tagFits", inPlace := ["internal/bytealg.CountString", "internal/bytealg.IndexByteString", "internal/bytealg.IndexString", "internal/abi.NoEscape", "internal/bytealg.MakeNoZero"], unfollowed := true, recurses := true, named := ["unicode/utf8.first", "unicode/utf8.acceptRanges", "internal/bytealg.MaxLen"], apart := false, laid := [("unicode/utf8.acceptRanges", laid_unicode_utf8_acceptRanges), ("unicode/utf8.first", laid_unicode_utf8_first)], narrowed := true }
def TagFitsUptoSaid : Prop := tagFitsUptoRow.holds Tryd.pinned (OpenSpec.upto tagFitsSpec)

/-- 'polyglotlaw03.TagLess', WHERE WHAT IT READS IS OF BULK AT MOST 1048576: true; the input reads as it did. -/
def tagLessUptoRow : OpenClaim := { program := "ytpedajhcfkohlaadoor", sum := "4733201981347d9c2ef75b7a23cf839640326a42d33d5b1b557e7ebf4c37d25b", func := "polyglot/polyglotlaw03.TagLess", spec := "tagLess", inPlace := ["internal/bytealg.CountString", "internal/bytealg.IndexByteString", "internal/bytealg.IndexString", "internal/abi.NoEscape", "internal/bytealg.MakeNoZero"], unfollowed := true, recurses := true, named := ["unicode/utf8.first", "unicode/utf8.acceptRanges", "internal/bytealg.MaxLen"], apart := false, laid := [("unicode/utf8.acceptRanges", laid_unicode_utf8_acceptRanges), ("unicode/utf8.first", laid_unicode_utf8_first)], narrowed := true }
def TagLessUptoSaid : Prop := tagLessUptoRow.holds Tryd.pinned (OpenSpec.upto tagLessSpec)

/-- 'polyglotlaw03.TagMore', WHERE WHAT IT READS IS OF BULK AT MOST 1048576: true; the input reads as it did. -/
def tagMoreUptoRow : OpenClaim := { program := "ytpedajhcfkohlaadoor", sum := "4733201981347d9c2ef75b7a23cf839640326a42d33d5b1b557e7ebf4c37d25b", func := "polyglot/polyglotlaw03.TagMore", spec := "tagMore", inPlace := ["internal/bytealg.CountString", "internal/bytealg.IndexByteString", "internal/bytealg.IndexString", "internal/abi.NoEscape", "internal/bytealg.MakeNoZero"], unfollowed := true, recurses := true, named := ["unicode/utf8.first", "unicode/utf8.acceptRanges", "internal/bytealg.MaxLen"], apart := false, laid := [("unicode/utf8.acceptRanges", laid_unicode_utf8_acceptRanges), ("unicode/utf8.first", laid_unicode_utf8_first)], narrowed := true }
def TagMoreUptoSaid : Prop := tagMoreUptoRow.holds Tryd.pinned (OpenSpec.upto tagMoreSpec)

/-- 'polyglotlaw13.MomentFormats', WHERE WHAT IT READS IS OF BULK AT MOST 1048576: true; the input reads as it did. -/
def momentFormatsUptoRow : OpenClaim := { program := "ytpedajhcfkohlaadoor", sum := "4733201981347d9c2ef75b7a23cf839640326a42d33d5b1b557e7ebf4c37d25b", func := "polyglot/polyglotlaw13.MomentFormats", spec := "momentFormats", inPlace := ["internal/abi.NoEscape", "internal/bytealg.MakeNoZero"], recurses := true, named := ["internal/strconv.uint64pow10", "math/bits.deBruijn32tab", "math/bits.deBruijn64tab"], apart := false, laid := [("math/bits.deBruijn32tab", laid_math_bits_deBruijn32tab), ("math/bits.deBruijn64tab", laid_math_bits_deBruijn64tab), ("internal/strconv.uint64pow10", laid_internal_strconv_uint64pow10)], narrowed := true }
def MomentFormatsUptoSaid : Prop := momentFormatsUptoRow.holds Tryd.pinned (OpenSpec.upto momentFormatsSpec)

/-- 'polyglotlaw13.MomentDay', WHERE WHAT IT READS IS OF BULK AT MOST 1048576: true; the input reads as it did. -/
def momentDayUptoRow : OpenClaim := { program := "ytpedajhcfkohlaadoor", sum := "4733201981347d9c2ef75b7a23cf839640326a42d33d5b1b557e7ebf4c37d25b", func := "polyglot/polyglotlaw13.MomentDay", spec := "momentDay", inPlace := ["internal/abi.NoEscape", "internal/bytealg.MakeNoZero"], recurses := true, named := ["internal/strconv.uint64pow10", "math/bits.deBruijn32tab", "math/bits.deBruijn64tab"], apart := false, laid := [("math/bits.deBruijn32tab", laid_math_bits_deBruijn32tab), ("math/bits.deBruijn64tab", laid_math_bits_deBruijn64tab), ("internal/strconv.uint64pow10", laid_internal_strconv_uint64pow10)], narrowed := true }
def MomentDayUptoSaid : Prop := momentDayUptoRow.holds Tryd.pinned (OpenSpec.upto momentDaySpec)

/-- 'polyglotlaw13.MomentParts', WHERE WHAT IT READS IS OF BULK AT MOST 1048576: true; the input reads as it did. -/
def momentPartsUptoRow : OpenClaim := { program := "ytpedajhcfkohlaadoor", sum := "4733201981347d9c2ef75b7a23cf839640326a42d33d5b1b557e7ebf4c37d25b", func := "polyglot/polyglotlaw13.MomentParts", spec := "momentParts", inPlace := ["internal/abi.NoEscape", "internal/bytealg.MakeNoZero"], named := ["internal/strconv.uint64pow10", "math/bits.deBruijn32tab", "math/bits.deBruijn64tab"], apart := false, laid := [("math/bits.deBruijn32tab", laid_math_bits_deBruijn32tab), ("math/bits.deBruijn64tab", laid_math_bits_deBruijn64tab), ("internal/strconv.uint64pow10", laid_internal_strconv_uint64pow10)], narrowed := true }
def MomentPartsUptoSaid : Prop := momentPartsUptoRow.holds Tryd.pinned (OpenSpec.upto momentPartsSpec)

/-- 'polyglotlaw13.MomentWords', WHERE WHAT IT READS IS OF BULK AT MOST 1048576: true; the input reads as it did. -/
def momentWordsUptoRow : OpenClaim := { program := "ytpedajhcfkohlaadoor", sum := "4733201981347d9c2ef75b7a23cf839640326a42d33d5b1b557e7ebf4c37d25b", func := "polyglot/polyglotlaw13.MomentWords", spec := "momentWords", inPlace := ["internal/abi.NoEscape", "internal/bytealg.MakeNoZero"], named := ["internal/strconv.uint64pow10", "math/bits.deBruijn32tab", "math/bits.deBruijn64tab"], apart := false, laid := [("math/bits.deBruijn32tab", laid_math_bits_deBruijn32tab), ("math/bits.deBruijn64tab", laid_math_bits_deBruijn64tab), ("internal/strconv.uint64pow10", laid_internal_strconv_uint64pow10)], narrowed := true }
def MomentWordsUptoSaid : Prop := momentWordsUptoRow.holds Tryd.pinned (OpenSpec.upto momentWordsSpec)

/-- 'polyglotlaw11.NegoChains', WHERE WHAT IT READS IS OF BULK AT MOST 1048576: true; the input reads as it did. -/
def negoChainsUptoRow : OpenClaim := { program := "ytpedajhcfkohlaadoor", sum := "4733201981347d9c2ef75b7a23cf839640326a42d33d5b1b557e7ebf4c37d25b", func := "polyglot/polyglotlaw11.NegoChains", spec := "negoChains", inPlace := ["internal/bytealg.CountString", "internal/bytealg.IndexByteString", "internal/bytealg.IndexString", "internal/abi.NoEscape", "internal/bytealg.MakeNoZero"], unfollowed := true, recurses := true, named := ["unicode/utf8.first", "unicode/utf8.acceptRanges", "internal/bytealg.MaxLen"], apart := false, laid := [("unicode/utf8.acceptRanges", laid_unicode_utf8_acceptRanges), ("unicode/utf8.first", laid_unicode_utf8_first)], narrowed := true }
def NegoChainsUptoSaid : Prop := negoChainsUptoRow.holds Tryd.pinned (OpenSpec.upto negoChainsSpec)

/-- 'polyglotlaw11.NegoOnes', WHERE WHAT IT READS IS OF BULK AT MOST 1048576: true; the input reads as it did. -/
def negoOnesUptoRow : OpenClaim := { program := "ytpedajhcfkohlaadoor", sum := "4733201981347d9c2ef75b7a23cf839640326a42d33d5b1b557e7ebf4c37d25b", func := "polyglot/polyglotlaw11.NegoOnes", spec := "negoOnes", inPlace := ["internal/bytealg.CountString", "internal/bytealg.IndexByteString", "internal/bytealg.IndexString", "internal/abi.NoEscape", "internal/bytealg.MakeNoZero"], unfollowed := true, recurses := true, named := ["unicode/utf8.first", "unicode/utf8.acceptRanges", "internal/bytealg.MaxLen"], apart := false, laid := [("unicode/utf8.acceptRanges", laid_unicode_utf8_acceptRanges), ("unicode/utf8.first", laid_unicode_utf8_first)], narrowed := true }
def NegoOnesUptoSaid : Prop := negoOnesUptoRow.holds Tryd.pinned (OpenSpec.upto negoOnesSpec)

/-- 'polyglotlaw11.NegoFirst', WHERE WHAT IT READS IS OF BULK AT MOST 1048576: true; the input reads as it did. -/
def negoFirstUptoRow : OpenClaim := { program := "ytpedajhcfkohlaadoor", sum := "4733201981347d9c2ef75b7a23cf839640326a42d33d5b1b557e7ebf4c37d25b", func := "polyglot/polyglotlaw11.NegoFirst", spec := "negoFirst", inPlace := ["internal/bytealg.CountString", "internal/bytealg.IndexByteString", "internal/bytealg.IndexString", "internal/abi.NoEscape", "internal/bytealg.MakeNoZero"], unfollowed := true, recurses := true, named := ["unicode/utf8.first", "unicode/utf8.acceptRanges", "internal/bytealg.MaxLen"], apart := false, laid := [("unicode/utf8.acceptRanges", laid_unicode_utf8_acceptRanges), ("unicode/utf8.first", laid_unicode_utf8_first)], narrowed := true }
def NegoFirstUptoSaid : Prop := negoFirstUptoRow.holds Tryd.pinned (OpenSpec.upto negoFirstSpec)

end Rows
end Go.Proofs.YtpedajhcfkohlaaDoor
