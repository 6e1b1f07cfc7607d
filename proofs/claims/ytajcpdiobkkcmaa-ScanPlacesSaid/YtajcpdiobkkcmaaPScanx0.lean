-- Written by this session's own program (wip/drive.py) over the kit's printer: not the printer's own text.
import Derived.Test.YtajcpdiobkkcmaaProg
import Derived.Below
import Derived.Deep.Draws
import Derived.Deep.AppendLies
import Derived.Maps.AppendAt
import Derived.OwnWalk
import Derived.Laws.BytesArg
import Derived.Laws.MakeOwn
import Derived.Laws.OwnMore
import Derived.Deep.OwnRows
import Derived.Tactics
import Derived.Lib.ConvBytes
import Derived.Laws.Slices
import Derived.WalkKit
import Derived.KernelRfl
import Derived.RowKit3
import Derived.Deep.LoopGhost
import Derived.Deep.QuietTactic
import Derived.BigQuiet
import Derived.WideLaws
import Derived.Deep.DeepCutAuto
import Derived.Deep.CutBlock
import Derived.Deep.RegionHeld3
import Derived.Laws.Rows
import Derived.Lib.AppendStr
import Derived.ArgAppend
import Derived.Laws.IdiomCopy
import Derived.OrdersHeld
import Derived.Laws.BitsLemmas
import Derived.RowKit
import Derived.Test.YtajcpdiobkkcmaaHand
import Derived.Test.YtajcpdiobkkcmaaWWords
import Derived.Test.YtajcpdiobkkcmaaWLast
import Derived.Test.YtajcpdiobkkcmaaWTab
import Derived.Test.YtajcpdiobkkcmaaWFour
import Derived.Test.YtajcpdiobkkcmaaWQPut
import Derived.Test.YtajcpdiobkkcmaaWApart
import Derived.Test.YtajcpdiobkkcmaaWArr
import Derived.Test.YtajcpdiobkkcmaaWZeros
import Derived.Test.YtajcpdiobkkcmaaWFoot
import Derived.Test.YtajcpdiobkkcmaaWKept
import Derived.Test.YtajcpdiobkkcmaaWShare
import Derived.Test.YtajcpdiobkkcmaaWN
import Derived.Test.YtajcpdiobkkcmaaWFootNe
import Derived.Test.YtajcpdiobkkcmaaWAt
import Derived.Test.YtajcpdiobkkcmaaWEqStruct
import Derived.Test.YtajcpdiobkkcmaaWRepsOne
import Derived.Test.YtajcpdiobkkcmaaWInv
import Derived.Test.YtajcpdiobkkcmaaWInvWords
import Derived.Test.YtajcpdiobkkcmaaWGuard
import Derived.Test.YtajcpdiobkkcmaaWNEv
import Derived.Test.YtajcpdiobkkcmaaWMore
namespace Go.Proofs.Ytajcpdiobkkcmaa.PScan
open Go.RowKit Go.Proofs.YtajcpdiobkkcmaaHand Go.Proofs.YtajcpdiobkkcmaaW.PrintWords Go.Proofs.YtajcpdiobkkcmaaW.PrintLast Go.Proofs.YtajcpdiobkkcmaaW.PrintMore
attribute [local go_sem] max2_int min2_int max_two min_two max_three min_three max_four min_four   -- for this text's walks alone
set_option linter.unusedVariables false
set_option linter.unusedSimpArgs false



def errW : Option Int → Value
  | none => .nilIface
  | some c => .iface 0 (.int .i64 c)
theorem errW_none : errW none = .nilIface := rfl
theorem errW_some (c : Int) : errW (some c) = .iface 0 (.int .i64 c) := rfl

-- the values' own types

end Go.Proofs.Ytajcpdiobkkcmaa.PScan
