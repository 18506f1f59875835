/- The words that the next text uses; nothing is claimed here. -/
import Derived.Test.YtbkojghbgoejcaaProg
import Derived.Below
import Derived.Deep.Draws
import Derived.Deep.AppendLies
import Derived.Maps.AppendAt
import Derived.OwnWalk
import Derived.Laws.BytesArg
import Derived.Laws.MakeOwn
import Derived.Laws.OwnMore
import Derived.Deep.OwnRows
import Derived.Tactics
import Derived.Lib.ConvBytes
import Derived.Laws.Slices
import Derived.WalkKit
import Derived.KernelRfl
import Derived.RowKit3
import Derived.Deep.LoopGhost
import Derived.Deep.QuietTactic
import Derived.BigQuiet
import Derived.WideLaws
import Derived.Deep.DeepCutAuto
import Derived.Deep.CutBlock
import Derived.Deep.RegionHeld3
import Derived.Laws.Rows
import Derived.Lib.AppendStr
import Derived.ArgAppend
import Derived.Laws.IdiomCopy
import Derived.OrdersHeld
import Derived.Laws.BitsLemmas
import Derived.RowKit
import Derived.Test.YtbkojghbgoejcaaWWords
import Derived.Test.YtbkojghbgoejcaaWLast
import Derived.Test.YtbkojghbgoejcaaWTab
import Derived.Test.YtbkojghbgoejcaaWFour
import Derived.Test.YtbkojghbgoejcaaWQPut
import Derived.Test.YtbkojghbgoejcaaWApart
import Derived.Test.YtbkojghbgoejcaaWArr
import Derived.Test.YtbkojghbgoejcaaWZeros
import Derived.Test.YtbkojghbgoejcaaWFoot
import Derived.Test.YtbkojghbgoejcaaWKept
import Derived.Test.YtbkojghbgoejcaaWShare
import Derived.Test.YtbkojghbgoejcaaWN
import Derived.Test.YtbkojghbgoejcaaWFootNe
import Derived.Test.YtbkojghbgoejcaaWAt
import Derived.Test.YtbkojghbgoejcaaWEqStruct
import Derived.Test.YtbkojghbgoejcaaWRepsOne
import Derived.Test.YtbkojghbgoejcaaWInv
import Derived.Test.YtbkojghbgoejcaaWInvWords
import Derived.Test.YtbkojghbgoejcaaWGuard
import Derived.Test.YtbkojghbgoejcaaWNEv
import Derived.Test.YtbkojghbgoejcaaWMore
namespace Go.Proofs.Ytbkojghbgoejcaa.QNumberRange
open Go.RowKit Go.Proofs.YtbkojghbgoejcaaW.PrintWords Go.Proofs.YtbkojghbgoejcaaW.PrintLast Go.Proofs.YtbkojghbgoejcaaW.PrintMore
attribute [local go_sem] max2_int min2_int max_two min_two max_three min_three max_four min_four   -- for this text's walks alone
set_option linter.unusedVariables false
set_option linter.unusedSimpArgs false



def errW : Option Int → Value
  | none => .nilIface
  | some c => .iface 0 (.int .i64 c)
theorem errW_none : errW none = .nilIface := rfl
theorem errW_some (c : Int) : errW (some c) = .iface 0 (.int .i64 c) := rfl

-- the values' own types

end Go.Proofs.Ytbkojghbgoejcaa.QNumberRange
