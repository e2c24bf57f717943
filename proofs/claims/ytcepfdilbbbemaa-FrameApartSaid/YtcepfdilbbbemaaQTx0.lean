-- Written by the session's program gen.sh, which calls the kit's printer with imports of the session's choice.
import Derived.Test.YtcepfdilbbbemaaProg
import Derived.Below
import Derived.Deep.Draws
import Derived.Deep.AppendLies
import Derived.Maps.AppendAt
import Derived.OwnWalk
import Derived.Laws.BytesArg
import Derived.Laws.MakeOwn
import Derived.Laws.OwnMore
import Derived.Deep.OwnRows
import Derived.Tactics
import Derived.Lib.ConvBytes
import Derived.Laws.Slices
import Derived.WalkKit
import Derived.KernelRfl
import Derived.RowKit3
import Derived.Deep.LoopGhost
import Derived.Deep.QuietTactic
import Derived.BigQuiet
import Derived.WideLaws
import Derived.Deep.DeepCutAuto
import Derived.Deep.CutBlock
import Derived.Deep.RegionHeld3
import Derived.Laws.Rows
import Derived.Lib.AppendStr
import Derived.ArgAppend
import Derived.Laws.IdiomCopy
import Derived.OrdersHeld
import Derived.Laws.BitsLemmas
import Derived.RowKit
import Derived.Test.YtcepfdilbbbemaaWWords
import Derived.Test.YtcepfdilbbbemaaWLast
import Derived.Test.YtcepfdilbbbemaaWTab
import Derived.Test.YtcepfdilbbbemaaWFour
import Derived.Test.YtcepfdilbbbemaaWQPut
import Derived.Test.YtcepfdilbbbemaaWApart
import Derived.Test.YtcepfdilbbbemaaWArr
import Derived.Test.YtcepfdilbbbemaaWZeros
import Derived.Test.YtcepfdilbbbemaaWFoot
import Derived.Test.YtcepfdilbbbemaaWKept
import Derived.Test.YtcepfdilbbbemaaWShare
import Derived.Test.YtcepfdilbbbemaaWN
import Derived.Test.YtcepfdilbbbemaaWFootNe
import Derived.Test.YtcepfdilbbbemaaWAt
import Derived.Test.YtcepfdilbbbemaaWEqStruct
import Derived.Test.YtcepfdilbbbemaaWRepsOne
import Derived.Test.YtcepfdilbbbemaaWInv
import Derived.Test.YtcepfdilbbbemaaWInvWords
import Derived.Test.YtcepfdilbbbemaaWGuard
import Derived.Test.YtcepfdilbbbemaaWNEv
import Derived.Test.YtcepfdilbbbemaaWMore
namespace Go.Proofs.Ytcepfdilbbbemaa.QT
open Go.RowKit Go.Proofs.YtcepfdilbbbemaaW.PrintWords Go.Proofs.YtcepfdilbbbemaaW.PrintLast Go.Proofs.YtcepfdilbbbemaaW.PrintMore
attribute [local go_sem] max2_int min2_int max_two min_two max_three min_three max_four min_four   -- for this text's walks alone
set_option linter.unusedVariables false
set_option linter.unusedSimpArgs false



def errW : Option Int → Value
  | none => .nilIface
  | some c => .iface 0 (.int .i64 c)
theorem errW_none : errW none = .nilIface := rfl
theorem errW_some (c : Int) : errW (some c) = .iface 0 (.int .i64 c) := rfl

theorem info5 : (Try.prog.info? 5).map (fun i => (i.zero, i.size, i.bytes)) = some (some (.int .u8 0), 1, 1) := by kernel_rfl
-- the values' own types

end Go.Proofs.Ytcepfdilbbbemaa.QT
