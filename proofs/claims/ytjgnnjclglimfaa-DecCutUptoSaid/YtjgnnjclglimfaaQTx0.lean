-- Written by the session's program gen.sh, which calls the kit's printer with imports of the session's choice.
import Derived.Test.YtjgnnjclglimfaaProg
import Derived.Below
import Derived.Deep.Draws
import Derived.Deep.AppendLies
import Derived.Maps.AppendAt
import Derived.OwnWalk
import Derived.Laws.BytesArg
import Derived.Laws.MakeOwn
import Derived.Laws.OwnMore
import Derived.Deep.OwnRows
import Derived.Tactics
import Derived.Lib.ConvBytes
import Derived.Laws.Slices
import Derived.WalkKit
import Derived.KernelRfl
import Derived.RowKit3
import Derived.Deep.LoopGhost
import Derived.Deep.QuietTactic
import Derived.BigQuiet
import Derived.WideLaws
import Derived.Deep.DeepCutAuto
import Derived.Deep.CutBlock
import Derived.Deep.RegionHeld3
import Derived.Laws.Rows
import Derived.Lib.AppendStr
import Derived.ArgAppend
import Derived.Laws.IdiomCopy
import Derived.OrdersHeld
import Derived.Laws.BitsLemmas
import Derived.RowKit
import Derived.Test.YtjgnnjclglimfaaWWords
import Derived.Test.YtjgnnjclglimfaaWLast
import Derived.Test.YtjgnnjclglimfaaWTab
import Derived.Test.YtjgnnjclglimfaaWFour
import Derived.Test.YtjgnnjclglimfaaWQPut
import Derived.Test.YtjgnnjclglimfaaWApart
import Derived.Test.YtjgnnjclglimfaaWArr
import Derived.Test.YtjgnnjclglimfaaWZeros
import Derived.Test.YtjgnnjclglimfaaWFoot
import Derived.Test.YtjgnnjclglimfaaWKept
import Derived.Test.YtjgnnjclglimfaaWShare
import Derived.Test.YtjgnnjclglimfaaWN
import Derived.Test.YtjgnnjclglimfaaWFootNe
import Derived.Test.YtjgnnjclglimfaaWAt
import Derived.Test.YtjgnnjclglimfaaWEqStruct
import Derived.Test.YtjgnnjclglimfaaWRepsOne
import Derived.Test.YtjgnnjclglimfaaWInv
import Derived.Test.YtjgnnjclglimfaaWInvWords
import Derived.Test.YtjgnnjclglimfaaWGuard
import Derived.Test.YtjgnnjclglimfaaWNEv
import Derived.Test.YtjgnnjclglimfaaWMore
namespace Go.Proofs.Ytjgnnjclglimfaa.QT
open Go.RowKit Go.Proofs.YtjgnnjclglimfaaW.PrintWords Go.Proofs.YtjgnnjclglimfaaW.PrintLast Go.Proofs.YtjgnnjclglimfaaW.PrintMore
attribute [local go_sem] max2_int min2_int max_two min_two max_three min_three max_four min_four   -- for this text's walks alone
set_option linter.unusedVariables false
set_option linter.unusedSimpArgs false



def errW : Option Int → Value
  | none => .nilIface
  | some c => .iface 0 (.int .i64 c)
theorem errW_none : errW none = .nilIface := rfl
theorem errW_some (c : Int) : errW (some c) = .iface 0 (.int .i64 c) := rfl

theorem info5 : (Try.prog.info? 5).map (fun i => (i.zero, i.size, i.bytes)) = some (some (.int .u8 0), 1, 1) := by kernel_rfl
-- the values' own types

end Go.Proofs.Ytjgnnjclglimfaa.QT
