-- Written by the session's program gen.sh, which calls the kit's printer with imports of the session's choice.
import Derived.Test.YtdobceajlplfhaaProg
import Derived.Below
import Derived.Deep.Draws
import Derived.Deep.AppendLies
import Derived.Maps.AppendAt
import Derived.OwnWalk
import Derived.Laws.BytesArg
import Derived.Laws.MakeOwn
import Derived.Laws.OwnMore
import Derived.Deep.OwnRows
import Derived.Tactics
import Derived.Lib.ConvBytes
import Derived.Laws.Slices
import Derived.WalkKit
import Derived.KernelRfl
import Derived.RowKit3
import Derived.Deep.LoopGhost
import Derived.Deep.QuietTactic
import Derived.BigQuiet
import Derived.WideLaws
import Derived.Deep.DeepCutAuto
import Derived.Deep.CutBlock
import Derived.Deep.RegionHeld3
import Derived.Laws.Rows
import Derived.Lib.AppendStr
import Derived.ArgAppend
import Derived.Laws.IdiomCopy
import Derived.OrdersHeld
import Derived.Laws.BitsLemmas
import Derived.RowKit
import Derived.Test.YtdobceajlplfhaaStr
import Derived.Test.YtdobceajlplfhaaWWords
import Derived.Test.YtdobceajlplfhaaWLast
import Derived.Test.YtdobceajlplfhaaWTab
import Derived.Test.YtdobceajlplfhaaWFour
import Derived.Test.YtdobceajlplfhaaWQPut
import Derived.Test.YtdobceajlplfhaaWApart
import Derived.Test.YtdobceajlplfhaaWArr
import Derived.Test.YtdobceajlplfhaaWZeros
import Derived.Test.YtdobceajlplfhaaWFoot
import Derived.Test.YtdobceajlplfhaaWKept
import Derived.Test.YtdobceajlplfhaaWShare
import Derived.Test.YtdobceajlplfhaaWN
import Derived.Test.YtdobceajlplfhaaWFootNe
import Derived.Test.YtdobceajlplfhaaWAt
import Derived.Test.YtdobceajlplfhaaWEqStruct
import Derived.Test.YtdobceajlplfhaaWRepsOne
import Derived.Test.YtdobceajlplfhaaWInv
import Derived.Test.YtdobceajlplfhaaWInvWords
import Derived.Test.YtdobceajlplfhaaWGuard
import Derived.Test.YtdobceajlplfhaaWNEv
import Derived.Test.YtdobceajlplfhaaWMore
namespace Go.Proofs.Ytdobceajlplfhaa.QSpan
open Go.RowKit Go.Proofs.YtdobceajlplfhaaW.PrintWords Go.Proofs.YtdobceajlplfhaaW.PrintLast Go.Proofs.YtdobceajlplfhaaW.PrintMore
attribute [local go_sem] max2_int min2_int max_two min_two max_three min_three max_four min_four   -- for this text's walks alone
set_option linter.unusedVariables false
set_option linter.unusedSimpArgs false



def errW : Option Int → Value
  | none => .nilIface
  | some c => .iface 0 (.int .i64 c)
theorem errW_none : errW none = .nilIface := rfl
theorem errW_some (c : Int) : errW (some c) = .iface 0 (.int .i64 c) := rfl

-- the values' own types

end Go.Proofs.Ytdobceajlplfhaa.QSpan
