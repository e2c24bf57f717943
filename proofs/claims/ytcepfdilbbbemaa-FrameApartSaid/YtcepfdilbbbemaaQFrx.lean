-- Written by the session's program gen.sh, which calls the kit's printer with imports of the session's choice.
import Derived.Test.YtcepfdilbbbemaaQFrx0
import Derived.Test.YtcepfdilbbbemaaQFrx1
import Derived.Test.YtcepfdilbbbemaaQFrx2
import Derived.Test.YtcepfdilbbbemaaQFrx3
import Derived.Test.YtcepfdilbbbemaaQFrx4
import Derived.Test.YtcepfdilbbbemaaQFrx5
import Derived.Test.YtcepfdilbbbemaaQFrx6
import Derived.Test.YtcepfdilbbbemaaQFrx7
namespace Go.Proofs.Ytcepfdilbbbemaa.QFr
open Go.RowKit Go.Proofs.YtcepfdilbbbemaaW.PrintWords Go.Proofs.YtcepfdilbbbemaaW.PrintLast Go.Proofs.YtcepfdilbbbemaaW.PrintMore
attribute [local go_sem] max2_int min2_int max_two min_two max_three min_three max_four min_four   -- for this text's walks alone
set_option linter.unusedVariables false
set_option linter.unusedSimpArgs false

end Go.Proofs.Ytcepfdilbbbemaa.QFr
