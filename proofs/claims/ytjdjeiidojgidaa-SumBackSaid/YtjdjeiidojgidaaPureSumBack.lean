/- The pure statement of the law SumBack. -/
import Derived.Test.YtjdjeiidojgidaaSumLaws
namespace Go.Proofs.Ytjdjeiidojgidaa.Pure
theorem SumBack : QDec.stanchionlaw02_SumBack.Pure := DecPure.SBack
end Go.Proofs.Ytjdjeiidojgidaa.Pure
