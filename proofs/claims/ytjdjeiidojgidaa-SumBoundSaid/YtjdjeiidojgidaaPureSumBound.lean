/- The pure statement of the law SumBound. -/
import Derived.Test.YtjdjeiidojgidaaSumLaws
namespace Go.Proofs.Ytjdjeiidojgidaa.Pure
theorem SumBound : QDec.stanchionlaw02_SumBound.Pure := DecPure.SBound
end Go.Proofs.Ytjdjeiidojgidaa.Pure
