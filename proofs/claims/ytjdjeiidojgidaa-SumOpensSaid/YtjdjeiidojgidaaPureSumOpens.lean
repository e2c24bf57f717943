/- The pure statement of the law SumOpens. -/
import Derived.Test.YtjdjeiidojgidaaSumLaws
namespace Go.Proofs.Ytjdjeiidojgidaa.Pure
theorem SumOpens : QDec.stanchionlaw02_SumOpens.Pure := DecPure.SOpens
end Go.Proofs.Ytjdjeiidojgidaa.Pure
