/- The pure statement of the law SumTwo. -/
import Derived.Test.YtjdjeiidojgidaaSumLaws
namespace Go.Proofs.Ytjdjeiidojgidaa.Pure
theorem SumTwo : QDec.stanchionlaw02_SumTwo.Pure := DecPure.STwo
end Go.Proofs.Ytjdjeiidojgidaa.Pure
