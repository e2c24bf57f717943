/- The pure statement of the law SumOfs. -/
import Derived.Test.YtjdjeiidojgidaaSumLaws
namespace Go.Proofs.Ytjdjeiidojgidaa.Pure
theorem SumOfs : QDec.stanchionlaw02_SumOfs.Pure := DecPure.SOfs
end Go.Proofs.Ytjdjeiidojgidaa.Pure
