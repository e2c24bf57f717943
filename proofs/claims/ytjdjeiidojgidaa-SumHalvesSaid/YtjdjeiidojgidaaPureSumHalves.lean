/- The pure statement of the law SumHalves. -/
import Derived.Test.YtjdjeiidojgidaaSumLaws
namespace Go.Proofs.Ytjdjeiidojgidaa.Pure
theorem SumHalves : QDec.stanchionlaw02_SumHalves.Pure := DecPure.SHalves
end Go.Proofs.Ytjdjeiidojgidaa.Pure
