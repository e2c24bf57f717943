/- The pure statement of the law SumJoined. -/
import Derived.Test.YtjdjeiidojgidaaSumLaws
namespace Go.Proofs.Ytjdjeiidojgidaa.Pure
theorem SumJoined : QDec.stanchionlaw02_SumJoined.Pure := DecPure.SJoined
end Go.Proofs.Ytjdjeiidojgidaa.Pure
