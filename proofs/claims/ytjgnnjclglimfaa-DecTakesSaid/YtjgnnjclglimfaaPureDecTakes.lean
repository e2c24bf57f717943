/- The pure statement of the law DecTakes. -/
import Derived.Test.YtjgnnjclglimfaaDecLaws
namespace Go.Proofs.Ytjgnnjclglimfaa.Pure
theorem DecTakes : QDec.stanchionlaw01_DecTakes.Pure := DecPure.Takes
end Go.Proofs.Ytjgnnjclglimfaa.Pure
