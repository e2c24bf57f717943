/- The pure statement of the law DecBack. -/
import Derived.Test.YtjgnnjclglimfaaDecLaws
namespace Go.Proofs.Ytjgnnjclglimfaa.Pure
theorem DecBack : QDec.stanchionlaw01_DecBack.Pure := DecPure.Back
end Go.Proofs.Ytjgnnjclglimfaa.Pure
