/- The pure statement of the law DecTextBack. -/
import Derived.Test.YtjgnnjclglimfaaDecLaws
namespace Go.Proofs.Ytjgnnjclglimfaa.Pure
theorem DecTextBack : QDec.stanchionlaw01_DecTextBack.Pure := DecPure.TextBack
end Go.Proofs.Ytjgnnjclglimfaa.Pure
