/- The pure statement of the law DecTexts. -/
import Derived.Test.YtjgnnjclglimfaaDecLaws
namespace Go.Proofs.Ytjgnnjclglimfaa.Pure
theorem DecTexts : QDec.stanchionlaw01_DecTexts.Pure := DecPure.Texts
end Go.Proofs.Ytjgnnjclglimfaa.Pure
