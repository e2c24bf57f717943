/- The pure statement of the law DecFigures. -/
import Derived.Test.YtjgnnjclglimfaaDecLaws
namespace Go.Proofs.Ytjgnnjclglimfaa.Pure
theorem DecFigures : QDec.stanchionlaw01_DecFigures.Pure := DecPure.Figures
end Go.Proofs.Ytjgnnjclglimfaa.Pure
