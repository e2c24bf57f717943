/- The pure statement of the law DecNums. -/
import Derived.Test.YtjgnnjclglimfaaDecLaws
namespace Go.Proofs.Ytjgnnjclglimfaa.Pure
theorem DecNums : QDec.stanchionlaw01_DecNums.Pure := DecPure.Nums
end Go.Proofs.Ytjgnnjclglimfaa.Pure
