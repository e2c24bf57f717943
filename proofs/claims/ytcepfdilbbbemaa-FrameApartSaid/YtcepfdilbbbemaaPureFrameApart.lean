/- The pure statement of the law FrameApart. -/
import Derived.Test.YtcepfdilbbbemaaFramePlain
namespace Go.Proofs.Ytcepfdilbbbemaa.Pure
theorem FrameApart : QFr.stanchionlaw14_FrameApart.Pure := fun a b cut h1 h2 _ => FrP.Apart a b cut h1 h2
end Go.Proofs.Ytcepfdilbbbemaa.Pure
