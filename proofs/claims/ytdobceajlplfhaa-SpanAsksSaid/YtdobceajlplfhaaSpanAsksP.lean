/- The law SpanAsks holds of the printed function. -/
import Derived.Test.YtdobceajlplfhaaSpanRef
import Derived.Test.YtdobceajlplfhaaQSpanx6
namespace Go.Proofs.Ytdobceajlplfhaa.SpanPure
open Go Go.RowKit Go.Proofs.Ytdobceajlplfhaa.QSpan Go.Proofs.YtdobceajlplfhaaW.PrintWords Go.Proofs.YtdobceajlplfhaaW.PrintLast
theorem Asks (m : Int) (lo hi : ByteArray) (n : Int) (key : ByteArray) (h1 : lo.size ≤ M) (h2 : key.size ≤ 140737488351232) : ∃ k, stanchionlaw09_SpanAsks.f k m lo hi n key = some true := by
  refine ⟨2 * lo.size + 2 * key.size + 3 + 1, ?_⟩
  unfold stanchionlaw09_SpanAsks.f span_Key.f stanchionref09_Key.f
  rw [shown_eq, may_eq, in_eq, refMay_eq _ m lo hi h1 (by omega), refIn_eq _ m lo hi key (by omega) (by omega), if_pos (by omega)]
  simp
end Go.Proofs.Ytdobceajlplfhaa.SpanPure
