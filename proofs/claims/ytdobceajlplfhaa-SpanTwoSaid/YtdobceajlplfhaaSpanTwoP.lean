/- The law SpanTwo holds of the printed function. -/
import Derived.Test.YtdobceajlplfhaaSpanRef
import Derived.Test.YtdobceajlplfhaaQSpanx9
namespace Go.Proofs.Ytdobceajlplfhaa.SpanPure
open Go Go.RowKit Go.Proofs.Ytdobceajlplfhaa.QSpan Go.Proofs.YtdobceajlplfhaaW.PrintWords Go.Proofs.YtdobceajlplfhaaW.PrintLast
theorem Two (am : Int) (al ah : ByteArray) (bm : Int) (bl bh : ByteArray) (h1 : al.size ≤ M) (h2 : ah.size ≤ M) (h3 : bl.size ≤ M) : ∃ k, stanchionlaw09_SpanTwo.f k am al ah bm bl bh = some true := by
  refine ⟨2 * al.size + 2 * ah.size + 2 * bl.size + 3 + 1, ?_⟩
  unfold stanchionlaw09_SpanTwo.f
  rw [shown_eq, ov_eq, cl_eq, co_eq, refOv_eq _ am al ah bm bl bh h1 h3 (by omega), refCl_eq _ am al ah bm bl bh h1 h3 (by omega), refCo_eq _ am al ah bm bl bh h2 h3 (by omega)]
  simp
end Go.Proofs.Ytdobceajlplfhaa.SpanPure
