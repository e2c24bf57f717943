/- The law SpanKeys holds of the printed function. -/
import Derived.Test.YtdobceajlplfhaaSpanRef
import Derived.Test.YtdobceajlplfhaaQSpanx7
namespace Go.Proofs.Ytdobceajlplfhaa.SpanPure
open Go Go.RowKit Go.Proofs.Ytdobceajlplfhaa.QSpan Go.Proofs.YtdobceajlplfhaaW.PrintWords Go.Proofs.YtdobceajlplfhaaW.PrintLast
theorem Keys : stanchionlaw09_SpanKeys.Pure := by
  intro a b m h1 h2 _
  refine ⟨0 + 1, ?_⟩
  unfold stanchionlaw09_SpanKeys.f span_Key.f
  rw [shown_eq, if_pos (by omega), if_pos (by omega)]
  simp only [Option.bind_some, if_true]
  rw [ov_eq, in_eq, may_eq, succ_list, succ_list]
  simp only [Option.bind_some, ovP, mayP, key_in, key_em]
  by_cases e : a.toList = b.toList
  · by_cases h : m = 1 <;> by_cases h2 : m = 2 <;> simp [h, h2, e]
  · have e2 : ¬ b.toList = a.toList := fun h => e h.symm
    by_cases h : m = 1 <;> by_cases h2 : m = 2 <;> simp [h, h2, e, e2]
end Go.Proofs.Ytdobceajlplfhaa.SpanPure
