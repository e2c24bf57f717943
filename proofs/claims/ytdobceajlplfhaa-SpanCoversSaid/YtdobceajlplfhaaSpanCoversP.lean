/- The law SpanCovers holds of the printed function. -/
import Derived.Test.YtdobceajlplfhaaSpanRef
import Derived.Test.YtdobceajlplfhaaQSpanx10
namespace Go.Proofs.Ytdobceajlplfhaa.SpanPure
open Go Go.RowKit Go.Proofs.Ytdobceajlplfhaa.QSpan Go.Proofs.YtdobceajlplfhaaW.PrintWords Go.Proofs.YtdobceajlplfhaaW.PrintLast
theorem Covers (am : Int) (al ah : ByteArray) (bm : Int) (bl bh : ByteArray) (cm : Int) (cl ch key : ByteArray) : ∃ k, stanchionlaw09_SpanCovers.f k am al ah bm bl bh cm cl ch key = some true := by
  refine ⟨0 + 1, ?_⟩
  unfold stanchionlaw09_SpanCovers.f
  simp only [shown_eq, in_eq, co_eq, cl_eq, Option.bind_some]
  generalize al.toList = a1
  generalize ah.toList = a2
  generalize bl.toList = b1
  generalize bh.toList = b2
  generalize cl.toList = c1
  generalize ch.toList = c2
  generalize key.toList = c
  by_cases h : coP am a1 a2 bm b1 b2
  · have h1 : inP b1 b2 c → inP a1 a2 c := co_in h
    have h2 : clP bm b1 b2 cm c1 c2 → clP am a1 a2 cm c1 c2 := co_cl cm c1 c2 h
    by_cases h3 : inP b1 b2 c <;> by_cases h4 : clP bm b1 b2 cm c1 c2 <;> simp_all
  · simp [h]
end Go.Proofs.Ytdobceajlplfhaa.SpanPure
