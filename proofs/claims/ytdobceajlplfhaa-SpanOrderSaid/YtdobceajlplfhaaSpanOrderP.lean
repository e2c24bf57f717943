/- The law SpanOrder holds of the printed function. -/
import Derived.Test.YtdobceajlplfhaaSpanRef
import Derived.Test.YtdobceajlplfhaaQSpanx11
namespace Go.Proofs.Ytdobceajlplfhaa.SpanPure
open Go Go.RowKit Go.Proofs.Ytdobceajlplfhaa.QSpan Go.Proofs.YtdobceajlplfhaaW.PrintWords Go.Proofs.YtdobceajlplfhaaW.PrintLast
theorem Order (am : Int) (al ah : ByteArray) (bm : Int) (bl bh : ByteArray) (cm : Int) (cl ch : ByteArray) : ∃ k, stanchionlaw09_SpanOrder.f k am al ah bm bl bh cm cl ch = some true := by
  refine ⟨0 + 1, ?_⟩
  unfold stanchionlaw09_SpanOrder.f
  simp only [shown_eq, co_eq, may_eq, Option.bind_some]
  generalize al.toList = a1
  generalize ah.toList = a2
  generalize bl.toList = b1
  generalize bh.toList = b2
  generalize cl.toList = c1
  generalize ch.toList = c2
  have s1 : coP am a1 a2 am a1 a2 ↔ mayP am a1 a2 := by
    unfold coP
    grind
  have s2 : coP am a1 a2 bm b1 b2 → coP bm b1 b2 cm c1 c2 → coP am a1 a2 cm c1 c2 := by
    unfold coP
    grind
  simp only [s1]
  by_cases h1 : coP am a1 a2 bm b1 b2 <;> by_cases h2 : coP bm b1 b2 cm c1 c2 <;> simp_all
end Go.Proofs.Ytdobceajlplfhaa.SpanPure
