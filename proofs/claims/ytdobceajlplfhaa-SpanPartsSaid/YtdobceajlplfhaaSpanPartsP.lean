/- The law SpanParts holds of the printed function. -/
import Derived.Test.YtdobceajlplfhaaSpanRef
import Derived.Test.YtdobceajlplfhaaQSpanx4
namespace Go.Proofs.Ytdobceajlplfhaa.SpanPure
open Go Go.RowKit Go.Proofs.Ytdobceajlplfhaa.QSpan Go.Proofs.YtdobceajlplfhaaW.PrintWords Go.Proofs.YtdobceajlplfhaaW.PrintLast
theorem Parts (am : Int) (al ah mid : ByteArray) (bm : Int) (bl bh : ByteArray) : ∃ k, stanchionlaw09_SpanParts.f k am al ah mid bm bl bh = some true := by
  refine ⟨0 + 1 + 1, ?_⟩
  unfold stanchionlaw09_SpanParts.f
  simp only [stanchionlaw09_SpanParts.j0, shown_eq, in_eq, ov_eq, Option.bind_some]
  generalize al.toList = a1
  generalize ah.toList = a2
  generalize bl.toList = b1
  generalize bh.toList = b2
  generalize mid.toList = c
  have n1 : ¬ a1 < ([] : B) := List.not_lt_nil a1
  have n2 : ¬ b1 < ([] : B) := List.not_lt_nil b1
  have n3 : ¬ c < ([] : B) := List.not_lt_nil c
  by_cases h0 : c = []
  · simp [h0]
  by_cases h1 : inP a1 a2 c
  · have s1 : ovP a1 a2 b1 b2 ↔ (ovP a1 c b1 b2 ∨ ovP c a2 b1 b2) := by
      unfold ovP inP emP
      unfold inP at h1
      grind
    have s2 : ¬ ovP a1 c c a2 := by
      unfold ovP inP emP
      grind
    simp only [h0, h1, s2]
    simp only [s1]
    by_cases h2 : ovP a1 c b1 b2 <;> by_cases h3 : ovP c a2 b1 b2 <;> simp [h2, h3]
  · simp [h0, h1]
end Go.Proofs.Ytdobceajlplfhaa.SpanPure
