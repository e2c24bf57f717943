/- The law SpanWitness holds of the printed function. -/
import Derived.Test.YtdobceajlplfhaaSpanRef
import Derived.Test.YtdobceajlplfhaaQSpanx3
namespace Go.Proofs.Ytdobceajlplfhaa.SpanPure
open Go Go.RowKit Go.Proofs.Ytdobceajlplfhaa.QSpan Go.Proofs.YtdobceajlplfhaaW.PrintWords Go.Proofs.YtdobceajlplfhaaW.PrintLast
theorem Witness (am : Int) (al ah : ByteArray) (bm : Int) (bl bh : ByteArray) (key : ByteArray) : ∃ k, stanchionlaw09_SpanWitness.f k am al ah bm bl bh key = some true := by
  refine ⟨0 + 1 + 1 + 1, ?_⟩
  unfold stanchionlaw09_SpanWitness.f
  simp only [stanchionlaw09_SpanWitness.j0, stanchionlaw09_SpanWitness.j1, shown_eq, in_eq, ov_eq, cl_eq, Option.bind_some, bl_lt]
  generalize al.toList = a1
  generalize ah.toList = a2
  generalize bl.toList = b1
  generalize bh.toList = b2
  generalize key.toList = c
  have n1 : ¬ a1 < ([] : B) := List.not_lt_nil a1
  have n2 : ¬ b1 < ([] : B) := List.not_lt_nil b1
  have n3 : ¬ c < ([] : B) := List.not_lt_nil c
  have s1 : ovP a1 a2 b1 b2 ↔ ovP b1 b2 a1 a2 := by
    unfold ovP
    grind
  have s2 : clP am a1 a2 bm b1 b2 ↔ clP bm b1 b2 am a1 a2 := by
    unfold clP
    grind
  have s3 : inP a1 a2 c → inP b1 b2 c → ovP a1 a2 b1 b2 := by
    unfold ovP inP emP
    grind
  have s4 : ovP a1 a2 b1 b2 → if a1 < b1 then inP a1 a2 b1 ∧ inP b1 b2 b1 else inP a1 a2 a1 ∧ inP b1 b2 a1 := (ov_max a1 a2 b1 b2).mp
  simp only [s1.symm, s2.symm]
  by_cases h1 : inP a1 a2 c <;> by_cases h2 : inP b1 b2 c <;> by_cases h3 : ovP a1 a2 b1 b2 <;> by_cases h4 : a1 < b1 <;> simp_all <;> grind
end Go.Proofs.Ytdobceajlplfhaa.SpanPure
