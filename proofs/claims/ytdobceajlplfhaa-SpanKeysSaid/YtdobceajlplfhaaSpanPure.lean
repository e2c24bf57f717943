/- What the functions of the span package and of its reference compute, as Booleans over lists of bytes, and that the seven laws hold of them. -/
import Derived.Test.YtdobceajlplfhaaStr
import Derived.Test.YtdobceajlplfhaaQSpanx2
import Derived.Test.YtdobceajlplfhaaQSpanx5
import Derived.Test.YtdobceajlplfhaaQSpanx8
namespace Go.Proofs.Ytdobceajlplfhaa.SpanPure
open Go Go.RowKit Go.Proofs.Ytdobceajlplfhaa.QSpan Go.Proofs.YtdobceajlplfhaaW.PrintWords Go.Proofs.YtdobceajlplfhaaW.PrintLast

abbrev B := List UInt8
def inP (lo hi k : B) : Prop := ¬ k < lo ∧ (hi = [] ∨ k < hi)
def emP (lo hi : B) : Prop := ¬ hi = [] ∧ ¬ lo < hi
def ovP (al ah bl bh : B) : Prop := ¬ emP al ah ∧ ¬ emP bl bh ∧ (inP al ah bl ∨ inP bl bh al)
def clP (am : Int) (al ah : B) (bm : Int) (bl bh : B) : Prop := ovP al ah bl bh ∧ (am = 2 ∨ bm = 2)
def mayP (m : Int) (lo hi : B) : Prop := (m = 1 ∨ m = 2) ∧ ¬ emP lo hi
def coP (am : Int) (al ah : B) (bm : Int) (bl bh : B) : Prop :=
  mayP bm bl bh ∧ (am = 2 ∨ ¬ bm = 2) ∧ ((am = bm ∧ al = bl ∧ ah = bh) ∨ (¬ bl < al ∧ (ah = [] ∨ (¬ bh = [] ∧ ¬ ah < bh))))

instance (lo hi k : B) : Decidable (inP lo hi k) := by unfold inP; infer_instance
instance (lo hi : B) : Decidable (emP lo hi) := by unfold emP; infer_instance
instance (al ah bl bh : B) : Decidable (ovP al ah bl bh) := by unfold ovP; infer_instance
instance (am : Int) (al ah : B) (bm : Int) (bl bh : B) : Decidable (clP am al ah bm bl bh) := by unfold clP; infer_instance
instance (m : Int) (lo hi : B) : Decidable (mayP m lo hi) := by unfold mayP; infer_instance
instance (am : Int) (al ah : B) (bm : Int) (bl bh : B) : Decidable (coP am al ah bm bl bh) := by unfold coP; infer_instance

theorem in_eq (m : Int) (lo hi k : ByteArray) : span_In.f m lo hi k = some (decide (inP lo.toList hi.toList k.toList)) := by
  unfold span_In.f
  simp only [bl_lt, inP]
  by_cases h1 : k.toList < lo.toList <;> by_cases h2 : hi.toList = [] <;> simp [h1, h2]
theorem em_eq (m : Int) (lo hi : ByteArray) : span_empty.f m lo hi = some (decide (emP lo.toList hi.toList)) := by
  unfold span_empty.f
  simp only [bl_lt, emP]
  by_cases h2 : hi.toList = [] <;> by_cases h1 : lo.toList < hi.toList <;> simp [h1, h2]
theorem ov_eq (k : Nat) (am : Int) (al ah : ByteArray) (bm : Int) (bl bh : ByteArray) : span_Overlap.f (k + 1) am al ah bm bl bh = some (decide (ovP al.toList ah.toList bl.toList bh.toList)) := by
  unfold span_Overlap.f span_Overlap.j0
  simp only [em_eq, in_eq, Option.bind_some]
  unfold ovP
  by_cases h1 : emP al.toList ah.toList
  · simp [h1]
  · by_cases h2 : emP bl.toList bh.toList
    · simp [h1, h2]
    · by_cases h3 : inP al.toList ah.toList bl.toList <;> simp [h1, h2, h3]
theorem cl_eq (k : Nat) (am : Int) (al ah : ByteArray) (bm : Int) (bl bh : ByteArray) : span_Clash.f (k + 1) am al ah bm bl bh = some (decide (clP am al.toList ah.toList bm bl.toList bh.toList)) := by
  unfold span_Clash.f
  simp only [ov_eq, Option.bind_some]
  unfold clP
  by_cases h : am = 2 <;> by_cases h2 : bm = 2 <;> by_cases h3 : ovP al.toList ah.toList bl.toList bh.toList <;> simp [h, h2, h3]
theorem may_eq (k : Nat) (m : Int) (lo hi : ByteArray) : span_May.f (k + 1) m lo hi = some (decide (mayP m lo.toList hi.toList)) := by
  unfold span_May.f span_May.j0
  simp only [em_eq, Option.bind_some]
  unfold mayP
  by_cases h : m = 1 <;> by_cases h2 : m = 2 <;> by_cases h3 : emP lo.toList hi.toList <;> simp [h, h2, h3]
theorem co_eq (k : Nat) (am : Int) (al ah : ByteArray) (bm : Int) (bl bh : ByteArray) : span_Covers.f (k + 1) am al ah bm bl bh = some (decide (coP am al.toList ah.toList bm bl.toList bh.toList)) := by
  unfold span_Covers.f span_Covers.j0
  simp only [may_eq, Option.bind_some, bl_lt]
  unfold coP
  by_cases h : mayP bm bl.toList bh.toList
  · simp only [h, decide_true, true_and, if_true]
    generalize al.toList = a1
    generalize ah.toList = a2
    generalize bl.toList = b1
    generalize bh.toList = b2
    by_cases h8 : a2 < b2 <;> grind
  · simp only [h, decide_false, false_and]
    simp

theorem succ_list (k : ByteArray) : (k ++ (⟨#[0]⟩ : ByteArray)).toList = k.toList ++ [0] := by
  simp [Lib.toList_data]
theorem a_list : (⟨#[97]⟩ : ByteArray).toList = [97] := by simp [Lib.toList_data]
theorem b_list : (⟨#[98]⟩ : ByteArray).toList = [98] := by simp [Lib.toList_data]
theorem shown_eq (k : Nat) : stanchionlaw09_shown.f (k + 1) = some true := by
  have e : (⟨#[97]⟩ : ByteArray).size + 1 ≤ 9223372036854775807 := by decide
  unfold stanchionlaw09_shown.f span_Key.f
  simp only [if_pos e, Option.bind_some, cl_eq, ov_eq, succ_list, a_list, b_list]
  have e2 : ([97] : B) < [98] := by decide
  simp [clP, ovP, emP, inP, e2]
end Go.Proofs.Ytdobceajlplfhaa.SpanPure
