/- Comparisons of texts (less-or-equal, greater, greater-or-equal) as the printed functions spell them: laws for the walk, and the order of texts. -/
import Derived.WalkKit
import Derived.Lib.Strings
namespace Go.Proofs.Ytlpcidjmaeicoaa
open Go

theorem bl_lt (a b : List UInt8) : Op.bytesLess a b = decide (a < b) := by
  induction a generalizing b with
  | nil => cases b <;> simp [Op.bytesLess]
  | cons x a ih =>
    cases b with
    | nil => simp [Op.bytesLess]
    | cons y b =>
      have e : (x == y) = decide (x = y) := by
        by_cases h : x = y <;> simp [h]
      simp [Op.bytesLess, ih, List.cons_lt_cons_iff, e]

theorem bl_leq (a b : List UInt8) : (Op.bytesLess a b || a == b) = !Op.bytesLess b a := by
  rw [bl_lt, bl_lt]
  by_cases h : a = b
  · subst h
    simp
  · have e : (a == b) = false := beq_eq_false_iff_ne.mpr h
    rw [e]
    by_cases h2 : a < b
    · have h3 : ¬ b < a := by grind
      simp [h2, h3]
    · have h3 : b < a := by grind
      simp [h2, h3]

@[go_sem] theorem binOp_string_leq2 (t : TypeId) (a b : ByteArray) : binOp .leq t (.string a) (.string b) = pure (.bool !(Op.bytesLess b.toList a.toList)) := by
  simp [binOp, Op.stringOp, bl_leq]
@[go_sem] theorem binOp_string_gtr2 (t : TypeId) (a b : ByteArray) : binOp .gtr t (.string a) (.string b) = pure (.bool (Op.bytesLess b.toList a.toList)) := by
  simp [binOp, Op.stringOp, bl_leq]
@[go_sem] theorem binOp_string_geq2 (t : TypeId) (a b : ByteArray) : binOp .geq t (.string a) (.string b) = pure (.bool !(Op.bytesLess a.toList b.toList)) := by
  simp [binOp, Op.stringOp]
end Go.Proofs.Ytlpcidjmaeicoaa
