/- Plain words for the sums of texts (Adler-32). -/
import Derived.WalkKit
namespace Go.Proofs.Ytjdjeiidojgidaa.SumM
open Go

/-- One byte more. -/
def stepS (p : Nat × Nat) (c : UInt8) : Nat × Nat := ((p.1 + c.toNat) % 65521, (p.2 + (p.1 + c.toNat) % 65521) % 65521)
/-- Both halves behind bytes. -/
def sumL (p : Nat × Nat) (l : List UInt8) : Nat × Nat := l.foldl stepS p
def sumV (p : Nat × Nat) : Nat := 65536 * p.2 + p.1
/-- The sum of a text. -/
def ofS (s : ByteArray) : Nat := sumV (sumL (1, 0) s.data.toList)
theorem sumL_nil (p : Nat × Nat) : sumL p [] = p := rfl
theorem sumL_cons (p : Nat × Nat) (c : UInt8) (l : List UInt8) : sumL p (c :: l) = sumL (stepS p c) l := rfl
theorem sumL_append (p : Nat × Nat) (a b : List UInt8) : sumL p (a ++ b) = sumL (sumL p a) b := by simp [sumL, List.foldl_append]
theorem stepS_lt (p : Nat × Nat) (c : UInt8) : (stepS p c).1 < 65521 ∧ (stepS p c).2 < 65521 := ⟨Nat.mod_lt _ (by omega), Nat.mod_lt _ (by omega)⟩
theorem sumL_lt (l : List UInt8) : ∀ p : Nat × Nat, p.1 < 65521 → p.2 < 65521 → (sumL p l).1 < 65521 ∧ (sumL p l).2 < 65521 := by
  induction l with
  | nil => intro p h1 h2; exact ⟨h1, h2⟩
  | cons c l ih =>
    intro p _ _
    rw [sumL_cons]
    exact ih _ (stepS_lt p c).1 (stepS_lt p c).2
theorem sum_lt (l : List UInt8) : (sumL (1, 0) l).1 < 65521 ∧ (sumL (1, 0) l).2 < 65521 := sumL_lt l (1, 0) (by omega) (by omega)
theorem take_next (s : ByteArray) (k : Nat) (h : k < s.size) : s.data.toList.take (k + 1) = s.data.toList.take k ++ [s[k]] := by
  rw [List.take_succ_eq_append_getElem (by simpa using h)]
  rfl
end Go.Proofs.Ytjdjeiidojgidaa.SumM
