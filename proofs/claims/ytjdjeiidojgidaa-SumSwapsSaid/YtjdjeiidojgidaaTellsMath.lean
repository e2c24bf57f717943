/- A byte that was changed, and two bytes that changed places: the sum is another one. -/
import Derived.Test.YtjdjeiidojgidaaSumMath
import Derived.Test.YtjdjeiidojgidaaDecFacts
namespace Go.Proofs.Ytjdjeiidojgidaa.SumM
open Go Go.Proofs.Ytjdjeiidojgidaa.DecM

theorem fst_ne (l : List UInt8) : ∀ p q : Nat × Nat, p.1 < 65521 → q.1 < 65521 → p.1 ≠ q.1 → (sumL p l).1 ≠ (sumL q l).1 := by
  induction l with
  | nil => intro p q _ _ h; exact h
  | cons c l ih =>
    intro p q hp hq h
    rw [sumL_cons, sumL_cons]
    have hc := c.toNat_lt
    refine ih _ _ (stepS_lt p c).1 (stepS_lt q c).1 ?_
    unfold stepS
    simp only []
    omega
theorem fst_eq (l : List UInt8) : ∀ p q : Nat × Nat, p.1 = q.1 → (sumL p l).1 = (sumL q l).1 := by
  induction l with
  | nil => intro p q h; exact h
  | cons c l ih =>
    intro p q h
    rw [sumL_cons, sumL_cons]
    refine ih _ _ ?_
    unfold stepS
    rw [h]
theorem snd_ne (l : List UInt8) : ∀ p q : Nat × Nat, p.1 = q.1 → p.2 < 65521 → q.2 < 65521 → p.2 ≠ q.2 → (sumL p l).2 ≠ (sumL q l).2 := by
  induction l with
  | nil => intro p q _ _ _ h; exact h
  | cons c l ih =>
    intro p q he hp hq h
    rw [sumL_cons, sumL_cons]
    refine ih _ _ ?_ (stepS_lt p c).2 (stepS_lt q c).2 ?_
    · unfold stepS
      rw [he]
    · unfold stepS
      simp only [he]
      have : (q.1 + c.toNat) % 65521 < 65521 := Nat.mod_lt _ (by omega)
      omega
theorem sumV_ne {p q : Nat × Nat} (hp : p.1 < 65521) (hq : q.1 < 65521) (h : p.1 ≠ q.1 ∨ p.2 ≠ q.2) : sumV p ≠ sumV q := by
  unfold sumV
  omega
theorem of_tells {s t : ByteArray} {a c : List UInt8} {x y : UInt8} (hs : s.data.toList = a ++ x :: c) (ht : t.data.toList = a ++ y :: c) (h : x ≠ y) : ofS t ≠ ofS s := by
  unfold ofS
  rw [hs, ht, sumL_append, sumL_append, sumL_cons, sumL_cons]
  have hlt := sum_lt a
  have hx := x.toNat_lt
  have hy := y.toNat_lt
  have hne : x.toNat ≠ y.toNat := fun e => h (UInt8.toNat_inj.mp e)
  refine sumV_ne (sumL_lt c _ (stepS_lt _ y).1 (stepS_lt _ y).2).1 (sumL_lt c _ (stepS_lt _ x).1 (stepS_lt _ x).2).1 (.inl ?_)
  refine fst_ne c _ _ (stepS_lt _ y).1 (stepS_lt _ x).1 ?_
  unfold stepS
  simp only []
  omega
theorem of_swaps {s t : ByteArray} {a c : List UInt8} {x y : UInt8} (hs : s.data.toList = a ++ x :: y :: c) (ht : t.data.toList = a ++ y :: x :: c) (h : x ≠ y) : ofS t ≠ ofS s := by
  unfold ofS
  rw [hs, ht, sumL_append, sumL_append, sumL_cons, sumL_cons, sumL_cons, sumL_cons]
  have hlt := sum_lt a
  have hx := x.toNat_lt
  have hy := y.toNat_lt
  have hne : x.toNat ≠ y.toNat := fun e => h (UInt8.toNat_inj.mp e)
  generalize sumL (1, 0) a = p at *
  refine sumV_ne (sumL_lt c _ (stepS_lt _ x).1 (stepS_lt _ x).2).1 (sumL_lt c _ (stepS_lt _ y).1 (stepS_lt _ y).2).1 (.inr ?_)
  refine snd_ne c _ _ ?_ (stepS_lt _ x).2 (stepS_lt _ y).2 ?_
  · unfold stepS
    simp only []
    omega
  · unfold stepS
    simp only []
    omega
/-- A text's bytes as numbers, one of them another. -/
def numsOf (s : ByteArray) : List Int := s.data.toList.map fun c => (c.toNat : Int)
theorem numsOf_len (s : ByteArray) : (numsOf s).length = s.size := by
  unfold numsOf
  rw [List.length_map, len_size]
theorem str_nums (l : List UInt8) : (strOfNums (l.map fun c => (c.toNat : Int))).data.toList = l := by
  rw [strOfNums_data, List.map_map]
  have : ((fun n : Int => UInt8.ofNat n.toNat) ∘ fun c : UInt8 => (c.toNat : Int)) = id := by
    funext c
    simp
  rw [this, List.map_id]
end Go.Proofs.Ytjdjeiidojgidaa.SumM
