/- Plain words for the decimal encoding: a number's figures, how many figures begin a text, what they tell, the number that begins a text. -/
import Derived.Laws.BytesArg
namespace Go.Proofs.Ytlpcidjmaeicoaa.DecM
open Go

/-- The figures of a number, as bytes. -/
def numL (n : Nat) : List Int := if n < 10 then [48 + (n : Int)] else numL (n / 10) ++ [48 + ((n % 10 : Nat) : Int)]
termination_by n
theorem numL_small {n : Nat} (h : n < 10) : numL n = [48 + (n : Int)] := by
  rw [numL, if_pos h]
theorem numL_big {n : Nat} (h : ¬ n < 10) : numL n = numL (n / 10) ++ [48 + ((n % 10 : Nat) : Int)] := by
  rw [numL, if_neg h]
/-- The encoding of a number. -/
def numS (n : Nat) : ByteArray := strOfNums (numL n ++ [59])
def two64 : Nat := 18446744073709551616
theorem two64_eq : two64 = 18446744073709551616 := rfl
attribute [irreducible] two64

theorem set_drop (zs : List Int) (i : Nat) (c : Int) (h : i < zs.length) : (zs.set i c).drop i = c :: zs.drop (i + 1) := by
  rw [List.drop_eq_getElem_cons (by simpa using h)]
  simp [List.drop_set_of_lt]
theorem pow_step {u i : Nat} (h : u < 10 ^ i) (h10 : ¬ u < 10) : 2 ≤ i ∧ u / 10 < 10 ^ (i - 1) := by
  have h2 : 2 ≤ i := by
    rcases i with _ | _ | i
    · simp at h; omega
    · simp at h; omega
    · omega
  refine ⟨h2, ?_⟩
  obtain ⟨j, rfl⟩ : ∃ j, i = j + 1 := ⟨i - 1, by omega⟩
  rw [Nat.pow_succ] at h
  simp only [Nat.add_sub_cancel]
  omega
theorem numL_len (d : Nat) : ∀ n, n < 10 ^ (d + 1) → (numL n).length ≤ d + 1 := by
  induction d with
  | zero =>
    intro n h
    rw [numL_small (by simpa using h)]
    simp
  | succ d ih =>
    intro n h
    by_cases h10 : n < 10
    · rw [numL_small h10]
      simp
    · rw [numL_big h10, List.length_append]
      have := ih (n / 10) (by rw [Nat.pow_succ] at h; omega)
      simp
      omega
theorem numS_size (n : Nat) (h : n < 18446744073709551616) : (numS n).size ≤ 21 := by
  unfold numS
  rw [strOfNums_size, List.length_append]
  have := numL_len 19 n (by omega)
  simp
  omega
/-- Is a byte a figure? -/
def isD (c : UInt8) : Bool := decide (48 ≤ c.toNat) && decide (c.toNat ≤ 57)
theorem isD_iff (c : UInt8) : isD c = true ↔ 48 ≤ c.toNat ∧ c.toNat ≤ 57 := by simp [isD]
/-- What figures tell, behind a number. -/
def vfrom (v : Nat) (l : List UInt8) : Nat := l.foldl (fun v c => 10 * v + (c.toNat - 48)) v
def val (l : List UInt8) : Nat := vfrom 0 l
theorem vfrom_nil (v : Nat) : vfrom v [] = v := rfl
theorem vfrom_cons (v : Nat) (c : UInt8) (l : List UInt8) : vfrom v (c :: l) = vfrom (10 * v + (c.toNat - 48)) l := by
  simp only [vfrom, List.foldl_cons]
theorem vfrom_append (v : Nat) (a b : List UInt8) : vfrom v (a ++ b) = vfrom (vfrom v a) b := by simp [vfrom, List.foldl_append]
theorem vfrom_le (l : List UInt8) : ∀ v, v ≤ vfrom v l := by
  induction l with
  | nil => intro v; exact Nat.le_refl _
  | cons c l ih =>
    intro v
    rw [vfrom_cons]
    have := ih (10 * v + (c.toNat - 48))
    omega
/-- How many figures begin a text. -/
def nd (l : List UInt8) : Nat := (l.takeWhile isD).length
theorem nd_le (l : List UInt8) : nd l ≤ l.length := by
  unfold nd
  exact (List.takeWhile_prefix isD).length_le
theorem nd_take (l : List UInt8) : l.take (nd l) = l.takeWhile isD := by
  unfold nd
  exact (List.prefix_iff_eq_take.mp (List.takeWhile_prefix isD)).symm
theorem nd_digits (l : List UInt8) (c : UInt8) (h : c ∈ l.take (nd l)) : isD c = true := by
  rw [nd_take] at h
  exact (List.all_eq_true.mp (List.all_takeWhile (p := isD) (l := l))) c h
theorem nd_at (l : List UInt8) (i : Nat) (h : i < nd l) : ∃ h2 : i < l.length, isD l[i] = true := by
  have h2 : i < l.length := Nat.lt_of_lt_of_le h (nd_le l)
  refine ⟨h2, nd_digits l _ ?_⟩
  rw [List.mem_take_iff_getElem]
  exact ⟨i, by omega, rfl⟩
theorem nd_stop (l : List UInt8) (h : nd l < l.length) : isD l[nd l] = false := by
  induction l with
  | nil => simp at h
  | cons c l ih =>
    cases hc : isD c with
    | false =>
      have e : nd (c :: l) = 0 := by simp [nd, hc]
      simp only [e, List.getElem_cons_zero, hc]
    | true =>
      have e : nd (c :: l) = nd l + 1 := by simp [nd, hc]
      simp only [e, List.getElem_cons_succ]
      exact ih (by rw [e] at h; simpa using h)
/-- The number that begins bytes, what stands behind it, and how it went. -/
def takeNum (s : ByteArray) : Int × ByteArray × Int :=
  let l := s.data.toList
  let n := nd l
  if 20 < n then (0, ByteArray.empty, 3)
  else if (1 < n ∧ l[0]? = some 48) ∨ ¬ val (l.take n) < two64 ∨ (n < l.length ∧ (n = 0 ∨ ¬ l[n]? = some 59)) then (0, ByteArray.empty, 3)
  else if n = l.length then (0, ByteArray.empty, 2)
  else ((val (l.take n) : Int), s.extract (n + 1) s.size, 0)
end Go.Proofs.Ytlpcidjmaeicoaa.DecM
