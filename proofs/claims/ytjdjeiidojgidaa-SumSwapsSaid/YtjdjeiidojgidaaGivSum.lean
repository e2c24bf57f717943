/- The reference's Of and Join compute the same plain words; the contracts of sum.Of, sum.Join and these as the printed texts use them. -/
import Derived.Test.YtjdjeiidojgidaaJoin
import Derived.Test.YtjdjeiidojgidaaGiv
namespace Go.Proofs.Ytjdjeiidojgidaa.Giv
open Go Go.RowKit Go.Proofs.Ytjdjeiidojgidaa.DecM Go.Proofs.Ytjdjeiidojgidaa.SumM Go.Proofs.Ytjdjeiidojgidaa.QT Go.Proofs.YtjdjeiidojgidaaW.PrintWords Go.Proofs.YtjdjeiidojgidaaW.PrintLast

theorem wrap_small {x : Int} (h : -9223372036854775808 ≤ x ∧ x ≤ 9223372036854775807) : wrap64 x = x := by
  unfold wrap64
  omega
theorem refOf_from (s : ByteArray) (hs : s.size ≤ 9223372036854775807) (d : Nat) : ∀ (k i a b : Nat), s.size - i = d → i ≤ s.size → a < 65521 → b < 65521 → d < k →
    stanchionref02_Of.l0 k s (a : Int) (b : Int) (i : Int) = some ((sumV (sumL (a, b) (s.data.toList.drop i)) : Nat) : Int) := by
  induction d with
  | zero =>
    intro k i a b hd hi ha hb hk
    obtain ⟨k, rfl⟩ : ∃ m, k = m + 1 := ⟨k - 1, by omega⟩
    simp only [stanchionref02_Of.l0]
    rw [if_neg (by omega), data_none s i (by omega), sumL_nil, wrap_small (x := 65536 * (b : Int)) (by omega), wrap_small (by omega)]
    unfold sumV
    simp only []
    congr 1
    omega
  | succ d ih =>
    intro k i a b hd hi ha hb hk
    obtain ⟨k, rfl⟩ : ∃ m, k = m + 1 := ⟨k - 1, by omega⟩
    have hlt : i < s.size := by omega
    obtain ⟨u, hu, hbu⟩ := data_drop s i hlt
    have hc := u.toNat_lt
    simp only [stanchionref02_Of.l0]
    have e1 : Int.tmod (wrap64 ((a : Int) + wrap64 (u.toNat : Int))) 65521 = (((a + u.toNat) % 65521 : Nat) : Int) := by
      rw [wrap_small (x := (u.toNat : Int)) (by omega), wrap_small (by omega), Int.tmod_eq_emod_of_nonneg (by omega)]
      omega
    have e2 : Int.tmod (wrap64 ((b : Int) + (((a + u.toNat) % 65521 : Nat) : Int))) 65521 = (((b + (a + u.toNat) % 65521) % 65521 : Nat) : Int) := by
      rw [wrap_small (by omega), Int.tmod_eq_emod_of_nonneg (by omega)]
      omega
    rw [if_pos (by omega), if_pos (by omega), hbu, e1, e2, next_eq hlt hs, hu, sumL_cons]
    exact ih k (i + 1) _ _ (by omega) (by omega) (Nat.mod_lt _ (by omega)) (Nat.mod_lt _ (by omega)) (by omega)
theorem refOf_eq (s : ByteArray) (hs : s.size ≤ 9223372036854775807) : stanchionref02_Of.f (s.size + 1) s = some ((ofS s : Nat) : Int) := by
  unfold stanchionref02_Of.f ofS
  have := refOf_from s hs s.size (s.size + 1) 0 1 0 (by omega) (by omega) (by omega) (by omega) (by omega)
  simpa using this
theorem refJoin_eq (a b : Nat) (n : Int) (ha : a < 4294967296) (hb : b < 4294967296) (hn : -9223372036854775808 ≤ n ∧ n ≤ 9223372036854775807) :
    stanchionref02_Join.f (a : Int) (b : Int) n = some (joinS (a % 65536) (a / 65536) (b % 65536) (b / 65536) n) := by
  unfold stanchionref02_Join.f
  have e1 : wrap64 (Int.tmod (a : Int) 65536) = ((a % 65536 : Nat) : Int) := by
    rw [Int.tmod_eq_emod_of_nonneg (by omega), wrap_small (by omega)]
    omega
  have e2 : Int.tdiv (a : Int) 65536 % 4294967296 = ((a / 65536 : Nat) : Int) := by
    rw [Int.tdiv_eq_ediv_of_nonneg (by omega)]
    omega
  have e3 : wrap64 (Int.tmod (b : Int) 65536) = ((b % 65536 : Nat) : Int) := by
    rw [Int.tmod_eq_emod_of_nonneg (by omega), wrap_small (by omega)]
    omega
  have e4 : Int.tdiv (b : Int) 65536 % 4294967296 = ((b / 65536 : Nat) : Int) := by
    rw [Int.tdiv_eq_ediv_of_nonneg (by omega)]
    omega
  rw [e1, e2, e3, e4]
  have l1 : a % 65536 < 65536 := Nat.mod_lt _ (by omega)
  have l2 : a / 65536 < 65536 := by omega
  have l3 : b % 65536 < 65536 := Nat.mod_lt _ (by omega)
  have l4 : b / 65536 < 65536 := by omega
  generalize a % 65536 = la at *
  generalize a / 65536 = ua at *
  generalize b % 65536 = lb at *
  generalize b / 65536 = ub at *
  clear e1 e2 e3 e4
  unfold joinS
  by_cases h0 : n < 0
  · rw [if_pos h0, if_pos (.inl h0)]
  rw [if_neg h0]
  by_cases h1 : 65521 ≤ la
  · rw [if_pos (by omega), if_pos (by omega)]
  rw [if_neg (by omega)]
  by_cases h2 : 65521 ≤ ua
  · rw [if_pos (by omega), if_pos (by omega)]
  rw [if_neg (by omega)]
  by_cases h3 : 65521 ≤ lb
  · rw [if_pos (by omega), if_pos (by omega)]
  rw [if_neg (by omega)]
  by_cases h4 : 65521 ≤ ub
  · rw [if_pos (by omega), if_pos (by omega)]
  rw [if_neg (by omega), if_neg (by omega)]
  obtain ⟨p, hp⟩ : ∃ p, p = (n.toNat % 65521) * ((la + 65520) % 65521) := ⟨_, rfl⟩
  have hpb : p ≤ 4292870400 := by
    rw [hp]
    exact Nat.mul_le_mul (show n.toNat % 65521 ≤ 65520 by omega) (show (la + 65520) % 65521 ≤ 65520 by omega)
  have f1 : Int.tmod n 65521 = ((n.toNat % 65521 : Nat) : Int) := by
    rw [Int.tmod_eq_emod_of_nonneg (by omega)]
    omega
  have f2 : Int.tmod (wrap64 ((la : Int) + 65520)) 65521 = (((la + 65520) % 65521 : Nat) : Int) := by
    rw [wrap_small (by omega), Int.tmod_eq_emod_of_nonneg (by omega)]
    omega
  rw [f1, f2, ← Int.natCast_mul, ← hp]
  clear hp f1 f2
  rw [wrap_small (x := (p : Int)) (by omega), wrap_small (x := (ua : Int) + ub + p) (by omega), Int.tmod_eq_emod_of_nonneg (a := (ua : Int) + ub + p) (by omega)]
  have f3 : ((ua : Int) + ub + p) % 65521 = (((ua + ub + p) % 65521 : Nat) : Int) := by omega
  rw [f3]
  have m1 : (ua + ub + p) % 65521 < 65521 := Nat.mod_lt _ (by omega)
  generalize (ua + ub + p) % 65521 = up at *
  rw [wrap_small (x := 65536 * (up : Int)) (by omega), wrap_small (x := (la : Int) + lb) (by omega), wrap_small (x := (la : Int) + lb + 65520) (by omega), Int.tmod_eq_emod_of_nonneg (a := (la : Int) + lb + 65520) (by omega)]
  have f4 : ((la : Int) + lb + 65520) % 65521 = (((la + lb + 65520) % 65521 : Nat) : Int) := by omega
  rw [f4]
  have m2 : (la + lb + 65520) % 65521 < 65521 := Nat.mod_lt _ (by omega)
  generalize (la + lb + 65520) % 65521 = low at *
  rw [wrap_small (by omega), show (65536 * (up : Int) + (low : Int)) % 4294967296 = ((65536 * up + low : Nat) : Int) by omega]
theorem refOf_calls (s : ByteArray) (w : World) (hs : s.size ≤ 9223372036854775807) :
    Calls Try.prog 14 #[.string s] w fun e w' => e = .returned (.int .u32 (ofS s)) ∧ Below w.heap.size w w' :=
  (stanchionref02_Of.calls (s.size + 1) s _ w (refOf_eq s hs)).mono fun _ _ ⟨he, hw⟩ => ⟨he, hw.below⟩
theorem refJoin_calls (a b : Nat) (n : Int) (w : World) (ha : a < 4294967296) (hb : b < 4294967296) (hn : -9223372036854775808 ≤ n ∧ n ≤ 9223372036854775807) :
    Calls Try.prog 18 #[.int .u32 a, .int .u32 b, .int .i64 n] w (JEnds w (joinS (a % 65536) (a / 65536) (b % 65536) (b / 65536) n)) :=
  (stanchionref02_Join.calls (a : Int) (b : Int) n _ _ w (refJoin_eq a b n ha hb hn)).mono fun _ _ ⟨he, hw⟩ => ⟨he, hw.below⟩
end Go.Proofs.Ytjdjeiidojgidaa.Giv
namespace Go.Proofs.Ytjdjeiidojgidaa.QDec
open Go Go.RowKit Go.Proofs.Ytjdjeiidojgidaa.SumM Go.Proofs.Ytjdjeiidojgidaa.Giv

def sum_Of.f (a0 : ByteArray) : Option (Int) := if a0.size ≤ 9223372036854775807 then some ((ofS a0 : Nat) : Int) else none
theorem sum_Of.calls (a0 : ByteArray) (r : Int) (w : World) (h : sum_Of.f a0 = some r) :
    Calls Try.prog 13 #[.string a0] w fun e w' => e = .returned (.int .u32 r) ∧ Below w.heap.size w w' := by
  unfold sum_Of.f at h
  by_cases hs : a0.size ≤ 9223372036854775807
  · rw [if_pos hs] at h
    have hv := of_calls a0 w hs
    rw [Option.some.inj h] at hv
    exact hv
  · rw [if_neg hs] at h
    cases h
def stanchionref02_Of.f (a0 : ByteArray) : Option (Int) := if a0.size ≤ 9223372036854775807 then some ((ofS a0 : Nat) : Int) else none
theorem stanchionref02_Of.calls (a0 : ByteArray) (r : Int) (w : World) (h : stanchionref02_Of.f a0 = some r) :
    Calls Try.prog 14 #[.string a0] w fun e w' => e = .returned (.int .u32 r) ∧ Below w.heap.size w w' := by
  unfold stanchionref02_Of.f at h
  by_cases hs : a0.size ≤ 9223372036854775807
  · rw [if_pos hs] at h
    have hv := refOf_calls a0 w hs
    rw [Option.some.inj h] at hv
    exact hv
  · rw [if_neg hs] at h
    cases h
def JoinOk (a0 a1 a2 : Int) : Prop := (0 ≤ a0 ∧ a0 < 4294967296) ∧ (0 ≤ a1 ∧ a1 < 4294967296) ∧ (-9223372036854775808 ≤ a2 ∧ a2 ≤ 9223372036854775807)
instance (a0 a1 a2 : Int) : Decidable (JoinOk a0 a1 a2) := by unfold JoinOk; infer_instance
def joinI (a0 a1 a2 : Int) : Int × Int := joinS (a0.toNat % 65536) (a0.toNat / 65536) (a1.toNat % 65536) (a1.toNat / 65536) a2
def sum_Join.f (a0 a1 a2 : Int) : Option (Int × Int) := if JoinOk a0 a1 a2 then some (joinI a0 a1 a2) else none
theorem sum_Join.calls (a0 a1 a2 : Int) (r1 r2 : Int) (w : World) (h : sum_Join.f a0 a1 a2 = some (r1, r2)) :
    Calls Try.prog 17 #[.int .u32 a0, .int .u32 a1, .int .i64 a2] w fun e w' => e = .returned (.tuple #[.int .u32 r1, .int .i64 r2]) ∧ Below w.heap.size w w' := by
  unfold sum_Join.f at h
  by_cases hs : JoinOk a0 a1 a2
  · rw [if_pos hs] at h
    obtain ⟨h0, h1, h2⟩ := hs
    have hv := join_calls a0.toNat a1.toNat a2 _ _ _ _ w (by omega) (by omega) h2 rfl rfl rfl rfl
    rw [Int.toNat_of_nonneg h0.1, Int.toNat_of_nonneg h1.1] at hv
    have e : joinS (a0.toNat % 65536) (a0.toNat / 65536) (a1.toNat % 65536) (a1.toNat / 65536) a2 = (r1, r2) := Option.some.inj h
    unfold JEnds at hv
    rw [e] at hv
    exact hv
  · rw [if_neg hs] at h
    cases h
def stanchionref02_Join.f (a0 a1 a2 : Int) : Option (Int × Int) := if JoinOk a0 a1 a2 then some (joinI a0 a1 a2) else none
theorem stanchionref02_Join.calls (a0 a1 a2 : Int) (r1 r2 : Int) (w : World) (h : stanchionref02_Join.f a0 a1 a2 = some (r1, r2)) :
    Calls Try.prog 18 #[.int .u32 a0, .int .u32 a1, .int .i64 a2] w fun e w' => e = .returned (.tuple #[.int .u32 r1, .int .i64 r2]) ∧ Below w.heap.size w w' := by
  unfold stanchionref02_Join.f at h
  by_cases hs : JoinOk a0 a1 a2
  · rw [if_pos hs] at h
    obtain ⟨h0, h1, h2⟩ := hs
    have hv := refJoin_calls a0.toNat a1.toNat a2 w (by omega) (by omega) h2
    rw [Int.toNat_of_nonneg h0.1, Int.toNat_of_nonneg h1.1] at hv
    have e : joinS (a0.toNat % 65536) (a0.toNat / 65536) (a1.toNat % 65536) (a1.toNat / 65536) a2 = (r1, r2) := Option.some.inj h
    unfold JEnds at hv
    rw [e] at hv
    exact hv
  · rw [if_neg hs] at h
    cases h
end Go.Proofs.Ytjdjeiidojgidaa.QDec
