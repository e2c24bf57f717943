/- A row of texts (or of numbers) among the arguments, opened for the printed contracts; what the bound on the bulk says of it. -/
import Derived.Test.YtlpcidjmaeicoaaRows
import Derived.Test.YtlpcidjmaeicoaaWMore
import Derived.SliceStrings
import Derived.ChangeSlices
namespace Go.Proofs.Ytlpcidjmaeicoaa.OpenRow
open Go Go.ChangeShapes Go.WideShapes Go.RowKit Go.Proofs.YtlpcidjmaeicoaaW.PrintWords

/-- How many letters and texts a row holds. -/
def rowBulk : List ByteArray → Nat
  | [] => 0
  | t :: l => t.size + 1 + rowBulk l
theorem rowBulk_len : ∀ l : List ByteArray, l.length ≤ rowBulk l
  | [] => Nat.le_refl _
  | t :: l => by
    have := rowBulk_len l
    rw [List.length_cons, rowBulk]
    omega
theorem rowBulk_mem : ∀ (l : List ByteArray) (t : ByteArray), t ∈ l → t.size + 1 ≤ rowBulk l
  | [], t, h => by cases h
  | x :: l, t, h => by
    rw [rowBulk]
    rcases List.mem_cons.1 h with rfl | h
    · omega
    · have := rowBulk_mem l t h
      omega
theorem bulk_strs {H : Type} : ∀ l : List ByteArray, Rows.uptoBulkAll (strs l : List (DataW H)) = rowBulk l
  | [] => by simp [strs, Rows.uptoBulkAll, rowBulk]
  | t :: l => by
    have h := bulk_strs (H := H) l
    unfold strs at h ⊢
    rw [List.map_cons, Rows.uptoBulkAll, h, rowBulk]
    simp only [Rows.uptoBulk]
    rw [Array.length_toList]
    rfl
theorem one_le {H : Type} (d : DataW H) : 1 ≤ Rows.uptoBulk d := by
  cases d with
  | lit l => cases l <;> simp [Rows.uptoBulk]
  | nil => simp [Rows.uptoBulk]
  | ptr d => simp [Rows.uptoBulk]
  | slice elems spare => simp [Rows.uptoBulk]
  | agg parts => simp [Rows.uptoBulk]
  | iface t d => simp [Rows.uptoBulk]
  | map entries => simp [Rows.uptoBulk]
  | held h => simp [Rows.uptoBulk]
theorem length_le {H : Type} (l : List (DataW H)) : l.length ≤ Rows.uptoBulkAll l := by
  induction l with
  | nil => simp [Rows.uptoBulkAll]
  | cons x r ih =>
    have := one_le x
    simp only [Rows.uptoBulkAll, List.length_cons]
    omega
theorem bound {H : Type} {l : List (DataW H)} (hk : Rows.uptoSmall H l = true) : Rows.uptoBulkAll l ≤ 1048576 := of_decide_eq_true hk

section
variable {H : Type} {enc : TypeId × Value → H} {P : Program} {W : World} {t e : TypeId} {fuel : Nat} {A0 : Option Addr} {n0 c0 : Nat} {x : DataW H × List MemPlace}
theorem open_row (ht : P.underlying t = some (.slice e)) (he : P.underlying e = some .string) (hc : P.cellsOf e = 1) (h : DataW.trod enc P W 0 (fun _ => true) true fuel t [.slice A0 n0 c0] = some x) :
    ∃ l : List ByteArray, n0 = l.length ∧ Kd.C Kd.string W A0 l.length l ∧ l.length ≤ c0 ∧ rowBulk l + 1 ≤ Rows.uptoBulk x.1 := by
  rcases open_strings ht he hc h with ⟨hcs, rfl⟩ | ⟨a, len, cap, ss, hcs, _, hl, hm, hz, rfl, hcell, hsz⟩
  · simp only [List.cons.injEq, and_true, Value.slice.injEq] at hcs
    obtain ⟨rfl, rfl, rfl⟩ := hcs
    exact ⟨[], rfl, Kd.C_nil _ _, Nat.zero_le _, by simp [rowBulk, Rows.uptoBulk]⟩
  · simp only [List.cons.injEq, and_true, Value.slice.injEq] at hcs
    obtain ⟨rfl, rfl, rfl⟩ := hcs
    rw [if_pos rfl] at hz
    unfold maxLen at hm
    have hlen : (ss.take n0).length = n0 := by
      rw [List.length_take]
      omega
    refine ⟨ss.take n0, hlen.symm, Kd.C_of_reads (enc := Value.string) (d := ByteArray.empty) (h1 := fun _ => rfl) ⟨rfl, by omega, fun hn => ⟨a, rfl, fun j hj => ?_⟩⟩, by omega, ?_⟩
    · rw [hcell j (by omega), List.getD_eq_getElem?_getD, List.getD_eq_getElem?_getD, List.getElem?_take, if_pos (by omega)]
    · show _ ≤ Rows.uptoBulk (DataW.slice (strs (ss.take n0)) (strs (ss.drop n0)))
      rw [Rows.uptoBulk, bulk_strs]
      omega
theorem open_nums {k : IntKind} (ht : P.underlying t = some (.slice e)) (he : P.underlying e = some (.int k)) (hc : P.cellsOf e = 1) (h : DataW.trod enc P W 0 (fun _ => true) true fuel t [.slice A0 n0 c0] = some x) :
    ∃ l : List Int, n0 = l.length ∧ Kd.C (Kd.int k) W A0 l.length l ∧ l.length ≤ c0 ∧ l.length + 1 ≤ Rows.uptoBulk x.1 ∧ ∀ z ∈ l, (Lit.int k z).wf = true := by
  rcases open_ints ht he hc h with ⟨hcs, rfl⟩ | ⟨a, len, cap, zs, hcs, _, hl, hm, hz, rfl, hcell, hw⟩
  · simp only [List.cons.injEq, and_true, Value.slice.injEq] at hcs
    obtain ⟨rfl, rfl, rfl⟩ := hcs
    exact ⟨[], rfl, Kd.C_nil _ _, Nat.zero_le _, by simp [Rows.uptoBulk], fun z hz => by cases hz⟩
  · simp only [List.cons.injEq, and_true, Value.slice.injEq] at hcs
    obtain ⟨rfl, rfl, rfl⟩ := hcs
    rw [if_pos rfl] at hz
    unfold maxLen at hm
    have hlen : (zs.take n0).length = n0 := by
      rw [List.length_take]
      omega
    refine ⟨zs.take n0, hlen.symm, Kd.C_of_reads (enc := Value.int k) (d := (0 : Int)) (h1 := fun _ => rfl) ⟨rfl, by omega, fun hn => ⟨a, rfl, fun j hj => ?_⟩⟩, by omega, ?_, fun z hz => hw z (List.mem_of_mem_take hz)⟩
    · rw [hcell j (by omega), List.getD_eq_getElem?_getD, List.getD_eq_getElem?_getD, List.getElem?_take, if_pos (by omega)]
    · simp only [Rows.uptoBulk]
      refine Nat.succ_le_succ ?_
      refine Nat.le_trans (Nat.le_trans (Nat.le_of_eq ?_) (length_le _)) (Nat.le_add_right ..)
      simp [lits]
theorem slice_value {cs : List Value} (ht : P.underlying t = some (.slice e)) (h : DataW.trod enc P W 0 (fun _ => true) true fuel t cs = some x) : ∃ A n c, cs = [.slice A n c] := by
  rcases DataW.trod_slice ht h with ⟨h0, _⟩ | ⟨a, len, cap, _, _, _, _, h0, _⟩
  · exact ⟨_, _, _, h0⟩
  · exact ⟨_, _, _, h0⟩
theorem slice_value1 {v : Value} (ht : P.underlying t = some (.slice e)) (h : DataW.trod enc P W 0 (fun _ => true) true fuel t [v] = some x) : ∃ A n c, v = .slice A n c := by
  obtain ⟨A, n, c, h⟩ := slice_value ht h
  exact ⟨A, n, c, by simpa using h⟩
end
theorem agg_bulk {H : Type} {d : DataW H} {p : List MemPlace} {xs : List (DataW H × List MemPlace)} (h : (d, p) = (.agg (xs.map (·.1)), xs.flatMap (·.2))) : Rows.uptoBulk d = Rows.uptoBulkAll (xs.map (·.1)) + 1 := by
  obtain rfl := (Prod.mk.inj h).1
  simp only [Rows.uptoBulk]
theorem agg_bulk1 {H : Type} {y : DataW H × List MemPlace} {xs : List (DataW H × List MemPlace)} (h : y = (.agg (xs.map (·.1)), xs.flatMap (·.2))) : Rows.uptoBulk y.1 = Rows.uptoBulkAll (xs.map (·.1)) + 1 := by
  subst h
  simp only [Rows.uptoBulk]
theorem str_bulk0 {H : Type} (s : ByteArray) : Rows.uptoBulk (DataW.lit (H := H) (.string s.data.toList)) = s.size + 1 := by
  simp only [Rows.uptoBulk]
  rw [Array.length_toList]
  rfl
theorem str_bulk {H : Type} {y : DataW H × List MemPlace} {s : ByteArray} (h : y = (.lit (.string s.data.toList), [])) : Rows.uptoBulk y.1 = s.size + 1 := by
  subst h
  exact str_bulk0 s
end Go.Proofs.Ytlpcidjmaeicoaa.OpenRow
