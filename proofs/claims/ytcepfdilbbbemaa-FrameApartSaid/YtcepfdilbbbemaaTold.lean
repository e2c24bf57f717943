/- dec.told at figures: the number that they tell, or that it is too great. -/
import Derived.Test.YtcepfdilbbbemaaDecMath
import Derived.Test.YtcepfdilbbbemaaQTx
import Derived.Lib.Strings
namespace Go.Proofs.Ytcepfdilbbbemaa.Giv
open Go Go.RowKit Go.Proofs.Ytcepfdilbbbemaa.DecM Go.Proofs.Ytcepfdilbbbemaa.QT Go.Proofs.YtcepfdilbbbemaaW.PrintWords Go.Proofs.YtcepfdilbbbemaaW.PrintLast

theorem data_drop (s : ByteArray) (i : Nat) (h : i < s.size) : ∃ u : UInt8, s.data.toList.drop i = u :: s.data.toList.drop (i + 1) ∧ bt s (i : Int) = (u.toNat : Int) := by
  have hl : i < s.data.toList.length := by rw [data_length]; exact h
  refine ⟨s.data.toList[i], List.drop_eq_getElem_cons hl, ?_⟩
  have h2 : ((i : Int)).toNat < s.size := by simpa using h
  rw [← bt_at s (i : Int) h2]
  simp only [Int.toNat_natCast, Array.getElem_toList]
  rfl
theorem data_none (s : ByteArray) (i : Nat) (h : s.size ≤ i) : s.data.toList.drop i = [] := by
  apply List.drop_eq_nil_of_le
  rw [data_length]
  exact h
def toldR (n : Nat) : Int × Bool := if n < two64 then ((n : Int), true) else (0, false)
theorem told_from (t : ByteArray) (hs : t.size ≤ 9223372036854775807) (hd : ∀ c ∈ t.data.toList, isD c = true) (d : Nat) : ∀ (k i v : Nat), t.size - i = d → i ≤ t.size → v < two64 → d < k →
    dec_told.l0 k t (v : Int) (t.size : Int) (i : Int) = some (toldR (vfrom v (t.data.toList.drop i))) := by
  have e64 := two64_eq
  induction d with
  | zero =>
    intro k i v hdi hi hv hk
    obtain ⟨k, rfl⟩ : ∃ m, k = m + 1 := ⟨k - 1, by omega⟩
    simp only [dec_told.l0]
    rw [if_neg (by omega), data_none t i (by omega), vfrom_nil]
    unfold toldR
    rw [if_pos hv]
  | succ d ih =>
    intro k i v hdi hi hv hk
    obtain ⟨k, rfl⟩ : ∃ m, k = m + 1 := ⟨k - 1, by omega⟩
    have hlt : i < t.size := by omega
    obtain ⟨u, hu, hbu⟩ := data_drop t i hlt
    have hdu : isD u = true := hd u (by
      have : u ∈ t.data.toList.drop i := by rw [hu]; exact List.mem_cons_self
      exact List.mem_of_mem_drop this)
    obtain ⟨h48, h57⟩ := (isD_iff u).mp hdu
    simp only [dec_told.l0]
    rw [if_pos (by omega), if_pos (by omega), if_pos (by omega), hbu, hu, vfrom_cons]
    have f1 : t.size - (i + 1) = d := by omega
    have f2 : i + 1 ≤ t.size := by omega
    have f3 : d < k := by omega
    have e1 : ((u.toNat : Int) - 48) % 256 = ((u.toNat - 48 : Nat) : Int) := by omega
    rw [e1]
    by_cases ho : 10 * v + (u.toNat - 48) < two64
    · rw [if_neg (by omega)]
      have e2 : IntKind.u64.wrap ((IntKind.u64.wrap (10 * (v : Int))) + ((u.toNat - 48 : Nat) : Int)) = ((10 * v + (u.toNat - 48) : Nat) : Int) := by
        rw [IntKind.wrap_u64, IntKind.wrap_u64]
        omega
      have e3 : wrap64 ((i : Int) + 1) = ((i + 1 : Nat) : Int) := by
        unfold wrap64
        omega
      rw [e2, e3]
      exact ih k (i + 1) (10 * v + (u.toNat - 48)) f1 f2 ho f3
    · rw [if_pos (by omega)]
      have := vfrom_le (t.data.toList.drop (i + 1)) (10 * v + (u.toNat - 48))
      unfold toldR
      rw [if_neg (by omega)]
theorem told_eq (t : ByteArray) (hs : t.size ≤ 9223372036854775807) (hd : ∀ c ∈ t.data.toList, isD c = true) : dec_told.f (t.size + 1) t = some (toldR (val t.data.toList)) := by
  unfold dec_told.f
  have h0 : 0 < two64 := by rw [two64_eq]; omega
  have := told_from t hs hd t.size (t.size + 1) 0 0 (by omega) (by omega) h0 (by omega)
  unfold val
  simpa using this
theorem told_yes (t : ByteArray) (v : Nat) (w : World) (hs : t.size ≤ 9223372036854775807) (hd : ∀ c ∈ t.data.toList, isD c = true) (hv : val t.data.toList = v) (h : v < two64) :
    Calls Try.prog 28 #[.string t] w fun e w' => e = .returned (.tuple #[.int .u64 (v : Int), .bool true]) ∧ Drawn0 w w' := by
  refine dec_told.calls (t.size + 1) t _ _ w ?_
  rw [told_eq t hs hd, hv]
  unfold toldR
  rw [if_pos h]
theorem told_no (t : ByteArray) (w : World) (hs : t.size ≤ 9223372036854775807) (hd : ∀ c ∈ t.data.toList, isD c = true) (h : ¬ val t.data.toList < two64) :
    Calls Try.prog 28 #[.string t] w fun e w' => e = .returned (.tuple #[.int .u64 0, .bool false]) ∧ Drawn0 w w' := by
  refine dec_told.calls (t.size + 1) t _ _ w ?_
  rw [told_eq t hs hd]
  unfold toldR
  rw [if_neg h]
end Go.Proofs.Ytcepfdilbbbemaa.Giv
