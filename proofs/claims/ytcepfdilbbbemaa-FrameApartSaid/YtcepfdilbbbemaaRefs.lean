/- The reference's Num and TakeNum compute the same plain words as the program's. -/
import Derived.Test.YtcepfdilbbbemaaTold
import Derived.Test.YtcepfdilbbbemaaTake
namespace Go.Proofs.Ytcepfdilbbbemaa.Giv
open Go Go.RowKit Go.Proofs.Ytcepfdilbbbemaa.DecM Go.Proofs.Ytcepfdilbbbemaa.QT Go.Proofs.YtcepfdilbbbemaaW.PrintWords Go.Proofs.YtcepfdilbbbemaaW.PrintLast

theorem str_append (a b : List Int) : strOfNums (a ++ b) = strOfNums a ++ strOfNums b := by
  apply ByteArray.ext
  simp [strOfNums]
def numB (v : Nat) : ByteArray := if v = 0 then ByteArray.empty else strOfNums (numL v)
theorem numB_all (v : Nat) : numB (v / 10) ++ strOfNums [48 + ((v % 10 : Nat) : Int)] = strOfNums (numL v) := by
  unfold numB
  by_cases h : v < 10
  · have e : v / 10 = 0 := by omega
    have e2 : v % 10 = v := by omega
    rw [if_pos e, e2, numL_small h, ByteArray.empty_append]
  · rw [if_neg (by omega), numL_big h, str_append]
theorem numB_step {v : Nat} (h : ¬ v = 0) : numB (v / 10) ++ strOfNums [48 + ((v % 10 : Nat) : Int)] = numB v := by
  rw [numB_all]
  unfold numB
  rw [if_neg h]
theorem fig_eq (v : Nat) : (48 + ((Int.tmod (v : Int) 10) % 256)) % 256 = 48 + ((v % 10 : Nat) : Int) := by
  rw [Int.tmod_eq_emod_of_nonneg (by omega)]
  omega
theorem quo_eq (v : Nat) (h : v < 18446744073709551616) : IntKind.u64.wrap (Int.tdiv (v : Int) 10) = ((v / 10 : Nat) : Int) := by
  rw [IntKind.wrap_u64, Int.tdiv_eq_ediv_of_nonneg (by omega)]
  omega
theorem refNum_from (d : Nat) : ∀ (k v : Nat) (s : ByteArray), v < 10 ^ d → v < 18446744073709551616 → d < k → s.size + d ≤ 1000 → stanchionref01_Num.l0 k (v : Int) s = some (numB v ++ s) := by
  induction d with
  | zero =>
    intro k v s hv hv2 hk hs
    obtain ⟨k, rfl⟩ : ∃ m, k = m + 1 := ⟨k - 1, by omega⟩
    have e : v = 0 := by simpa using hv
    subst e
    simp only [stanchionref01_Num.l0]
    rw [if_neg (by omega)]
    simp [numB]
  | succ d ih =>
    intro k v s hv hv2 hk hs
    obtain ⟨k, rfl⟩ : ∃ m, k = m + 1 := ⟨k - 1, by omega⟩
    simp only [stanchionref01_Num.l0]
    by_cases h0 : v = 0
    · subst h0
      rw [if_neg (by omega)]
      simp [numB]
    · have hq : v / 10 < 10 ^ d := by
        rw [Nat.pow_succ] at hv
        omega
      have hsz : (strOfNums [48 + ((v % 10 : Nat) : Int)]).size = 1 := by simp [strOfNums_size]
      rw [if_pos (by omega), fig_eq, Option.bind_some, if_pos (by rw [hsz]; omega), quo_eq v hv2,
        ih k (v / 10) (strOfNums [48 + ((v % 10 : Nat) : Int)] ++ s) hq (by omega) (by omega) (by rw [ByteArray.size_append, hsz]; omega), ← ByteArray.append_assoc, numB_step h0]
theorem refNum_eq (v : Nat) (hv : v < 18446744073709551616) : stanchionref01_Num.f 21 (v : Int) = some (numS v) := by
  have hsz : (strOfNums [48 + ((v % 10 : Nat) : Int)]).size = 1 := by simp [strOfNums_size]
  have h59 : (⟨#[59]⟩ : ByteArray) = strOfNums [59] := rfl
  have hs1 : (strOfNums [59]).size = 1 := by simp [strOfNums_size]
  unfold stanchionref01_Num.f
  rw [fig_eq, Option.bind_some, if_pos (by rw [hsz]; omega), quo_eq v hv, h59,
    refNum_from 20 21 (v / 10) _ (by omega) (by omega) (by omega) (by rw [ByteArray.size_append, hsz, hs1]; omega), ← ByteArray.append_assoc, numB_all, ← str_append]
  rfl

/-! ### TakeNum -/
theorem bt_data {s : ByteArray} {i : Nat} (h : i < s.size) : bt s (i : Int) = ((s.data.toList[i]'(by rw [data_length]; exact h)).toNat : Int) := by
  obtain ⟨u, hu, hb⟩ := data_drop s i h
  rw [hb]
  have := List.drop_eq_getElem_cons (l := s.data.toList) (i := i) (by rw [data_length]; exact h)
  rw [this] at hu
  rw [(List.cons.inj hu).1]
theorem next_eq {i n : Nat} (h : i < n) (hn : n ≤ 9223372036854775807) : wrap64 ((i : Int) + 1) = ((i + 1 : Nat) : Int) := by
  unfold wrap64
  omega
theorem l0_j1 (s : ByteArray) (hs : s.size ≤ 9223372036854775807) (d : Nat) : ∀ (k i : Nat), nd s.data.toList - i = d → i ≤ nd s.data.toList → stanchionref01_TakeNum.l0 (k + d + 1) s (i : Int) = stanchionref01_TakeNum.j1 k s (nd s.data.toList : Int) := by
  have hle := nd_le s.data.toList
  rw [data_length] at hle
  induction d with
  | zero =>
    intro k i hd hi
    obtain rfl : i = nd s.data.toList := by omega
    simp only [stanchionref01_TakeNum.l0]
    by_cases hlt : nd s.data.toList < s.size
    · have hst := nd_stop s.data.toList (by rw [data_length]; exact hlt)
      rw [if_pos (by omega), if_pos (by omega), bt_data hlt]
      by_cases h48 : 48 ≤ (s.data.toList[nd s.data.toList]'(by rw [data_length]; exact hlt)).toNat
      · by_cases h57 : (s.data.toList[nd s.data.toList]'(by rw [data_length]; exact hlt)).toNat ≤ 57
        · have := (isD_iff _).mpr ⟨h48, h57⟩
          rw [hst] at this
          cases this
        · rw [if_pos (by omega), if_neg (by omega)]
      · rw [if_neg (by omega)]
    · rw [if_neg (by omega)]
  | succ d ih =>
    intro k i hd hi
    have hin : i < nd s.data.toList := by omega
    obtain ⟨hl, hdig⟩ := nd_at s.data.toList i hin
    have := (isD_iff _).mp hdig
    have hlt : i < s.size := by omega
    have e : k + (d + 1) + 1 = (k + d + 1) + 1 := by omega
    rw [e]
    simp only [stanchionref01_TakeNum.l0]
    rw [if_pos (by omega), if_pos (by omega), bt_data hlt, if_pos (by omega), if_pos (by omega), next_eq hlt hs]
    exact ih k (i + 1) (by omega) (by omega)
/-- What the reference answers behind the figures. -/
def refEnd (s : ByteArray) (n v : Nat) : Int × ByteArray × Int :=
  if n = s.data.toList.length then (0, ByteArray.empty, 2)
  else if n = 0 ∨ ¬ s.data.toList[n]? = some 59 then (0, ByteArray.empty, 3)
  else ((v : Int), s.extract (n + 1) s.size, 0)
theorem l1_end (s : ByteArray) (hs : s.size ≤ 9223372036854775807) (d : Nat) : ∀ (k i v : Nat), nd s.data.toList - i = d → i ≤ nd s.data.toList → v < two64 →
    stanchionref01_TakeNum.l1 (k + d + 1) s (nd s.data.toList : Int) (v : Int) (i : Int) =
      some (if vfrom v ((s.data.toList.take (nd s.data.toList)).drop i) < two64 then refEnd s (nd s.data.toList) (vfrom v ((s.data.toList.take (nd s.data.toList)).drop i)) else (0, ByteArray.empty, 3)) := by
  have hle := nd_le s.data.toList
  have hlen : s.data.toList.length = s.size := data_length s
  have e64 := two64_eq
  induction d with
  | zero =>
    intro k i v hd hi hv
    obtain rfl : i = nd s.data.toList := by omega
    have e : (s.data.toList.take (nd s.data.toList)).drop (nd s.data.toList) = [] := List.drop_eq_nil_of_le (by rw [List.length_take]; omega)
    simp only [stanchionref01_TakeNum.l1]
    rw [e, vfrom_nil, if_pos hv, if_neg (by omega)]
    unfold refEnd
    by_cases hn : nd s.data.toList = s.data.toList.length
    · rw [if_pos (by omega), if_pos hn]
      rfl
    · have hlt : nd s.data.toList < s.size := by omega
      rw [if_neg (by omega), if_pos (by omega), if_pos (by omega), if_neg hn, bt_data hlt]
      have h59 : (s.data.toList[nd s.data.toList]? = some 59) ↔ (((s.data.toList[nd s.data.toList]'(by omega)).toNat : Int) = 59) := by
        rw [List.getElem?_eq_getElem (by omega)]
        constructor
        · intro e
          rw [Option.some.inj e]
          rfl
        · intro e
          congr 1
          exact UInt8.toNat_inj.mp (by have e5 : (59 : UInt8).toNat = 59 := rfl; omega)
      by_cases h : ((s.data.toList[nd s.data.toList]'(by omega)).toNat : Int) = 59
      · rw [if_pos h]
        by_cases h0 : nd s.data.toList = 0
        · rw [if_pos (by omega), if_pos (.inl h0)]
          rfl
        · rw [if_neg (by omega), next_eq hlt hs, if_pos (by omega), if_pos (by omega), if_neg (by simp only [not_or, Classical.not_not]; exact ⟨h0, h59.mpr h⟩), Int.toNat_natCast]
      · rw [if_neg h, if_pos (.inr (fun e => h (h59.mp e)))]
        rfl
  | succ d ih =>
    intro k i v hd hi hv
    have hin : i < nd s.data.toList := by omega
    obtain ⟨hl, hdig⟩ := nd_at s.data.toList i hin
    have hbd := (isD_iff _).mp hdig
    have hlt : i < s.size := by omega
    have ek : k + (d + 1) + 1 = (k + d + 1) + 1 := by omega
    have hdrop : (s.data.toList.take (nd s.data.toList)).drop i = s.data.toList[i] :: (s.data.toList.take (nd s.data.toList)).drop (i + 1) := by
      rw [List.drop_eq_getElem_cons (by rw [List.length_take]; omega), List.getElem_take]
    rw [ek, hdrop, vfrom_cons]
    simp only [stanchionref01_TakeNum.l1]
    have e1 : (((s.data.toList[i]).toNat : Int) - 48) % 256 = (((s.data.toList[i]).toNat - 48 : Nat) : Int) := by omega
    rw [if_pos (by omega), if_pos (by omega), if_pos (by omega), bt_data hlt, e1]
    have f1 : nd s.data.toList - (i + 1) = d := by omega
    have f2 : i + 1 ≤ nd s.data.toList := by omega
    generalize hc : (s.data.toList[i]).toNat - 48 = c
    have hc9 : c ≤ 9 := by omega
    clear e1 hbd hdig hdrop
    by_cases ho : 10 * v + c < two64
    · have e2 : IntKind.u64.wrap ((IntKind.u64.wrap (10 * (v : Int))) + (c : Int)) = ((10 * v + c : Nat) : Int) := by
        rw [IntKind.wrap_u64, IntKind.wrap_u64]
        omega
      have e3 := next_eq hlt hs
      have g1 : ¬ (v : Int) > 1844674407370955161 := by omega
      have g2 : (v : Int) = 1844674407370955161 → ¬ (c : Int) > 5 := by omega
      rw [if_neg g1, e2, e3]
      have := ih k (i + 1) (10 * v + c) f1 f2 ho
      by_cases h5 : (v : Int) = 1844674407370955161
      · rw [if_pos h5, if_neg (g2 h5)]
        exact this
      · rw [if_neg h5]
        exact this
    · have hmono := vfrom_le ((s.data.toList.take (nd s.data.toList)).drop (i + 1)) (10 * v + c)
      have g3 : ¬ vfrom (10 * v + c) ((s.data.toList.take (nd s.data.toList)).drop (i + 1)) < two64 := by omega
      rw [if_neg g3]
      by_cases h4 : (v : Int) > 1844674407370955161
      · rw [if_pos h4]
        rfl
      · rw [if_neg h4, if_pos (by omega), if_pos (by omega)]
        rfl
theorem refTake_eq (s : ByteArray) (hs : s.size ≤ 9223372036854775807) : ∃ k, stanchionref01_TakeNum.f k s = some (takeNum s) := by
  have hle := nd_le s.data.toList
  have hlen : s.data.toList.length = s.size := data_length s
  have h0 : 0 < two64 := by rw [two64_eq]; omega
  refine ⟨((0 + nd s.data.toList + 1) + 1 + 1) + nd s.data.toList + 1, ?_⟩
  unfold stanchionref01_TakeNum.f
  have hj := l0_j1 s hs (nd s.data.toList) ((0 + nd s.data.toList + 1) + 1 + 1) 0 (by omega) (by omega)
  rw [show ((0 : Nat) : Int) = 0 from rfl] at hj
  rw [hj]
  simp only [stanchionref01_TakeNum.j1, stanchionref01_TakeNum.j2]
  have hl1 := l1_end s hs (nd s.data.toList) 0 0 0 (by omega) (by omega) h0
  rw [show ((0 : Nat) : Int) = 0 from rfl, List.drop_zero] at hl1
  rw [hl1]
  have hval : vfrom 0 (s.data.toList.take (nd s.data.toList)) = val (s.data.toList.take (nd s.data.toList)) := rfl
  rw [hval]
  unfold takeNum
  simp only []
  generalize hn : nd s.data.toList = n at *
  by_cases h20 : 20 < n
  · rw [if_pos h20, if_pos (by omega)]
    rfl
  rw [if_neg h20, if_neg (by omega)]
  have hz : (1 < n ∧ s.data.toList[0]? = some 48) ↔ ((n : Int) > 1 ∧ (bt s 0 == 48) = true) := by
    constructor
    · rintro ⟨h1, h2⟩
      refine ⟨by omega, ?_⟩
      have := bt_data (s := s) (i := 0) (by omega)
      rw [show ((0 : Nat) : Int) = 0 from rfl] at this
      rw [List.getElem?_eq_getElem (by omega)] at h2
      rw [this, Option.some.inj h2]
      rfl
    · rintro ⟨h1, h2⟩
      refine ⟨by omega, ?_⟩
      have := bt_data (s := s) (i := 0) (by omega)
      rw [show ((0 : Nat) : Int) = 0 from rfl] at this
      rw [this] at h2
      rw [List.getElem?_eq_getElem (by omega)]
      congr 1
      exact UInt8.toNat_inj.mp (by simp at h2 ⊢; omega)
  by_cases hzz : 1 < n ∧ s.data.toList[0]? = some 48
  · obtain ⟨h1, h2⟩ := hz.mp hzz
    rw [if_pos h1, if_pos (by omega), if_pos h2, if_pos (.inl hzz)]
    rfl
  · have hz2 : ¬ ((n : Int) > 1 ∧ (bt s 0 == 48) = true) := fun h => hzz (hz.mpr h)
    have key : (if val (s.data.toList.take n) < two64 then refEnd s n (val (s.data.toList.take n)) else (0, ByteArray.empty, 3)) =
        (if (1 < n ∧ s.data.toList[0]? = some 48) ∨ ¬ val (s.data.toList.take n) < two64 ∨ (n < s.data.toList.length ∧ (n = 0 ∨ ¬ s.data.toList[n]? = some 59)) then ((0 : Int), ByteArray.empty, (3 : Int))
         else if n = s.data.toList.length then (0, ByteArray.empty, 2) else ((val (s.data.toList.take n) : Int), s.extract (n + 1) s.size, 0)) := by
      by_cases hv : val (s.data.toList.take n) < two64
      · rw [if_pos hv]
        unfold refEnd
        by_cases hnl : n = s.data.toList.length
        · rw [if_pos hnl, if_neg, if_pos hnl]
          rintro (h | h | ⟨h, _⟩)
          · exact hzz h
          · exact h hv
          · omega
        · rw [if_neg hnl]
          by_cases h3 : n = 0 ∨ ¬ s.data.toList[n]? = some 59
          · rw [if_pos h3, if_pos (.inr (.inr ⟨by omega, h3⟩))]
          · rw [if_neg h3, if_neg, if_neg hnl]
            rintro (h | h | ⟨_, h⟩)
            · exact hzz h
            · exact h hv
            · exact h3 h
      · rw [if_neg hv, if_pos (.inr (.inl hv))]
    rw [← key]
    by_cases h1 : (n : Int) > 1
    · have h2 : (bt s 0 == 48) = false := by
        cases hb : (bt s 0 == 48) with
        | false => rfl
        | true => exact absurd ⟨h1, hb⟩ hz2
      rw [if_pos h1, if_pos (by omega), h2, if_neg (by decide)]
    · rw [if_neg h1, if_neg (by decide)]
end Go.Proofs.Ytcepfdilbbbemaa.Giv
