/- Plain facts on the decimal encoding: what was written is taken, what is taken is written so, no beginning of an encoding is one. -/
import Derived.Test.YtlpcidjmaeicoaaDecMath
import Derived.Lib.Strings
namespace Go.Proofs.Ytlpcidjmaeicoaa.DecM
open Go

/-- The figures of a number as bytes. -/
def figL (n : Nat) : List UInt8 := if n < 10 then [UInt8.ofNat (48 + n)] else figL (n / 10) ++ [UInt8.ofNat (48 + n % 10)]
termination_by n
theorem figL_small {n : Nat} (h : n < 10) : figL n = [UInt8.ofNat (48 + n)] := by
  rw [figL, if_pos h]
theorem figL_big {n : Nat} (h : ¬ n < 10) : figL n = figL (n / 10) ++ [UInt8.ofNat (48 + n % 10)] := by
  rw [figL, if_neg h]
theorem numL_figL (n : Nat) : (numL n).map (fun z => UInt8.ofNat z.toNat) = figL n := by
  induction n using Nat.strongRecOn with
  | _ n ih =>
    by_cases h : n < 10
    · rw [numL_small h, figL_small h]
      simp only [List.map_cons, List.map_nil]
      rw [show ((48 : Int) + (n : Int)).toNat = 48 + n by omega]
    · rw [numL_big h, figL_big h, List.map_append, ih (n / 10) (by omega)]
      simp only [List.map_cons, List.map_nil]
      rw [show ((48 : Int) + ((n % 10 : Nat) : Int)).toNat = 48 + n % 10 by omega]
theorem numS_data (n : Nat) : (numS n).data.toList = figL n ++ [59] := by
  unfold numS
  rw [strOfNums_data, List.map_append, numL_figL]
  rfl
theorem ofNat_fig {k : Nat} (h : k < 10) : (UInt8.ofNat (48 + k)).toNat = 48 + k := by
  rw [UInt8.toNat_ofNat']
  omega
theorem figL_digit (n : Nat) : ∀ c ∈ figL n, isD c = true := by
  induction n using Nat.strongRecOn with
  | _ n ih =>
    intro c hc
    by_cases h : n < 10
    · rw [figL_small h, List.mem_singleton] at hc
      rw [hc, isD_iff, ofNat_fig h]
      omega
    · rw [figL_big h, List.mem_append, List.mem_singleton] at hc
      rcases hc with hc | hc
      · exact ih (n / 10) (by omega) c hc
      · rw [hc, isD_iff, ofNat_fig (by omega)]
        omega
theorem val_snoc (l : List UInt8) (c : UInt8) : val (l ++ [c]) = 10 * val l + (c.toNat - 48) := by
  unfold val
  rw [vfrom_append, vfrom_cons, vfrom_nil]
theorem figL_val (n : Nat) : val (figL n) = n := by
  induction n using Nat.strongRecOn with
  | _ n ih =>
    by_cases h : n < 10
    · rw [figL_small h]
      have := val_snoc [] (UInt8.ofNat (48 + n))
      rw [List.nil_append] at this
      rw [this, ofNat_fig h]
      show 10 * vfrom 0 [] + _ = _
      rw [vfrom_nil]
      omega
    · rw [figL_big h, val_snoc, ih (n / 10) (by omega), ofNat_fig (by omega)]
      omega
theorem figL_pos (n : Nat) : 1 ≤ (figL n).length := by
  by_cases h : n < 10
  · rw [figL_small h]; simp
  · rw [figL_big h]; simp
theorem figL_len (n : Nat) (h : n < two64) : (figL n).length ≤ 20 := by
  rw [two64_eq] at h
  have e : (figL n).length = (numL n).length := by rw [← numL_figL, List.length_map]
  rw [e]
  exact numL_len 19 n (by omega)
theorem fig_ne {k : Nat} (h : k < 10) (h0 : 1 ≤ k) : UInt8.ofNat (48 + k) ≠ 48 := by
  intro e
  have := congrArg UInt8.toNat e
  rw [ofNat_fig h] at this
  have e8 : (48 : UInt8).toNat = 48 := rfl
  omega
theorem figL_head (n : Nat) (h : 1 ≤ n) : (figL n)[0]? ≠ some 48 := by
  induction n using Nat.strongRecOn with
  | _ n ih =>
    by_cases h10 : n < 10
    · rw [figL_small h10]
      simp only [List.getElem?_cons_zero]
      intro e
      exact fig_ne h10 h (Option.some.inj e)
    · rw [figL_big h10, List.getElem?_append_left (figL_pos _)]
      exact ih (n / 10) (by omega) (by omega)
theorem figL_one (n : Nat) (h : 1 < (figL n).length) : 1 ≤ n := by
  by_cases h10 : n < 10
  · rw [figL_small h10] at h
    simp at h
  · omega
theorem val_pos (l : List UInt8) (hd : ∀ c ∈ l, isD c = true) (hne : l ≠ []) (h0 : l[0]? ≠ some 48) : 1 ≤ val l := by
  cases l with
  | nil => exact absurd rfl hne
  | cons c l =>
    have hc := (isD_iff c).mp (hd c List.mem_cons_self)
    have hne48 : c.toNat ≠ 48 := by
      intro e
      apply h0
      simp only [List.getElem?_cons_zero]
      congr 1
      exact UInt8.toNat_inj.mp e
    unfold val
    rw [vfrom_cons]
    have := vfrom_le l (10 * 0 + (c.toNat - 48))
    omega
theorem canon (n : Nat) : ∀ l : List UInt8, l.length = n → (∀ c ∈ l, isD c = true) → l ≠ [] → (1 < l.length → l[0]? ≠ some 48) → figL (val l) = l := by
  induction n with
  | zero =>
    intro l hl _ hne _
    exact absurd (List.length_eq_zero_iff.mp hl) hne
  | succ n ih =>
    intro l hl hd hne h0
    obtain ⟨a, c, rfl⟩ : ∃ a c, l = a ++ [c] := ⟨l.dropLast, l.getLast hne, (List.dropLast_concat_getLast hne).symm⟩
    have hc := (isD_iff c).mp (hd c (by simp))
    have hcc : UInt8.ofNat (48 + (c.toNat - 48)) = c := by
      rw [show 48 + (c.toNat - 48) = c.toNat by omega]
      exact UInt8.ofNat_toNat
    rw [val_snoc]
    by_cases ha : a = []
    · subst ha
      have e : 10 * val [] + (c.toNat - 48) = c.toNat - 48 := by
        show 10 * vfrom 0 [] + _ = _
        rw [vfrom_nil]
        omega
      rw [e, figL_small (by omega), hcc]
      rfl
    · have hal : 1 ≤ a.length := by
        cases a with
        | nil => exact absurd rfl ha
        | cons x a => simp
      have h0a : a[0]? ≠ some 48 := by
        have := h0 (by simp; omega)
        rwa [List.getElem?_append_left hal] at this
      have hda : ∀ x ∈ a, isD x = true := fun x hx => hd x (by simp [hx])
      have hp := val_pos a hda ha h0a
      have e1 : (10 * val a + (c.toNat - 48)) / 10 = val a := by omega
      have e2 : (10 * val a + (c.toNat - 48)) % 10 = c.toNat - 48 := by omega
      rw [figL_big (by omega), e1, e2, hcc, ih a (by simpa using hl) hda ha (fun _ => h0a)]
theorem takeWhile_all (a : List UInt8) (hd : ∀ c ∈ a, isD c = true) (b : List UInt8) (hb : b = [] ∨ ∃ x y, b = x :: y ∧ isD x = false) : nd (a ++ b) = a.length := by
  unfold nd
  rw [List.takeWhile_append_of_pos hd]
  rcases hb with rfl | ⟨x, y, rfl, hx⟩
  · simp
  · simp [hx]
theorem isD_semi : isD 59 = false := by decide
theorem bytes_ext {a b : ByteArray} (h : a.data.toList = b.data.toList) : a = b := ByteArray.ext (Array.ext' h)
theorem len_size (s : ByteArray) : s.data.toList.length = s.size := by
  rw [Array.length_toList]
  rfl
theorem ext_from (s : ByteArray) (a : Nat) : (s.extract a s.size).data.toList = s.data.toList.drop a := by
  rw [Lib.extract_data]
  exact List.take_of_length_le (by rw [List.length_drop, len_size]; omega)
theorem ext_upto (s : ByteArray) (b : Nat) : (s.extract 0 b).data.toList = s.data.toList.take b := by
  rw [Lib.extract_data]
  simp
theorem data_append (a b : ByteArray) : (a ++ b).data.toList = a.data.toList ++ b.data.toList := by
  rw [ByteArray.data_append, Array.toList_append]
theorem take_back (v : Nat) (hv : v < two64) (m : ByteArray) : takeNum (numS v ++ m) = ((v : Int), m, 0) := by
  have hl : (numS v ++ m).data.toList = figL v ++ 59 :: m.data.toList := by
    rw [data_append, numS_data]
    simp
  have hn : nd (figL v ++ 59 :: m.data.toList) = (figL v).length := takeWhile_all _ (figL_digit v) _ (.inr ⟨59, _, rfl, isD_semi⟩)
  have h1 := figL_pos v
  have h20 := figL_len v hv
  have hr : (numS v ++ m).extract ((figL v).length + 1) (numS v ++ m).size = m := by
    apply bytes_ext
    rw [ext_from, hl]
    have : figL v ++ 59 :: m.data.toList = (figL v ++ [59]) ++ m.data.toList := by simp
    rw [this, List.drop_append_of_le_length (by simp), List.drop_of_length_le (by simp)]
    rfl
  unfold takeNum
  simp only [hl, hn, hr]
  rw [List.take_left, figL_val, if_neg (by omega), if_neg, if_neg (by simp)]
  rintro (⟨h, h0⟩ | h | ⟨_, h | h⟩)
  · rw [List.getElem?_append_left h1] at h0
    exact figL_head v (figL_one v h) h0
  · exact h hv
  · omega
  · apply h
    rw [List.getElem?_append_right (Nat.le_refl _)]
    simp
/-- What is taken is written by the same bytes. -/
theorem take_was {s : ByteArray} {v : Int} {r : ByteArray} (h : takeNum s = (v, r, 0)) : ∃ n : Nat, v = n ∧ n < two64 ∧ s = numS n ++ r := by
  unfold takeNum at h
  simp only [] at h
  by_cases h20 : 20 < nd s.data.toList
  · rw [if_pos h20] at h
    simp at h
  rw [if_neg h20] at h
  by_cases hb : (1 < nd s.data.toList ∧ s.data.toList[0]? = some 48) ∨ ¬ val (s.data.toList.take (nd s.data.toList)) < two64 ∨ (nd s.data.toList < s.data.toList.length ∧ (nd s.data.toList = 0 ∨ ¬ s.data.toList[nd s.data.toList]? = some 59))
  · rw [if_pos hb] at h
    simp at h
  rw [if_neg hb] at h
  by_cases hn : nd s.data.toList = s.data.toList.length
  · rw [if_pos hn] at h
    simp at h
  rw [if_neg hn] at h
  simp only [not_or, not_and, Classical.not_not] at hb
  obtain ⟨hz, hv, hs⟩ := hb
  have hle := nd_le s.data.toList
  obtain ⟨h0, h59⟩ := hs (by omega)
  simp only [Prod.mk.injEq, and_true] at h
  obtain ⟨rfl, rfl⟩ := h
  refine ⟨_, rfl, hv, ?_⟩
  apply bytes_ext
  rw [data_append, numS_data, ext_from]
  have hc := canon (nd s.data.toList) (s.data.toList.take (nd s.data.toList)) (by rw [List.length_take]; omega) (fun c hc => nd_digits _ c hc)
    (by
      intro e
      have := congrArg List.length e
      rw [List.length_take, List.length_nil] at this
      omega)
    (by
      intro hl
      rw [List.length_take] at hl
      rw [List.getElem?_take_of_lt (by omega)]
      exact hz (by omega))
  rw [hc]
  have hlt : nd s.data.toList < s.data.toList.length := by omega
  have e59 : s.data.toList.drop (nd s.data.toList) = 59 :: s.data.toList.drop (nd s.data.toList + 1) := by
    rw [List.drop_eq_getElem_cons hlt]
    rw [List.getElem?_eq_getElem hlt] at h59
    rw [Option.some.inj h59]
  calc s.data.toList = s.data.toList.take (nd s.data.toList) ++ s.data.toList.drop (nd s.data.toList) := (List.take_append_drop _ _).symm
    _ = _ := by rw [e59]; simp
/-- Of a number's bytes no beginning is one. -/
theorem take_cut (v : Nat) (hv : v < two64) (cut : Nat) (hc : cut < (numS v).size) : takeNum ((numS v).extract 0 cut) = (0, ByteArray.empty, 2) := by
  have hlen : (numS v).size = (figL v).length + 1 := by
    rw [← len_size, numS_data]
    simp
  have hl : ((numS v).extract 0 cut).data.toList = (figL v).take cut := by
    rw [ext_upto, numS_data, List.take_append_of_le_length (by omega)]
  have hd : ∀ c ∈ (figL v).take cut, isD c = true := fun c hc => figL_digit v c (List.mem_of_mem_take hc)
  have hll : ((figL v).take cut).length = cut := by rw [List.length_take]; omega
  have hn : nd ((figL v).take cut) = cut := by
    have := takeWhile_all _ hd [] (.inl rfl)
    rw [List.append_nil, hll] at this
    exact this
  have h20 := figL_len v hv
  have hval : val ((figL v).take cut) ≤ v := by
    have e := figL_val v
    rw [← List.take_append_drop cut (figL v)] at e
    unfold val at e ⊢
    rw [vfrom_append] at e
    have := vfrom_le ((figL v).drop cut) (vfrom 0 ((figL v).take cut))
    omega
  unfold takeNum
  simp only [hl, hn, hll]
  rw [show ((figL v).take cut).take cut = (figL v).take cut by rw [List.take_take, Nat.min_self], if_neg (by omega), if_neg, if_pos trivial]
  rintro (⟨h, h0⟩ | h | ⟨h, _⟩)
  · rw [List.getElem?_take_of_lt (by omega)] at h0
    exact figL_head v (figL_one v (by omega)) h0
  · omega
  · omega
/-- The number is no less than 0, and the rest no longer. -/
theorem take_first (s : ByteArray) : 0 ≤ (takeNum s).1 ∧ (takeNum s).1 < two64 ∧ (takeNum s).2.1.size ≤ s.size := by
  have e64 := two64_eq
  have hz : (0 : Int) < (two64 : Int) := by omega
  have hE : ByteArray.empty.size = 0 := rfl
  unfold takeNum
  simp only []
  by_cases h20 : 20 < nd s.data.toList
  · rw [if_pos h20]
    exact ⟨Int.le_refl _, hz, by rw [hE]; omega⟩
  rw [if_neg h20]
  by_cases hb : (1 < nd s.data.toList ∧ s.data.toList[0]? = some 48) ∨ ¬ val (s.data.toList.take (nd s.data.toList)) < two64 ∨ (nd s.data.toList < s.data.toList.length ∧ (nd s.data.toList = 0 ∨ ¬ s.data.toList[nd s.data.toList]? = some 59))
  · rw [if_pos hb]
    exact ⟨Int.le_refl _, hz, by rw [hE]; omega⟩
  rw [if_neg hb]
  by_cases hn : nd s.data.toList = s.data.toList.length
  · rw [if_pos hn]
    exact ⟨Int.le_refl _, hz, by rw [hE]; omega⟩
  rw [if_neg hn]
  simp only [not_or, not_and, Classical.not_not] at hb
  have := hb.2.1
  refine ⟨by omega, by omega, ?_⟩
  rw [ByteArray.size_extract]
  omega
/-- The text that begins bytes. -/
def takeText (s : ByteArray) (most : Int) : ByteArray × ByteArray × Int :=
  if ¬ (takeNum s).2.2 = 0 then (ByteArray.empty, ByteArray.empty, (takeNum s).2.2)
  else if most < 0 ∨ (takeNum s).1 > most then (ByteArray.empty, ByteArray.empty, 4)
  else if (takeNum s).1 > (takeNum s).2.1.size then (ByteArray.empty, ByteArray.empty, 2)
  else ((takeNum s).2.1.extract 0 (takeNum s).1.toNat, (takeNum s).2.1.extract (takeNum s).1.toNat (takeNum s).2.1.size, 0)
theorem numS_inj {v w : Nat} (h : numS v = numS w) : v = w := by
  have := congrArg (fun b => b.data.toList) h
  simp only [numS_data] at this
  have := List.append_inj_left' this rfl
  rw [← figL_val v, ← figL_val w, this]
end Go.Proofs.Ytlpcidjmaeicoaa.DecM
