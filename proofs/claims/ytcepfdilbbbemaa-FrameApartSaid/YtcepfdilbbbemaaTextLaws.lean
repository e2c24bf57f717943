/- What the printed functions on numbers and texts answer, in the plain words. -/
import Derived.Test.YtcepfdilbbbemaaDecFacts
import Derived.OpenShut
import Derived.Test.YtcepfdilbbbemaaQDecx
namespace Go.Proofs.Ytcepfdilbbbemaa.DecPure
open Go Go.RowKit Go.Proofs.Ytcepfdilbbbemaa.DecM Go.Proofs.Ytcepfdilbbbemaa.Giv Go.Proofs.Ytcepfdilbbbemaa.QDec Go.Proofs.YtcepfdilbbbemaaW.PrintWords Go.Proofs.YtcepfdilbbbemaaW.PrintLast

theorem u64_wf {a : Int} (h : (Lit.int .u64 a).wf = true) : 0 ≤ a ∧ a < 18446744073709551616 := by
  have := bounds_u64 h
  omega
theorem i64_wf {a : Int} (h : (Lit.int .i64 a).wf = true) : -9223372036854775808 ≤ a ∧ a ≤ 9223372036854775807 := bounds_i64 h
theorem empty_lit : (⟨#[]⟩ : ByteArray) = ByteArray.empty := rfl
theorem take_some {s : ByteArray} (h : s.size ≤ 9223372036854775807) : dec_TakeNum.f s = some (takeNum s) := by
  unfold dec_TakeNum.f
  rw [if_pos h]
theorem ref_some {s : ByteArray} (h : s.size ≤ 9223372036854775807) : stanchionref01_TakeNum.f s = some (takeNum s) := by
  unfold stanchionref01_TakeNum.f
  rw [if_pos h]
theorem num_some {a : Int} (h : 0 ≤ a ∧ a < 18446744073709551616) : dec_Num.f a = some (numS a.toNat) := by
  unfold dec_Num.f
  rw [if_pos h]
theorem refn_some {a : Int} (h : 0 ≤ a ∧ a < 18446744073709551616) : stanchionref01_Num.f a = some (numS a.toNat) := by
  unfold stanchionref01_Num.f
  rw [if_pos h]
theorem text_some (k : Nat) (s : ByteArray) (most : Int) (hs : s.size ≤ 9223372036854775807) (hm : most ≤ 9223372036854775807) : dec_TakeText.f (k + 1) s most = some (takeText s most) := by
  obtain ⟨h0, h1, h2⟩ := take_first s
  unfold dec_TakeText.f takeText
  rw [take_some hs]
  simp only [Option.bind_some]
  generalize takeNum s = r at *
  by_cases hz : r.2.2 = 0
  · rw [if_pos hz, if_neg (show ¬ ¬ r.2.2 = 0 from fun h => h hz)]
    have e1 : IntKind.u64.wrap (r.2.1.size : Int) = (r.2.1.size : Int) := by
      rw [IntKind.wrap_u64]
      omega
    by_cases hm0 : most < 0
    · rw [if_pos hm0, if_pos (.inl hm0)]
      simp only [dec_TakeText.j0]
      rw [if_pos trivial]
      rfl
    · have e2 : IntKind.u64.wrap most = most := by
        rw [IntKind.wrap_u64]
        omega
      rw [if_neg hm0]
      simp only [dec_TakeText.j0]
      rw [e1, e2]
      by_cases hb : r.1 > most
      · rw [decide_eq_true hb, if_pos rfl, if_pos (.inr hb)]
        rfl
      · rw [decide_eq_false hb, if_neg (show ¬ (false = true) by decide), if_neg (show ¬ (most < 0 ∨ r.1 > most) from fun h => h.elim hm0 hb)]
        by_cases hl : r.1 > (r.2.1.size : Int)
        · rw [if_pos hl, if_pos hl]
          rfl
        · rw [if_neg hl, if_neg hl, if_pos h0, if_pos (by omega)]
  · rw [if_neg hz, if_pos hz]
    rfl
theorem reft_some (k : Nat) (s : ByteArray) (most : Int) (hs : s.size ≤ 9223372036854775807) (hm : most ≤ 9223372036854775807) : stanchionref01_TakeText.f (k + 1) s most = some (takeText s most) := by
  rw [← text_some k s most hs hm]
  unfold stanchionref01_TakeText.f dec_TakeText.f
  rw [take_some hs, ref_some hs]
  rfl
/-- A text that was written is taken. -/
theorem text_back (t m : ByteArray) (most : Int) (ht : t.size < 18446744073709551616) : takeText (textS t ++ m) most = if most < t.size then (ByteArray.empty, ByteArray.empty, 4) else (t, m, 0) := by
  have e64 := two64_eq
  have hb : takeNum (textS t ++ m) = ((t.size : Int), t ++ m, 0) := by
    unfold textS
    rw [ByteArray.append_assoc]
    exact take_back t.size (by omega) (t ++ m)
  unfold takeText
  rw [hb]
  simp only []
  by_cases h : most < t.size
  · rw [if_neg (by simp), if_pos (by omega), if_pos h]
  · have e1 : (t ++ m).extract 0 t.size = t := by
      apply bytes_ext
      rw [ext_upto, data_append, List.take_append_of_le_length (by rw [len_size]; omega), List.take_of_length_le (by rw [len_size]; omega)]
    have e2 : (t ++ m).extract t.size (t ++ m).size = m := by
      apply bytes_ext
      rw [ext_from, data_append, List.drop_append_of_le_length (by rw [len_size]; omega), List.drop_of_length_le (by rw [len_size]; omega)]
      rfl
    rw [if_neg (by simp), if_neg (by omega), if_neg (by rw [ByteArray.size_append]; omega), if_neg h, Int.toNat_natCast, e1, e2]
theorem takeText_size (s : ByteArray) (most : Int) : (takeText s most).1.size ≤ s.size ∧ (takeText s most).2.1.size ≤ s.size := by
  have hE : ByteArray.empty.size = 0 := rfl
  obtain ⟨_, _, h⟩ := take_first s
  unfold takeText
  by_cases h1 : ¬ (takeNum s).2.2 = 0
  · rw [if_pos h1]
    exact ⟨by rw [hE]; omega, by rw [hE]; omega⟩
  rw [if_neg h1]
  by_cases h2 : most < 0 ∨ (takeNum s).1 > most
  · rw [if_pos h2]
    exact ⟨by rw [hE]; omega, by rw [hE]; omega⟩
  rw [if_neg h2]
  by_cases h3 : (takeNum s).1 > (takeNum s).2.1.size
  · rw [if_pos h3]
    exact ⟨by rw [hE]; omega, by rw [hE]; omega⟩
  rw [if_neg h3]
  simp only [ByteArray.size_extract]
  omega
theorem extract_left (a b : ByteArray) (c : Nat) (h : c ≤ a.size) : (a ++ b).extract 0 c = a.extract 0 c := by
  apply bytes_ext
  rw [ext_upto, ext_upto, data_append, List.take_append_of_le_length (by rw [len_size]; omega)]
theorem extract_right (a b : ByteArray) (c : Nat) (h : a.size ≤ c) : (a ++ b).extract 0 c = a ++ b.extract 0 (c - a.size) := by
  apply bytes_ext
  rw [ext_upto, data_append, data_append, ext_upto, List.take_append, List.take_of_length_le (by rw [len_size]; omega), len_size]
end Go.Proofs.Ytcepfdilbbbemaa.DecPure
