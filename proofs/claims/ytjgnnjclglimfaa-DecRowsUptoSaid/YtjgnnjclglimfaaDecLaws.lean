/- The laws of dec on numbers and texts, over the plain words. -/
import Derived.Test.YtjgnnjclglimfaaDecFacts
import Derived.OpenShut
import Derived.Test.YtjgnnjclglimfaaQDecx1
import Derived.Test.YtjgnnjclglimfaaQDecx2
namespace Go.Proofs.Ytjgnnjclglimfaa.DecPure
open Go Go.RowKit Go.Proofs.Ytjgnnjclglimfaa.DecM Go.Proofs.Ytjgnnjclglimfaa.Giv Go.Proofs.Ytjgnnjclglimfaa.QDec Go.Proofs.YtjgnnjclglimfaaW.PrintWords Go.Proofs.YtjgnnjclglimfaaW.PrintLast

theorem u64_wf {a : Int} (h : (Lit.int .u64 a).wf = true) : 0 ≤ a ∧ a < 18446744073709551616 := by
  have := bounds_u64 h
  omega
theorem i64_wf {a : Int} (h : (Lit.int .i64 a).wf = true) : -9223372036854775808 ≤ a ∧ a ≤ 9223372036854775807 := bounds_i64 h
theorem empty_lit : (⟨#[]⟩ : ByteArray) = ByteArray.empty := rfl
theorem take_some {s : ByteArray} (h : s.size ≤ 9223372036854775807) : dec_TakeNum.f s = some (takeNum s) := by
  unfold dec_TakeNum.f
  rw [if_pos h]
theorem ref_some {s : ByteArray} (h : s.size ≤ 9223372036854775807) : stanchionref01_TakeNum.f s = some (takeNum s) := by
  unfold stanchionref01_TakeNum.f
  rw [if_pos h]
theorem num_some {a : Int} (h : 0 ≤ a ∧ a < 18446744073709551616) : dec_Num.f a = some (numS a.toNat) := by
  unfold dec_Num.f
  rw [if_pos h]
theorem refn_some {a : Int} (h : 0 ≤ a ∧ a < 18446744073709551616) : stanchionref01_Num.f a = some (numS a.toNat) := by
  unfold stanchionref01_Num.f
  rw [if_pos h]
theorem shown_eq : stanchionlaw01_shown.f = some true := by
  have e1 : takeNum (⟨#[48, 55, 59]⟩ : ByteArray) = (0, ByteArray.empty, 3) := by
    simp [takeNum, nd, isD]
  have e2 : takeNum (⟨#[49, 50]⟩ : ByteArray) = (0, ByteArray.empty, 2) := by
    have : (12 : Nat) < two64 := by rw [two64_eq]; omega
    simp [takeNum, nd, isD, val, vfrom, this]
  have e3 : (numS 0).toList = [48, 59] := by
    rw [Lib.toList_data, numS_data, figL_small (by omega)]
    rfl
  have e4 : (numS 120).toList = [49, 50, 48, 59] := by
    rw [Lib.toList_data, numS_data, figL_big (by omega), figL_big (by omega), figL_small (by omega)]
    rfl
  unfold stanchionlaw01_shown.f
  rw [take_some (by decide), take_some (by decide), num_some (by omega), num_some (by omega)]
  simp only [Option.bind_some, e1, e2]
  rw [show (0 : Int).toNat = 0 from rfl, show (120 : Int).toNat = 120 from rfl, if_pos e3, if_pos e4]
  rfl
theorem Takes : stanchionlaw01_DecTakes.Pure := by
  intro s hs
  unfold stanchionlaw01_DecTakes.f
  rw [shown_eq, take_some (by omega), ref_some (by omega)]
  simp
theorem Nums : stanchionlaw01_DecNums.Pure := by
  intro a t ha ht
  have ha' := u64_wf ha
  unfold stanchionlaw01_DecNums.f dec_Text.f stanchionref01_Text.f
  rw [shown_eq, num_some ha', refn_some ha', if_pos (by omega)]
  simp
theorem text_some (k : Nat) (s : ByteArray) (most : Int) (hs : s.size ≤ 9223372036854775807) (hm : most ≤ 9223372036854775807) : dec_TakeText.f (k + 1) s most = some (takeText s most) := by
  obtain ⟨h0, h1, h2⟩ := take_first s
  unfold dec_TakeText.f takeText
  rw [take_some hs]
  simp only [Option.bind_some]
  generalize takeNum s = r at *
  by_cases hz : r.2.2 = 0
  · rw [if_pos hz, if_neg (show ¬ ¬ r.2.2 = 0 from fun h => h hz)]
    have e1 : IntKind.u64.wrap (r.2.1.size : Int) = (r.2.1.size : Int) := by
      rw [IntKind.wrap_u64]
      omega
    by_cases hm0 : most < 0
    · rw [if_pos hm0, if_pos (.inl hm0)]
      simp only [dec_TakeText.j0]
      rw [if_pos trivial]
      rfl
    · have e2 : IntKind.u64.wrap most = most := by
        rw [IntKind.wrap_u64]
        omega
      rw [if_neg hm0]
      simp only [dec_TakeText.j0]
      rw [e1, e2]
      by_cases hb : r.1 > most
      · rw [decide_eq_true hb, if_pos rfl, if_pos (.inr hb)]
        rfl
      · rw [decide_eq_false hb, if_neg (show ¬ (false = true) by decide), if_neg (show ¬ (most < 0 ∨ r.1 > most) from fun h => h.elim hm0 hb)]
        by_cases hl : r.1 > (r.2.1.size : Int)
        · rw [if_pos hl, if_pos hl]
          rfl
        · rw [if_neg hl, if_neg hl, if_pos h0, if_pos (by omega)]
  · rw [if_neg hz, if_pos hz]
    rfl
theorem reft_some (k : Nat) (s : ByteArray) (most : Int) (hs : s.size ≤ 9223372036854775807) (hm : most ≤ 9223372036854775807) : stanchionref01_TakeText.f (k + 1) s most = some (takeText s most) := by
  rw [← text_some k s most hs hm]
  unfold stanchionref01_TakeText.f dec_TakeText.f
  rw [take_some hs, ref_some hs]
  rfl
theorem Texts : stanchionlaw01_DecTexts.Pure := by
  intro s most hs hm
  have hm' := i64_wf hm
  refine ⟨0 + 1, ?_⟩
  unfold stanchionlaw01_DecTexts.f
  rw [shown_eq, text_some 0 s most (by omega) (by omega), reft_some 0 s most (by omega) (by omega)]
  simp
theorem Back : stanchionlaw01_DecBack.Pure := by
  intro a s m ha hs hm
  have ha' := u64_wf ha
  have hz := numS_size a.toNat (by omega)
  have e64 := two64_eq
  refine ⟨0 + 1, ?_⟩
  unfold stanchionlaw01_DecBack.f
  rw [shown_eq, num_some ha']
  simp only [Option.bind_some, stanchionlaw01_DecBack.j0]
  rw [if_pos (by omega), take_some (by rw [ByteArray.size_append]; omega), take_back a.toNat (by omega) m]
  simp only [Option.bind_some]
  rw [if_pos (by omega), if_pos trivial, if_neg (by decide), take_some (by omega)]
  simp only [Option.bind_some]
  rw [if_pos trivial]
  by_cases hg : (takeNum s).2.2 = 0
  · rw [if_pos hg]
    obtain ⟨n, h1, h2, h3⟩ := take_was (s := s) (v := (takeNum s).1) (r := (takeNum s).2.1) (by rw [← hg])
    have hle : (numS n).size + (takeNum s).2.1.size = s.size := by
      have := congrArg ByteArray.size h3
      rw [ByteArray.size_append] at this
      omega
    rw [h1, num_some (by omega)]
    simp only [Option.bind_some, Int.toNat_natCast]
    rw [if_pos (by omega), ← h3]
    simp
  · rw [if_neg hg]
/-- The figures, read one by one. -/
theorem fig_from (v : Nat) (hv : v < two64) (w : Int) (hw : 0 ≤ w ∧ w < 18446744073709551616) (d : Nat) : ∀ (k i x : Nat), (figL v).length - i = d → i ≤ (figL v).length → vfrom x ((figL v).drop i) = v → x < two64 → d < k →
    stanchionlaw01_DecFigures.l0 k (v : Int) w true (numS v) (x : Int) (i : Int) = some true := by
  have hsz : (numS v).size = (figL v).length + 1 := by
    rw [← len_size, numS_data]
    simp
  have h20 := figL_len v hv
  have e64 := two64_eq
  induction d with
  | zero =>
    intro k i x hd hi hx hx2 hk
    obtain ⟨k, rfl⟩ : ∃ m, k = m + 1 := ⟨k - 1, by omega⟩
    simp only [stanchionlaw01_DecFigures.l0]
    have e1 : wrap64 (((numS v).size : Int) - 1) = ((figL v).length : Int) := by
      unfold wrap64
      omega
    rw [List.drop_of_length_le (by omega), vfrom_nil] at hx
    subst hx
    rw [e1, if_neg (by omega), if_pos trivial, if_pos rfl, num_some hw]
    simp only [Option.bind_some]
    by_cases e : x = w.toNat
    · subst e
      rw [Int.toNat_of_nonneg hw.1]
      simp
    · have e2 : ¬ (x : Int) = w := by omega
      have e3 : ¬ (numS x).toList = (numS w.toNat).toList := by
        intro h
        rw [Lib.toList_data, Lib.toList_data] at h
        exact e (numS_inj (bytes_ext h))
      rw [beq_eq_false_iff_ne.mpr e2, beq_eq_false_iff_ne.mpr e3]
      rfl
  | succ d ih =>
    intro k i x hd hi hx hx2 hk
    obtain ⟨k, rfl⟩ : ∃ m, k = m + 1 := ⟨k - 1, by omega⟩
    simp only [stanchionlaw01_DecFigures.l0]
    have e1 : wrap64 (((numS v).size : Int) - 1) = ((figL v).length : Int) := by
      unfold wrap64
      omega
    have hlt : i < (figL v).length := by omega
    have hdig := figL_digit v _ (List.getElem_mem hlt)
    have hb := (isD_iff _).mp hdig
    have hbt : bt (numS v) (i : Int) = (((figL v)[i]).toNat : Int) := by
      rw [bt_data (by omega)]
      simp only [numS_data, List.getElem_append_left hlt]
    rw [List.drop_eq_getElem_cons hlt, vfrom_cons] at hx
    have f1 : (figL v).length - (i + 1) = d := by omega
    have f2 : i + 1 ≤ (figL v).length := by omega
    have f3 : d < k := by omega
    have hmono := vfrom_le ((figL v).drop (i + 1)) (10 * x + (((figL v)[i]).toNat - 48))
    have f4 : 10 * x + (((figL v)[i]).toNat - 48) < two64 := by omega
    rw [e1, if_pos (by omega), if_pos (by omega), if_pos (by omega), hbt, if_neg (by omega), if_neg (by omega)]
    have e2 : (((figL v)[i]).toNat : Int) - 48 = ((((figL v)[i]).toNat - 48 : Nat) : Int) := by omega
    have e3 : IntKind.u64.wrap ((IntKind.u64.wrap (10 * (x : Int))) + (((((figL v)[i]).toNat : Int) - 48) % 256)) = ((10 * x + (((figL v)[i]).toNat - 48) : Nat) : Int) := by
      rw [IntKind.wrap_u64, IntKind.wrap_u64, e2]
      omega
    have e4 : wrap64 ((i : Int) + 1) = ((i + 1 : Nat) : Int) := by
      unfold wrap64
      omega
    rw [e3, e4]
    exact ih k (i + 1) _ f1 f2 hx f4 f3
theorem Figures : stanchionlaw01_DecFigures.Pure := by
  intro a b ha hb
  have ha' := u64_wf ha
  have hb' := u64_wf hb
  have e64 := two64_eq
  obtain ⟨v, rfl⟩ : ∃ v : Nat, a = v := ⟨a.toNat, by omega⟩
  have hv : v < two64 := by omega
  have hsz : (numS v).size = (figL v).length + 1 := by
    rw [← len_size, numS_data]
    simp
  have h20 := figL_len v hv
  have h1 := figL_pos v
  refine ⟨(figL v).length + 1 + 1, ?_⟩
  unfold stanchionlaw01_DecFigures.f
  rw [shown_eq, num_some ha']
  simp only [Option.bind_some, Int.toNat_natCast, stanchionlaw01_DecFigures.j0]
  have e1 : wrap64 (((numS v).size : Int) - 1) = ((figL v).length : Int) := by
    unfold wrap64
    omega
  have e59 : bt (numS v) ((figL v).length : Int) = 59 := by
    rw [bt_data (by omega)]
    simp only [numS_data]
    rw [List.getElem_append_right (Nat.le_refl _)]
    simp
  rw [if_neg (by omega), if_neg (by omega), e1, if_pos (by omega), if_pos (by omega), e59, if_neg (by decide)]
  exact fig_from v hv b hb' (figL v).length ((figL v).length + 1) 0 0 (by omega) (by omega) (by rw [List.drop_zero]; exact figL_val v) (by omega) (by omega)
/-- A text that was written is taken. -/
theorem text_back (t m : ByteArray) (most : Int) (ht : t.size < 18446744073709551616) : takeText (textS t ++ m) most = if most < t.size then (ByteArray.empty, ByteArray.empty, 4) else (t, m, 0) := by
  have e64 := two64_eq
  have hb : takeNum (textS t ++ m) = ((t.size : Int), t ++ m, 0) := by
    unfold textS
    rw [ByteArray.append_assoc]
    exact take_back t.size (by omega) (t ++ m)
  unfold takeText
  rw [hb]
  simp only []
  by_cases h : most < t.size
  · rw [if_neg (by simp), if_pos (by omega), if_pos h]
  · have e1 : (t ++ m).extract 0 t.size = t := by
      apply bytes_ext
      rw [ext_upto, data_append, List.take_append_of_le_length (by rw [len_size]; omega), List.take_of_length_le (by rw [len_size]; omega)]
    have e2 : (t ++ m).extract t.size (t ++ m).size = m := by
      apply bytes_ext
      rw [ext_from, data_append, List.drop_append_of_le_length (by rw [len_size]; omega), List.drop_of_length_le (by rw [len_size]; omega)]
      rfl
    rw [if_neg (by simp), if_neg (by omega), if_neg (by rw [ByteArray.size_append]; omega), if_neg h, Int.toNat_natCast, e1, e2]
theorem TextBack : stanchionlaw01_DecTextBack.Pure := by
  intro t m most ht hm hmo
  have hmo' := i64_wf hmo
  have hz := numS_size t.size (by omega)
  have hts : (textS t).size = (numS t.size).size + t.size := by
    unfold textS
    rw [ByteArray.size_append]
  refine ⟨0 + 1, ?_⟩
  unfold stanchionlaw01_DecTextBack.f dec_Text.f
  rw [shown_eq, if_pos (by omega)]
  simp only [Option.bind_some]
  rw [if_pos (by omega), text_some 0 _ most (by rw [ByteArray.size_append]; omega) (by omega), text_back t m most (by omega)]
  simp only [Option.bind_some]
  have hE : ByteArray.empty.toList = [] := by rw [Lib.toList_data]; rfl
  by_cases h : most < t.size
  · simp [h, hE]
  · simp [h]
end Go.Proofs.Ytjgnnjclglimfaa.DecPure
