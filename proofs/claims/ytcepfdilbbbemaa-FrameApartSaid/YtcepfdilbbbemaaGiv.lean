/- dec.TakeNum: the walk where figures fill the bytes; then the contracts of dec.TakeNum and dec.Num as the printer's texts use them. -/
import Derived.Test.YtcepfdilbbbemaaTake
import Derived.Test.YtcepfdilbbbemaaNum
import Derived.Test.YtcepfdilbbbemaaRefs
namespace Go.Proofs.Ytcepfdilbbbemaa.Giv
open Go Go.RowKit Go.Proofs.Ytcepfdilbbbemaa.DecM Go.Proofs.YtcepfdilbbbemaaW.PrintWords Go.Proofs.YtcepfdilbbbemaaW.PrintLast

set_option maxHeartbeats 1000000 in
theorem take_eq (s : ByteArray) (n : Nat) (w : World) (hs : s.size ≤ 9223372036854775807) (hn : n = s.size)
    (hd : ∀ (i : Nat) (h : i < s.size), (48 : Int) ≤ ((s[i]'h).toNat : Int) ∧ ((s[i]'h).toNat : Int) ≤ 57)
    (ht : ∀ c ∈ (s.extract 0 n).data.toList, isD c = true) (hN : nd s.data.toList = n) :
    Calls Try.prog 24 #[.string s] w (Ends w (takeNum s)) := by
  have HD := Lib.hid hd
  have HT := Lib.hid ht
  have HN := Lib.hid hN
  have HM := Lib.hid hn
  have hm1 : n ≤ s.size := by omega
  have hm2 : s.size ≤ n := by omega
  have HZ : Hid ((s.extract 0 n).size ≤ 9223372036854775807) := Lib.hid (by rw [ByteArray.size_extract]; omega)
  clear hd ht hN hn
  go_enter Try.func24, Try.ntmps24
  go_wp2
  go_step3
  go_wp2
  go_step3
  go_wp2
  go_loop [5] (fun x => ∃ k : Nat, k ≤ n ∧ x = .int .i64 k) (fun x => n - (intOf x).toNat)
  case atStart => exact ⟨0, by omega, rfl⟩
  case round =>
    obtain ⟨k, hk, rfl⟩ := hrel
    by_cases hkn : k < s.size
    · obtain ⟨h1, h2⟩ := HD.out k hkn
      go_wp2
      go_round
      case rel => exact ⟨k + 1, by omega, by go_num⟩
      case measure => simp [intOf]; omega
    · obtain rfl : k = n := by omega
      by_cases h20 : 20 < k
      · have HE := Lib.hid (c_big HN.out h20)
        go_wp2
        (try rw [Exit.noGoto_ret])
        go_ret3
        exact ends_of HE (Below.refl _ _)
      · have hks : ((k : Int) == (s.size : Int)) = true := by simp; omega
        by_cases hv : val (s.extract 0 k).data.toList < two64
        · have HV : Hid (val (s.data.toList.take k) < two64) := Lib.hid (by rw [← ext_take]; exact hv)
          have HW : Hid (val (s.extract 0 k).data.toList = val (s.data.toList.take k)) := Lib.hid (by rw [ext_take])
          go_wp2_with (go_at_call 28; refine (told_yes _ _ _ HZ.out HT.out HW.out HV.out).mono ?_; rintro e w' ⟨rfl, hw⟩)
          all_goals
            have HB := hw.below
            first
              | (have HE := Lib.hid (c_zero HN.out ‹_› ‹_› ‹_›); (try rw [Exit.noGoto_ret]); go_ret3; exact ends_of HE HB)
              | (have HE := Lib.hid (c_more HN.out h20 HM.out HV.out (by first | exact .inl ‹_› | exact .inr ⟨‹_›, ‹_›⟩)); (try rw [Exit.noGoto_ret]); go_ret3; exact ends_of HE HB)
        · have HV : Hid (¬ val (s.data.toList.take k) < two64) := Lib.hid (by rw [← ext_take]; exact hv)
          have HE := Lib.hid (c_told HN.out HV.out)
          go_wp2_with (go_at_call 28; refine (told_no _ _ HZ.out HT.out hv).mono ?_; rintro e w' ⟨rfl, hw⟩)
          all_goals
            have HB := hw.below
            (try rw [Exit.noGoto_ret])
            go_ret3
            exact ends_of HE HB
theorem byte_fig {s : ByteArray} {i : Nat} (h : i < s.size) (hd : isD (s.data.toList[i]'(by rw [data_length]; exact h)) = true) : (48 : Int) ≤ ((s[i]'h).toNat : Int) ∧ ((s[i]'h).toNat : Int) ≤ 57 := by
  have e : s.data.toList[i]'(by rw [data_length]; exact h) = s[i] := by
    simp only [Array.getElem_toList]
    rfl
  rw [e] at hd
  have := (isD_iff _).mp hd
  omega
theorem take_calls (s : ByteArray) (w : World) (hs : s.size ≤ 9223372036854775807) : Calls Try.prog 24 #[.string s] w (Ends w (takeNum s)) := by
  have hl : s.data.toList.length = s.size := data_length s
  have hle := nd_le s.data.toList
  have ht : ∀ c ∈ (s.extract 0 (nd s.data.toList)).data.toList, isD c = true := by
    intro c hc
    rw [ext_take] at hc
    exact nd_digits _ c hc
  by_cases hn : nd s.data.toList < s.size
  · refine take_lt s _ w hs hn (fun i hi => ?_) ?_ ht rfl
    · obtain ⟨_, h⟩ := nd_at s.data.toList i hi
      exact byte_fig (by omega) h
    · have h := nd_stop s.data.toList (by omega)
      intro ⟨h1, h2⟩
      have e : s.data.toList[nd s.data.toList]'(by omega) = s[nd s.data.toList] := by
        simp only [Array.getElem_toList]
        rfl
      rw [e] at h
      have := (isD_iff s[nd s.data.toList]).mpr (by omega)
      rw [this] at h
      cases h
  · refine take_eq s _ w hs (by omega) (fun i hi => ?_) ht rfl
    obtain ⟨_, h⟩ := nd_at s.data.toList i (by omega)
    exact byte_fig hi h
theorem refNum_calls (v : Nat) (w : World) (hv : v < 18446744073709551616) :
    Calls Try.prog 27 #[.int .u64 v] w fun e w' => e = .returned (.string (numS v)) ∧ Below w.heap.size w w' :=
  QT.stanchionref01_Num.calls 21 (v : Int) (numS v) w (refNum_eq v hv)
theorem refTake_calls (s : ByteArray) (w : World) (hs : s.size ≤ 9223372036854775807) : Calls Try.prog 25 #[.string s] w (Ends w (takeNum s)) := by
  obtain ⟨k, hk⟩ := refTake_eq s hs
  refine (QT.stanchionref01_TakeNum.calls k s (takeNum s).1 (takeNum s).2.1 (takeNum s).2.2 w hk).mono ?_
  intro e w' ⟨he, hw⟩
  exact ⟨he, hw.below⟩
/-- The encoding of a text. -/
def textS (t : ByteArray) : ByteArray := numS t.size ++ t
set_option maxHeartbeats 400000 in
theorem text_calls (t : ByteArray) (w : World) (ht : t.size ≤ 4611686018427387904) :
    Calls Try.prog 21 #[.string t] w fun e w' => e = .returned (.string (textS t)) ∧ Below w.heap.size w w' := by
  have hz := numS_size t.size (by omega)
  have HC := Lib.hid (num_calls t.size)
  have HE : Hid (textS t = numS t.size ++ t) := Lib.hid rfl
  go_enter Try.func21, Try.ntmps21
  go_wp2_with (go_at_call 26; refine (HC.out _ (by omega)).mono ?_; rintro e w1 ⟨rfl, hb⟩)
  go_ret
  exact ⟨by rw [HE.out]; rfl, hb⟩
set_option maxHeartbeats 400000 in
theorem refText_calls (t : ByteArray) (w : World) (ht : t.size ≤ 4611686018427387904) :
    Calls Try.prog 22 #[.string t] w fun e w' => e = .returned (.string (textS t)) ∧ Below w.heap.size w w' := by
  have hz := numS_size t.size (by omega)
  have HC := Lib.hid (refNum_calls t.size)
  have HE : Hid (textS t = numS t.size ++ t) := Lib.hid rfl
  go_enter Try.func22, Try.ntmps22
  go_wp2_with (go_at_call 27; refine (HC.out _ (by omega)).mono ?_; rintro e w1 ⟨rfl, hb⟩)
  go_ret
  exact ⟨by rw [HE.out]; rfl, hb⟩
end Go.Proofs.Ytcepfdilbbbemaa.Giv
namespace Go.Proofs.Ytcepfdilbbbemaa.QDec
open Go Go.RowKit Go.Proofs.Ytcepfdilbbbemaa.DecM Go.Proofs.Ytcepfdilbbbemaa.Giv

/-- As the printed texts call it. -/
def dec_TakeNum.f (a0 : ByteArray) : Option (Int × ByteArray × Int) := if a0.size ≤ 9223372036854775807 then some (takeNum a0) else none
theorem dec_TakeNum.calls (a0 : ByteArray) (r1 : Int) (r2 : ByteArray) (r3 : Int) (w : World) (h : dec_TakeNum.f a0 = some (r1, r2, r3)) :
    Calls Try.prog 24 #[.string a0] w fun e w' => e = .returned (.tuple #[.int .u64 r1, .string r2, .int .i64 r3]) ∧ Below w.heap.size w w' := by
  unfold dec_TakeNum.f at h
  by_cases hs : a0.size ≤ 9223372036854775807
  · rw [if_pos hs] at h
    have e := Option.some.inj h
    refine (take_calls a0 w hs).mono ?_
    intro e1 w1 hE
    unfold Ends at hE
    rw [e] at hE
    exact hE
  · rw [if_neg hs] at h
    cases h
/-- As the printed texts call it. -/
def stanchionref01_TakeNum.f (a0 : ByteArray) : Option (Int × ByteArray × Int) := if a0.size ≤ 9223372036854775807 then some (takeNum a0) else none
theorem stanchionref01_TakeNum.calls (a0 : ByteArray) (r1 : Int) (r2 : ByteArray) (r3 : Int) (w : World) (h : stanchionref01_TakeNum.f a0 = some (r1, r2, r3)) :
    Calls Try.prog 25 #[.string a0] w fun e w' => e = .returned (.tuple #[.int .u64 r1, .string r2, .int .i64 r3]) ∧ Below w.heap.size w w' := by
  unfold stanchionref01_TakeNum.f at h
  by_cases hs : a0.size ≤ 9223372036854775807
  · rw [if_pos hs] at h
    have e := Option.some.inj h
    refine (refTake_calls a0 w hs).mono ?_
    intro e1 w1 hE
    unfold Ends at hE
    rw [e] at hE
    exact hE
  · rw [if_neg hs] at h
    cases h
def dec_Num.f (a0 : Int) : Option (ByteArray) := if 0 ≤ a0 ∧ a0 < 18446744073709551616 then some (numS a0.toNat) else none
theorem dec_Num.calls (a0 : Int) (r : ByteArray) (w : World) (h : dec_Num.f a0 = some r) :
    Calls Try.prog 26 #[.int .u64 a0] w fun e w' => e = .returned (.string r) ∧ Below w.heap.size w w' := by
  unfold dec_Num.f at h
  by_cases hs : 0 ≤ a0 ∧ a0 < 18446744073709551616
  · rw [if_pos hs] at h
    have e := Option.some.inj h
    have hv := num_calls a0.toNat w (by omega)
    rw [Int.toNat_of_nonneg hs.1, e] at hv
    exact hv
  · rw [if_neg hs] at h
    cases h
def stanchionref01_Num.f (a0 : Int) : Option (ByteArray) := if 0 ≤ a0 ∧ a0 < 18446744073709551616 then some (numS a0.toNat) else none
theorem stanchionref01_Num.calls (a0 : Int) (r : ByteArray) (w : World) (h : stanchionref01_Num.f a0 = some r) :
    Calls Try.prog 27 #[.int .u64 a0] w fun e w' => e = .returned (.string r) ∧ Below w.heap.size w w' := by
  unfold stanchionref01_Num.f at h
  by_cases hs : 0 ≤ a0 ∧ a0 < 18446744073709551616
  · rw [if_pos hs] at h
    have e := Option.some.inj h
    have hv := refNum_calls a0.toNat w (by omega)
    rw [Int.toNat_of_nonneg hs.1, e] at hv
    exact hv
  · rw [if_neg hs] at h
    cases h
def dec_Text.f (a0 : ByteArray) : Option (ByteArray) := if a0.size ≤ 4611686018427387904 then some (textS a0) else none
theorem dec_Text.calls (a0 : ByteArray) (r : ByteArray) (w : World) (h : dec_Text.f a0 = some r) :
    Calls Try.prog 21 #[.string a0] w fun e w' => e = .returned (.string r) ∧ Below w.heap.size w w' := by
  unfold dec_Text.f at h
  by_cases hs : a0.size ≤ 4611686018427387904
  · rw [if_pos hs] at h
    have e := Option.some.inj h
    have hv := text_calls a0 w hs
    rw [e] at hv
    exact hv
  · rw [if_neg hs] at h
    cases h
def stanchionref01_Text.f (a0 : ByteArray) : Option (ByteArray) := if a0.size ≤ 4611686018427387904 then some (textS a0) else none
theorem stanchionref01_Text.calls (a0 : ByteArray) (r : ByteArray) (w : World) (h : stanchionref01_Text.f a0 = some r) :
    Calls Try.prog 22 #[.string a0] w fun e w' => e = .returned (.string r) ∧ Below w.heap.size w w' := by
  unfold stanchionref01_Text.f at h
  by_cases hs : a0.size ≤ 4611686018427387904
  · rw [if_pos hs] at h
    have e := Option.some.inj h
    have hv := refText_calls a0 w hs
    rw [e] at hv
    exact hv
  · rw [if_neg hs] at h
    cases h
end Go.Proofs.Ytcepfdilbbbemaa.QDec
