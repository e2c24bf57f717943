/- dec.TakeNum: the walk, for bytes that figures do not fill, and for bytes that they fill. -/
import Derived.Test.YtcepfdilbbbemaaProg
import Derived.Test.YtcepfdilbbbemaaDecMath
import Derived.Test.YtcepfdilbbbemaaTold
import Derived.WalkKit
import Derived.LoopTactic
import Derived.Outline
import Derived.IntWalk
import Derived.Lib.Hide
import Derived.KernelRfl
import Derived.Deep.QuietTactic
import Derived.BigQuiet
namespace Go.Proofs.Ytcepfdilbbbemaa.Giv
open Go Go.RowKit Go.Proofs.Ytcepfdilbbbemaa.DecM Go.Proofs.YtcepfdilbbbemaaW.PrintWords Go.Proofs.YtcepfdilbbbemaaW.PrintLast

/-- A result, and the memory that was there is as it was. -/
def Ends (w : World) (r : Int × ByteArray × Int) (e : Ending) (w' : World) : Prop := e = .returned (.tuple #[.int .u64 r.1, .string r.2.1, .int .i64 r.2.2]) ∧ Below w.heap.size w w'
theorem get_data (s : ByteArray) (i : Nat) (h : i < s.size) : s.data.toList[i]? = some s[i] := by
  rw [List.getElem?_eq_getElem (by rw [data_length]; exact h)]
  simp only [Array.getElem_toList]
  rfl
theorem at_eq {s : ByteArray} {i : Nat} {h : i < s.size} {c : Nat} (hc : c < 256) : s.data.toList[i]? = some (UInt8.ofNat c) ↔ ((s[i]'h).toNat : Int) = c := by
  rw [get_data s i h]
  constructor
  · intro e
    have := Option.some.inj e
    rw [this]
    simp
    omega
  · intro e
    have : s[i].toNat = c := by omega
    rw [← this]
    simp
section
variable {s : ByteArray} {k : Nat} (hk : nd s.data.toList = k)
include hk
theorem c_big (h : 20 < k) : takeNum s = (0, ByteArray.empty, 3) := by
  unfold takeNum
  simp only [hk]
  rw [if_pos h]
theorem c_three (h : (1 < k ∧ s.data.toList[0]? = some 48) ∨ ¬ val (s.data.toList.take k) < two64 ∨ (k < s.data.toList.length ∧ (k = 0 ∨ ¬ s.data.toList[k]? = some 59))) : takeNum s = (0, ByteArray.empty, 3) := by
  unfold takeNum
  simp only [hk]
  by_cases h20 : 20 < k
  · rw [if_pos h20]
  · rw [if_neg h20, if_pos h]
theorem c_zero (h1 : (1 : Int) < (k : Int)) (h0 : 0 < s.size) (h : (((s[0]'h0).toNat : Int) == 48) = true) : takeNum s = (0, ByteArray.empty, 3) :=
  c_three hk (.inl ⟨by omega, (at_eq (c := 48) (by omega)).mpr (by simpa using h)⟩)
theorem c_told (h : ¬ val (s.data.toList.take k) < two64) : takeNum s = (0, ByteArray.empty, 3) := c_three hk (.inr (.inl h))
theorem c_sep (hn : k < s.size) (h : ((k : Int) == 0) = true ∨ (((s[k]'hn).toNat : Int) != 59) = true) : takeNum s = (0, ByteArray.empty, 3) := by
  refine c_three hk (.inr (.inr ⟨by rw [data_length]; exact hn, ?_⟩))
  rcases h with h | h
  · exact .inl (by simpa using h)
  · refine .inr fun e => ?_
    have := (at_eq (s := s) (i := k) (h := hn) (c := 59) (by omega)).mp e
    simp [this] at h
theorem c_none (hn : k < s.size) (h : k = 0) : takeNum s = (0, ByteArray.empty, 3) := c_three hk (.inr (.inr ⟨by rw [data_length]; exact hn, .inl h⟩))
theorem c_ok (h20 : ¬ 20 < k) (hn : k < s.size) (hv : val (s.data.toList.take k) < two64) (h1 : (k : Int) ≤ 1 ∨ ∃ h0 : 0 < s.size, (((s[0]'h0).toNat : Int) == 48) = false) (h : ((k : Int) == 0) = false ∧ (((s[k]'hn).toNat : Int) != 59) = false) :
    takeNum s = ((val (s.data.toList.take k) : Int), s.extract (k + 1) s.size, 0) := by
  unfold takeNum
  simp only [hk]
  have e59 : s.data.toList[k]? = some 59 := (at_eq (s := s) (i := k) (h := hn) (c := 59) (by omega)).mpr (by simpa using h.2)
  have k0 : ¬ k = 0 := by
    have := h.1
    intro e
    simp [e] at this
  have hl : s.data.toList.length = s.size := data_length s
  rw [if_neg h20, if_neg, if_neg (by omega)]
  rintro (⟨ha, hb⟩ | hb | ⟨_, hb | hb⟩)
  · rcases h1 with h1 | ⟨h0, h1⟩
    · omega
    · have := (at_eq (s := s) (i := 0) (h := h0) (c := 48) (by omega)).mp hb
      simp [this] at h1
  · exact hb hv
  · exact k0 hb
  · exact hb e59
theorem c_more (h20 : ¬ 20 < k) (hn : k = s.size) (hv : val (s.data.toList.take k) < two64) (h1 : (k : Int) ≤ 1 ∨ ∃ h0 : 0 < s.size, (((s[0]'h0).toNat : Int) == 48) = false) : takeNum s = (0, ByteArray.empty, 2) := by
  unfold takeNum
  simp only [hk]
  have hl : s.data.toList.length = s.size := data_length s
  rw [if_neg h20, if_neg, if_pos (by omega)]
  rintro (⟨ha, hb⟩ | hb | ⟨hb, _⟩)
  · rcases h1 with h1 | ⟨h0, h1⟩
    · omega
    · have := (at_eq (s := s) (i := 0) (h := h0) (c := 48) (by omega)).mp hb
      simp [this] at h1
  · exact hb hv
  · omega
end
theorem ext_take (s : ByteArray) (k : Nat) : (s.extract 0 k).data.toList = s.data.toList.take k := by
  rw [Lib.extract_data]
  simp
/-- A result, and the memory that was there is as it was. -/
theorem ends_of {w W : World} {s : ByteArray} {a : Int} {b : ByteArray} {c : Int} (h : Hid (takeNum s = (a, b, c))) (hb : Below w.heap.size w W) : Ends w (takeNum s) (.returned (.tuple #[.int .u64 a, .string b, .int .i64 c])) W := by
  rw [h.out]
  exact ⟨rfl, hb⟩
set_option maxHeartbeats 1000000 in
theorem take_lt (s : ByteArray) (n : Nat) (w : World) (hs : s.size ≤ 9223372036854775807) (hn : n < s.size)
    (hd : ∀ (i : Nat) (h : i < n), (48 : Int) ≤ ((s[i]'(by omega)).toNat : Int) ∧ ((s[i]'(by omega)).toNat : Int) ≤ 57) (hx : ¬ ((48 : Int) ≤ ((s[n]'hn).toNat : Int) ∧ ((s[n]'hn).toNat : Int) ≤ 57))
    (ht : ∀ c ∈ (s.extract 0 n).data.toList, isD c = true) (hN : nd s.data.toList = n) :
    Calls Try.prog 24 #[.string s] w (Ends w (takeNum s)) := by
  have HD := Lib.hid hd
  have HX := Lib.hid hx
  have HT := Lib.hid ht
  have HZ : Hid ((s.extract 0 n).size ≤ 9223372036854775807) := Lib.hid (by rw [ByteArray.size_extract]; omega)
  have HN := Lib.hid hN
  clear hd hx ht hN
  go_enter Try.func24, Try.ntmps24
  go_wp2
  go_step3
  go_wp2
  go_step3
  go_wp2
  go_loop [5] (fun x => ∃ k : Nat, k ≤ n ∧ x = .int .i64 k) (fun x => n - (intOf x).toNat)
  case atStart => exact ⟨0, by omega, rfl⟩
  case round =>
    obtain ⟨k, hk, rfl⟩ := hrel
    by_cases hkn : k < n
    · obtain ⟨h1, h2⟩ := HD.out k hkn
      go_wp2
      go_round
      case rel => exact ⟨k + 1, by omega, by go_num⟩
      case measure => simp [intOf]; omega
    · obtain rfl : k = n := by omega
      have hpart : ((s[k]'hn).toNat : Int) < 48 ∨ (48 ≤ ((s[k]'hn).toNat : Int) ∧ (57 : Int) < ((s[k]'hn).toNat : Int)) := by have := HX.out; omega
      by_cases h20 : 20 < k
      · have HE := Lib.hid (c_big HN.out h20)
        rcases hpart with h3 | ⟨h3, h4⟩
        all_goals
          go_wp2
          (try rw [Exit.noGoto_ret])
          go_ret3
          exact ends_of HE (Below.refl _ _)
      · by_cases hv : val (s.extract 0 k).data.toList < two64
        · have HV : Hid (val (s.data.toList.take k) < two64) := Lib.hid (by rw [← ext_take]; exact hv)
          have HW : Hid (val (s.extract 0 k).data.toList = val (s.data.toList.take k)) := Lib.hid (by rw [ext_take])
          rcases hpart with h3 | ⟨h3, h4⟩
          all_goals
            go_wp2_with (go_at_call 28; refine (told_yes _ _ _ HZ.out HT.out HW.out HV.out).mono ?_; rintro e w' ⟨rfl, hw⟩)
            all_goals
              have HB := hw.below
              first
                | (have HE := Lib.hid (c_zero HN.out ‹_› ‹_› ‹_›); (try rw [Exit.noGoto_ret]); go_ret3; exact ends_of HE HB)
                | (have HE := Lib.hid (c_none HN.out hn ‹_›); (try rw [Exit.noGoto_ret]); go_ret3; exact ends_of HE HB)
                | (have HE := Lib.hid (c_sep HN.out hn ‹_›); (try rw [Exit.noGoto_ret]); go_ret3; exact ends_of HE HB)
                | (have HE := Lib.hid (c_ok HN.out h20 hn HV.out (by first | exact .inl ‹_› | exact .inr ⟨‹_›, ‹_›⟩) ‹_›); clear hw; go_quiet (fail); go_wp2; (try rw [Exit.noGoto_ret]); go_ret3; exact ends_of HE (pw_below_drewN HB _))
        · have HV : Hid (¬ val (s.data.toList.take k) < two64) := Lib.hid (by rw [← ext_take]; exact hv)
          have HE := Lib.hid (c_told HN.out HV.out)
          rcases hpart with h3 | ⟨h3, h4⟩
          all_goals
            go_wp2_with (go_at_call 28; refine (told_no _ _ HZ.out HT.out hv).mono ?_; rintro e w' ⟨rfl, hw⟩)
            all_goals
              have HB := hw.below
              (try rw [Exit.noGoto_ret])
              go_ret3
              exact ends_of HE HB
end Go.Proofs.Ytcepfdilbbbemaa.Giv
