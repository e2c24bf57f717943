/- The walk of SumSwaps. -/
import Derived.Test.YtjdjeiidojgidaaTells
import Derived.Deep.QuietTactic
import Derived.BigQuiet
import Derived.IntWalk
namespace Go.Proofs.Ytjdjeiidojgidaa.Tells
open Go Go.RowKit Go.Proofs.Ytjdjeiidojgidaa.DecM Go.Proofs.Ytjdjeiidojgidaa.SumM Go.Proofs.Ytjdjeiidojgidaa.Giv Go.Proofs.YtjdjeiidojgidaaW.PrintWords Go.Proofs.YtjdjeiidojgidaaW.PrintLast

set_option maxHeartbeats 1000000 in
theorem swaps_neg (s : ByteArray) (p : Int) (w : World) (h : p < 0) :
    Calls Try.prog 5 #[.string s, .int .i64 p] w fun e w' => e = .returned (.bool true) ∧ Below w.heap.size w w' := by
  have HS := Lib.hid shown_calls
  have d1 : decide (p < 0) = true := by simpa using h
  clear h
  go_enter Try.func5, Try.ntmps5
  go_wp2_with fail
  refine (HS.out _).mono ?_
  rintro e w1 ⟨rfl, hb1⟩
  have HB1 := Lib.hid hb1
  clear hb1
  go_wp2_with fail
  go_quiet (fail)
  go_wp2
  go_ret
  exact ⟨rfl, pw_below_drewN HB1.out _⟩
set_option maxHeartbeats 1000000 in
theorem swaps_far (s : ByteArray) (p : Int) (w : World) (hs : s.size ≤ 140737488351232) (h0 : ¬ p < 0) (h : (s.size : Int) - 1 ≤ p) :
    Calls Try.prog 5 #[.string s, .int .i64 p] w fun e w' => e = .returned (.bool true) ∧ Below w.heap.size w w' := by
  have HS := Lib.hid shown_calls
  have d1 : decide (p < 0) = false := by simpa using h0
  have d2 : decide ((s.size : Int) - 1 ≤ p) = true := by simpa using h
  have q1 : IntKind.i64.wrap ((s.size : Int) - 1) = (s.size : Int) - 1 := IntWalk.i64_in _ (by omega)
  have Q1 := Lib.hid q1
  clear h h0 q1
  go_enter Try.func5, Try.ntmps5
  go_wp2_with fail
  refine (HS.out _).mono ?_
  rintro e w1 ⟨rfl, hb1⟩
  have HB1 := Lib.hid hb1
  clear hb1
  go_wp2_with fail
  have q1 := Q1.out
  go_quiet (fail)
  clear q1
  go_wp2
  go_ret
  exact ⟨rfl, pw_below_drewN HB1.out _⟩
set_option maxHeartbeats 1000000 in
theorem swaps_eq (s : ByteArray) (k : Nat) (w : World) (hs : s.size ≤ 140737488351232) (hk : k + 1 < s.size) (hb : ((s[k].toNat : Int) == (s[k + 1].toNat : Int)) = true) :
    Calls Try.prog 5 #[.string s, .int .i64 (k : Int)] w fun e w' => e = .returned (.bool true) ∧ Below w.heap.size w w' := by
  have HS := Lib.hid shown_calls
  have d1 : decide ((k : Int) < 0) = false := by simp
  have d2 : decide ((s.size : Int) - 1 ≤ (k : Int)) = false := by simp; omega
  go_enter Try.func5, Try.ntmps5
  go_wp2_with fail
  refine (HS.out _).mono ?_
  rintro e w1 ⟨rfl, hb1⟩
  have HB1 := Lib.hid hb1
  clear hb1
  go_wp2_with fail
  have q3 : (0 : Int) ≤ (k : Int) + 1 := by omega
  have q4 : ((k : Int) + 1).toNat = k + 1 := by omega
  have q5 : (k : Int) + 1 < (s.size : Int) := by omega
  have q6 : (k : Int) < (s.size : Int) := by omega
  have q1 : IntKind.i64.wrap ((s.size : Int) - 1) = (s.size : Int) - 1 := IntWalk.i64_in _ (by omega)
  have q2 : IntKind.i64.wrap ((k : Int) + 1) = (k : Int) + 1 := IntWalk.i64_in _ (by omega)
  go_quiet (fail)
  clear q1 q2
  go_wp2
  go_ret
  exact ⟨rfl, pw_below_drewN HB1.out _⟩
set_option maxHeartbeats 1000000 in
theorem swaps_ne (s : ByteArray) (k : Nat) (w : World) (hs : s.size ≤ 140737488351232) (hk : k + 1 < s.size) (hb : ((s[k].toNat : Int) == (s[k + 1].toNat : Int)) = false) :
    Calls Try.prog 5 #[.string s, .int .i64 (k : Int)] w fun e w' => e = .returned (.bool true) ∧ Below w.heap.size w w' := by
  have HS := Lib.hid shown_calls
  have d1 : decide ((k : Int) < 0) = false := by simp
  have d2 : decide ((s.size : Int) - 1 ≤ (k : Int)) = false := by simp; omega
  have hcv := conv_run s
  obtain ⟨ys, hys⟩ : ∃ ys, ys = ((numsOf s).set k (s[k + 1].toNat : Int)).set (k + 1) (s[k].toNat : Int) := ⟨_, rfl⟩
  have hylen : ys.length = s.size := by rw [hys, List.length_set, List.length_set, numsOf_len]
  have hsz : (strOfNums ys).size = s.size := by rw [strOfNums_size, hylen]
  have HO : Hid (∀ w, Calls Try.prog 13 #[.string (strOfNums ys)] w fun e w' => e = .returned (.int .u32 (ofS (strOfNums ys))) ∧ Below w.heap.size w w') := Lib.hid fun w => of_calls _ w (by omega)
  have HO2 : Hid (∀ w, Calls Try.prog 13 #[.string s] w fun e w' => e = .returned (.int .u32 (ofS s)) ∧ Below w.heap.size w w') := Lib.hid fun w => of_calls _ w (by omega)
  have hne : (((ofS (strOfNums ys) : Nat) : Int) != ((ofS s : Nat) : Int)) = true := by
    have hl0 : k < s.data.toList.length := by rw [len_size]; omega
    have hl1 : k + 1 < s.data.toList.length := by rw [len_size]; omega
    have hd : s.data.toList = s.data.toList.take k ++ s[k] :: s[k + 1] :: s.data.toList.drop (k + 2) := by
      have := List.take_append_drop k s.data.toList
      rw [List.drop_eq_getElem_cons hl0, List.drop_eq_getElem_cons hl1] at this
      exact this.symm
    have ht : (strOfNums ys).data.toList = s.data.toList.take k ++ s[k + 1] :: s[k] :: s.data.toList.drop (k + 2) := by
      have e : ys = ((s.data.toList.set k s[k + 1]).set (k + 1) s[k]).map fun c => (c.toNat : Int) := by
        rw [hys]
        unfold numsOf
        rw [List.map_set, List.map_set]
      rw [e, str_nums]
      have e1 : s.data.toList.set k s[k + 1] = s.data.toList.take k ++ s[k + 1] :: s.data.toList.drop (k + 1) := by
        rw [List.set_eq_take_append_cons_drop, if_pos hl0]
      rw [e1, List.drop_eq_getElem_cons hl1, List.set_append_right _ _ (by rw [List.length_take]; omega)]
      have e2 : k + 1 - (s.data.toList.take k).length = 1 := by
        rw [List.length_take]
        omega
      rw [e2]
      rfl
    have hn : s[k] ≠ s[k + 1] := by
      intro e
      have : ((s[k].toNat : Int) == (s[k + 1].toNat : Int)) = true := by
        rw [e]
        simp
      rw [this] at hb
      cases hb
    have := of_swaps hd ht hn
    rw [bne_iff_ne]
    omega
  have HN := Lib.hid hne
  have HY := Lib.hid hys
  have HL := Lib.hid hylen
  clear hne hsz hys hylen
  go_enter Try.func5, Try.ntmps5
  go_wp2_with fail
  refine (HS.out _).mono ?_
  rintro e w1 ⟨rfl, hb1⟩
  have HB1 := Lib.hid hb1
  clear hb1
  go_wp2_with fail
  have q3 : (0 : Int) ≤ (k : Int) + 1 := by omega
  have q4 : ((k : Int) + 1).toNat = k + 1 := by omega
  have q5 : (k : Int) + 1 < (s.size : Int) := by omega
  have q6 : (k : Int) < (s.size : Int) := by omega
  have q1 : IntKind.i64.wrap ((s.size : Int) - 1) = (s.size : Int) - 1 := IntWalk.i64_in _ (by omega)
  have q2 : IntKind.i64.wrap ((k : Int) + 1) = (k : Int) + 1 := IntWalk.i64_in _ (by omega)
  go_quiet (fail)
  clear q1 q2
  have HB1x := Lib.hid (pw_below_drewN HB1.out nq)
  obtain ⟨wx, hwx⟩ : ∃ wx, w1.drewN nq = wx := ⟨_, rfl⟩
  rw [hwx] at HB1x ⊢
  clear hwx HB1
  have HB1 := HB1x
  clear HB1x
  have hby := bytes_new wx s
  have hc := hby.1 k (by rw [numsOf_len]; omega)
  have hf := hby.2 k (by rw [numsOf_len]; omega)
  have hby2 := bytes_set hby k (by rw [numsOf_len]; omega) (s[k + 1].toNat : Int)
  have hc2 := hby2.1 (k + 1) (by rw [List.length_set, numsOf_len]; omega)
  have hf2 := hby2.2 (k + 1) (by rw [List.length_set, numsOf_len]; omega)
  have hby3 := bytes_set hby2 (k + 1) (by rw [List.length_set, numsOf_len]; omega) (s[k].toNat : Int)
  rw [← HY.out] at hby3
  have hst := bytes_str hby3 s.size (grownCap wx s.size 0 5) HL.out
  have HW : Hid (Below w.heap.size w (((Lib.bytesWorld wx 5 s).setCell ⟨wx.heap.size, k, none⟩ (.int .u8 (s[k + 1].toNat : Int))).setCell ⟨wx.heap.size, k + 1, none⟩ (.int .u8 (s[k].toNat : Int)))) :=
    Lib.hid (((HB1.out.trans (Joins.below_bytesWorld _ wx 5 s HB1.out.size)).setCell HB1.out.size _).setCell HB1.out.size _)
  clear hby hby2 hby3
  go_wp2_with fail
  refine (HO.out _).mono ?_
  rintro e w2 ⟨rfl, hb2⟩
  have HB2 := Lib.hid hb2
  clear hb2
  go_wp2_with fail
  refine (HO2.out _).mono ?_
  rintro e w3 ⟨rfl, hb3⟩
  have HB3 := Lib.hid hb3
  clear hb3
  have hne := HN.out
  go_wp2
  go_ret
  exact ⟨rfl, (HW.out.trans (HB2.out.mono HW.out.size)).trans (HB3.out.mono (Nat.le_trans HW.out.size HB2.out.size))⟩
theorem Swaps (s : ByteArray) (p : Int) (w : World) (hs : s.size ≤ 140737488351232) :
    Calls Try.prog 5 #[.string s, .int .i64 p] w fun e w' => e = .returned (.bool true) ∧ Below w.heap.size w w' := by
  by_cases h : p < 0 ∨ (s.size : Int) - 1 ≤ p
  · by_cases h0 : p < 0
    · exact swaps_neg s p w h0
    · exact swaps_far s p w hs h0 (by omega)
  · obtain ⟨k, rfl⟩ : ∃ k : Nat, p = k := ⟨p.toNat, by omega⟩
    have hk : k + 1 < s.size := by omega
    cases he : ((s[k].toNat : Int) == (s[k + 1].toNat : Int)) with
    | true => exact swaps_eq s k w hs hk he
    | false => exact swaps_ne s k w hs hk he
end Go.Proofs.Ytjdjeiidojgidaa.Tells
