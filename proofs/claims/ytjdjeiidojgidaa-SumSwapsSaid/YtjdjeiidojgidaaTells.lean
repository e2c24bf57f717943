/- The walks of SumTells and SumSwaps. -/
import Derived.Test.YtjdjeiidojgidaaQDecx1
import Derived.Test.YtjdjeiidojgidaaSumLaws
import Derived.Test.YtjdjeiidojgidaaTellsMath
import Derived.Lib.ConvBytes
import Derived.Lib.SmallJoins
namespace Go.Proofs.Ytjdjeiidojgidaa.Tells
open Go Go.RowKit Go.Proofs.Ytjdjeiidojgidaa.DecM Go.Proofs.Ytjdjeiidojgidaa.SumM Go.Proofs.Ytjdjeiidojgidaa.Giv Go.Proofs.YtjdjeiidojgidaaW.PrintWords Go.Proofs.YtjdjeiidojgidaaW.PrintLast

/-- A row of bytes in memory. -/
def Bytes (W : World) (B : Nat) (xs : List Int) : Prop := (∀ i, i < xs.length → W.cell? ⟨B, i, none⟩ = some (.int .u8 (xs.getD i 0))) ∧ ∀ i, i < xs.length → W.frozen? ⟨B, i, none⟩ = false
theorem bytes_new (w : World) (s : ByteArray) : Bytes (Lib.bytesWorld w 5 s) w.heap.size (numsOf s) := by
  refine ⟨fun i hi => ?_, fun i hi => ?_⟩
  · rw [numsOf_len] at hi
    rw [Lib.bytesWorld_cell w 5 s i hi]
    unfold numsOf
    have hl : i < s.data.toList.length := by rw [len_size]; exact hi
    simp [List.getD, List.getElem?_eq_getElem hl]
  · rw [numsOf_len] at hi
    have hn : s.size ≤ (Lib.bytesCells w 5 s).size := by
      unfold Lib.bytesCells
      rw [Array.size_append, Array.size_map]
      exact Nat.le_add_right _ _
    simp only [World.frozen?, Lib.bytesWorld_at_new]
    simp
    omega
theorem bytes_set {W : World} {B : Nat} {xs : List Int} (h : Bytes W B xs) (k : Nat) (hk : k < xs.length) (c : Int) : Bytes (W.setCell ⟨B, k, none⟩ (.int .u8 c)) B (xs.set k c) := by
  refine ⟨fun i hi => ?_, fun i hi => ?_⟩
  · rw [List.length_set] at hi
    by_cases e : k = i
    · subst e
      rw [World.cell?_setCell_same W ⟨B, k, none⟩ _ (h.1 k hk)]
      simp [List.getD, hk]
    · rw [World.cell?_setCell_other W ⟨B, k, none⟩ ⟨B, i, none⟩ _ (by intro e2; apply e; cases e2; rfl), h.1 i hi]
      simp [List.getD, List.getElem?_set_ne e]
  · rw [List.length_set] at hi
    rw [World.frozen?_setCell]
    exact h.2 i hi
theorem bytes_str {W : World} {B : Nat} {xs : List Int} (h : Bytes W B xs) (n c : Nat) (hn : xs.length = n) : (convert 27 9 (.slice (some ⟨B, 0, none⟩) n c)).run Try.prog W = .ok (.string (strOfNums xs)) W := by
  refine run_convert_bytes_arg W 27 5 Try.underlying27 Try.underlying5 B 0 n c xs hn ?_ 9 Try.underlying9
  intro i hi
  rw [Nat.zero_add]
  exact h.1 i (by omega)
theorem shown_calls (w : World) : Calls Try.prog 12 #[] w fun e w' => e = .returned (.bool true) ∧ Below w.heap.size w w' :=
  QDec.stanchionlaw02_shown.calls true w DecPure.sumshown_eq
theorem conv_run (s : ByteArray) (W : World) : (convert 9 27 (.string s)).run Try.prog W = .ok (.slice (some ⟨W.heap.size, 0, none⟩) s.size (grownCap W s.size 0 5)) (Lib.bytesWorld W 5 s) :=
  Lib.run_convert_string_bytes W 9 27 5 s Try.underlying9 Try.underlying27 Try.underlying5

set_option maxHeartbeats 1000000 in
theorem tells_no (s : ByteArray) (p b : Int) (w : World) (_hs : s.size ≤ 140737488351232) (h : p < 0 ∨ (s.size : Int) ≤ p) :
    Calls Try.prog 4 #[.string s, .int .i64 p, .int .u8 b] w fun e w' => e = .returned (.bool true) ∧ Below w.heap.size w w' := by
  have HS := Lib.hid shown_calls
  rcases h with h | h
  · go_enter Try.func4, Try.ntmps4
    go_wp2_with (go_at_call 12; refine (HS.out _).mono ?_; rintro e w1 ⟨rfl, hb⟩)
    go_ret
    exact ⟨rfl, hb⟩
  · have h0 : ¬ p < 0 := by omega
    go_enter Try.func4, Try.ntmps4
    go_wp2_with (go_at_call 12; refine (HS.out _).mono ?_; rintro e w1 ⟨rfl, hb⟩)
    go_ret
    exact ⟨rfl, hb⟩
set_option maxHeartbeats 1000000 in
theorem tells_eq (s : ByteArray) (k : Nat) (b : Int) (w : World) (_hs : s.size ≤ 140737488351232) (hk : k < s.size) (hb : ((s[k].toNat : Int) == b) = true) :
    Calls Try.prog 4 #[.string s, .int .i64 (k : Int), .int .u8 b] w fun e w' => e = .returned (.bool true) ∧ Below w.heap.size w w' := by
  have HS := Lib.hid shown_calls
  go_enter Try.func4, Try.ntmps4
  go_wp2_with (go_at_call 12; refine (HS.out _).mono ?_; rintro e w1 ⟨rfl, hb⟩)
  go_ret
  exact ⟨rfl, hb⟩
set_option maxHeartbeats 1000000 in
theorem tells_ne (s : ByteArray) (k : Nat) (b : Int) (w : World) (hs : s.size ≤ 140737488351232) (hk : k < s.size) (hb : ((s[k].toNat : Int) == b) = false) (hb0 : 0 ≤ b ∧ b ≤ 255) :
    Calls Try.prog 4 #[.string s, .int .i64 (k : Int), .int .u8 b] w fun e w' => e = .returned (.bool true) ∧ Below w.heap.size w w' := by
  have HS := Lib.hid shown_calls
  have hcv := conv_run s
  have hsz : (strOfNums ((numsOf s).set k b)).size = s.size := by rw [strOfNums_size, List.length_set, numsOf_len]
  have HO : Hid (∀ w, Calls Try.prog 13 #[.string (strOfNums ((numsOf s).set k b))] w fun e w' => e = .returned (.int .u32 (ofS (strOfNums ((numsOf s).set k b)))) ∧ Below w.heap.size w w') := Lib.hid fun w => of_calls _ w (by omega)
  have HO2 : Hid (∀ w, Calls Try.prog 13 #[.string s] w fun e w' => e = .returned (.int .u32 (ofS s)) ∧ Below w.heap.size w w') := Lib.hid fun w => of_calls _ w (by omega)
  have hne : (((ofS (strOfNums ((numsOf s).set k b)) : Nat) : Int) != ((ofS s : Nat) : Int)) = true := by
    have hd : s.data.toList = s.data.toList.take k ++ s[k] :: s.data.toList.drop (k + 1) := by
      have := List.take_append_drop k s.data.toList
      rw [List.drop_eq_getElem_cons (by rw [len_size]; exact hk)] at this
      exact this.symm
    have ht : (strOfNums ((numsOf s).set k b)).data.toList = s.data.toList.take k ++ UInt8.ofNat b.toNat :: s.data.toList.drop (k + 1) := by
      have e : (numsOf s).set k b = (s.data.toList.set k (UInt8.ofNat b.toNat)).map fun c => (c.toNat : Int) := by
        unfold numsOf
        rw [List.map_set]
        congr 1
        simp
        omega
      rw [e, str_nums, List.set_eq_take_append_cons_drop, if_pos (by rw [len_size]; exact hk)]
    have hn : s[k] ≠ UInt8.ofNat b.toNat := by
      intro e
      have : ((s[k].toNat : Int) == b) = true := by
        rw [e]
        simp
        omega
      rw [this] at hb
      cases hb
    have := of_tells hd ht hn
    rw [bne_iff_ne]
    omega
  have HN := Lib.hid hne
  clear hne hsz
  go_enter Try.func4, Try.ntmps4
  go_wp2_with fail
  refine (HS.out _).mono ?_
  rintro e w1 ⟨rfl, hb1⟩
  have HB1 := Lib.hid hb1
  clear hb1
  have hby := bytes_new w1 s
  have hc := hby.1 k (by rw [numsOf_len]; exact hk)
  have hf := hby.2 k (by rw [numsOf_len]; exact hk)
  have hby2 := bytes_set hby k (by rw [numsOf_len]; exact hk) b
  have hst := bytes_str hby2 s.size (grownCap w1 s.size 0 5) (by rw [List.length_set, numsOf_len])
  have HW : Hid (Below w.heap.size w ((Lib.bytesWorld w1 5 s).setCell ⟨w1.heap.size, k, none⟩ (.int .u8 b))) :=
    Lib.hid ((HB1.out.trans (Joins.below_bytesWorld _ w1 5 s HB1.out.size)).setCell HB1.out.size _)
  clear hby hby2
  go_wp2_with fail
  refine (HO.out _).mono ?_
  rintro e w2 ⟨rfl, hb2⟩
  have HB2 := Lib.hid hb2
  clear hb2
  go_wp2_with fail
  refine (HO2.out _).mono ?_
  rintro e w3 ⟨rfl, hb3⟩
  have HB3 := Lib.hid hb3
  clear hb3
  have hne := HN.out
  go_wp2
  go_ret
  exact ⟨rfl, (HW.out.trans (HB2.out.mono HW.out.size)).trans (HB3.out.mono (Nat.le_trans HW.out.size HB2.out.size))⟩
/-- The row's walk: whatever the arguments. -/
theorem Tells (s : ByteArray) (p b : Int) (w : World) (hs : s.size ≤ 140737488351232) (hb : (Lit.int .u8 b).wf = true) :
    Calls Try.prog 4 #[.string s, .int .i64 p, .int .u8 b] w fun e w' => e = .returned (.bool true) ∧ Below w.heap.size w w' := by
  by_cases h : p < 0 ∨ (s.size : Int) ≤ p
  · exact tells_no s p b w hs h
  · obtain ⟨k, rfl⟩ : ∃ k : Nat, p = k := ⟨p.toNat, by omega⟩
    have hk : k < s.size := by omega
    cases he : ((s[k].toNat : Int) == b) with
    | true => exact tells_eq s k b w hs hk he
    | false => exact tells_ne s k b w hs hk he (bounds_u8 hb)
end Go.Proofs.Ytjdjeiidojgidaa.Tells
