/- sum.Of: the walk. -/
import Derived.Test.YtjdjeiidojgidaaProg
import Derived.Test.YtjdjeiidojgidaaSumMath
import Derived.Test.YtjdjeiidojgidaaWWords
import Derived.Test.YtjdjeiidojgidaaWMore
import Derived.WalkKit
import Derived.LoopTactic
import Derived.IntWalk
import Derived.Lib.Hide
import Derived.KernelRfl
import Derived.Laws.BitsAllLaws
namespace Go.Proofs.Ytjdjeiidojgidaa.Giv
open Go Go.RowKit Go.Proofs.Ytjdjeiidojgidaa.SumM Go.Proofs.YtjdjeiidojgidaaW.PrintWords Go.Proofs.YtjdjeiidojgidaaW.PrintLast

set_option maxHeartbeats 400000 in
theorem add_calls (c : Int) (a b : Nat) (B : Nat) (w : World) (hc : 0 ≤ c ∧ c ≤ 255) (ha : a < 65521) (hb : b < 65521) (hB : w.heap[B]? = some (.cells #[.int .u32 a, .int .u32 b] 42 (0, 0))) :
    Calls Try.prog 21 #[.int .u8 c, .pointer (some ⟨B, 0, none⟩)] w fun e w' => e = .returned (.tuple #[]) ∧ w'.heap[B]? = some (.cells #[.int .u32 ((a + c) % 65521), .int .u32 ((b + (a + c)) % 65521)] 42 (0, 0)) ∧ (∀ n, n ≤ B → Below n w w') := by
  obtain ⟨hc0, hc1⟩ := hc
  have h0 : w.cell? ⟨B, 0, none⟩ = some (.int .u32 a) := blk_cell hB 0
  have h1 : w.cell? ⟨B, 1, none⟩ = some (.int .u32 b) := blk_cell hB 1
  have f0 := blk_frozen hB 0
  have f1 := blk_frozen hB 1
  have HB := Lib.hid hB
  clear hB
  go_enter Try.func21, Try.ntmps21
  go_wp2
  go_end0
  exact ⟨rfl, blk_set (blk_set HB.out 0 _) 1 _, fun n hn => ((Below.refl n w).setCell hn _).setCell hn _⟩
theorem or_halves (a b : Nat) (ha : a < 65536) : b * 65536 ||| a = b * 65536 + a := by
  have h := Nat.two_pow_add_eq_or_of_lt (i := 16) (b := a) ha b
  rw [show (2 : Nat) ^ 16 = 65536 from rfl, Nat.mul_comm 65536 b] at h
  exact h.symm
/-- The halves put together, as the walk spells it. -/
theorem or32 (a b : Nat) (ha : a < 65521) (hb : b < 65521) : bits .or .u32 ((b : Int) * 65536) (a : Int) = (sumV (a, b) : Int) := by
  rw [show (b : Int) * 65536 = ((b * 65536 : Nat) : Int) by omega, u32_or_nat (b * 65536) a (by omega) (by omega), or_halves a b (by omega)]
  unfold sumV
  simp only []
  omega
set_option maxHeartbeats 400000 in
theorem of_calls (s : ByteArray) (w : World) (hs : s.size ≤ 9223372036854775807) :
    Calls Try.prog 13 #[.string s] w fun e w' => e = .returned (.int .u32 (ofS s)) ∧ Below w.heap.size w w' := by
  go_enter Try.func13, Try.ntmps13
  go_wp2
  go_loopw [10] (fun x wr => ∃ k a b : Nat, k ≤ s.size ∧ x = .int .i64 k ∧ a < 65521 ∧ b < 65521 ∧ Hid (sumL (1, 0) (s.data.toList.take k) = (a, b)) ∧ wr.heap[w.heap.size]? = some (.cells #[.int .u32 a, .int .u32 b] 42 (0, 0)) ∧ Below w.heap.size w wr) (fun x _ => s.size - (intOf x).toNat)
  case atStart => exact ⟨0, 1, 0, by omega, rfl, by omega, by omega, Lib.hid rfl, blk_new w _, (Below.refl _ _).alloc (Nat.le_refl _) _⟩
  case round =>
    obtain ⟨k, a, b, hk, rfl, ha, hb, HP, hblk, hB⟩ := hrel
    have HB := Lib.hid hB
    by_cases hkn : k < s.size
    · have hc : (0 : Int) ≤ (s[k].toNat : Int) ∧ (s[k].toNat : Int) ≤ 255 := by have := s[k].toNat_lt; omega
      have HC := Lib.hid (add_calls (s[k].toNat : Int) a b w.heap.size wr hc ha hb hblk)
      have HN : Hid (sumL (1, 0) (s.data.toList.take (k + 1)) = ((a + s[k].toNat) % 65521, (b + (a + s[k].toNat)) % 65521)) := by
        refine Lib.hid ?_
        rw [take_next s k hkn, sumL_append, HP.out, sumL_cons, sumL_nil]
        unfold stepS
        simp
      clear hblk hB hc
      go_wp2_with (go_at_call 21; refine HC.out.mono ?_; rintro e w1 ⟨rfl, hb1, hb2⟩; have HB1 := Lib.hid hb1; have HB2 := Lib.hid hb2; clear hb1 hb2)
      go_roundw
      case rel => exact ⟨k + 1, (a + s[k].toNat) % 65521, (b + (a + s[k].toNat)) % 65521, by omega, by go_num, by omega, by omega, HN, HB1.out, HB.out.trans (HB2.out _ (Nat.le_refl _))⟩
      case measure => simp [intOf]; omega
    · have h0 : wr.cell? ⟨w.heap.size, 0, none⟩ = some (.int .u32 a) := blk_cell hblk 0
      have h1 : wr.cell? ⟨w.heap.size, 1, none⟩ = some (.int .u32 b) := blk_cell hblk 1
      obtain rfl : k = s.size := by omega
      have HV : Hid (ofS s = sumV (a, b)) := by
        refine Lib.hid ?_
        unfold ofS
        have := HP.out
        rw [List.take_of_length_le (by rw [data_length]; omega)] at this
        rw [this]
      have HO := Lib.hid (or32 a b ha hb)
      clear hblk hB HP
      go_wp2
      go_ret
      refine ⟨?_, HB.out⟩
      show Ending.returned (.int .u32 (bits .or .u32 ((b : Int) * 65536) (a : Int))) = _
      rw [HO.out, HV.out]
end Go.Proofs.Ytjdjeiidojgidaa.Giv
