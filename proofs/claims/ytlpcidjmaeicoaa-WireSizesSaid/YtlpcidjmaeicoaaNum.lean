/- dec.Num: the walk: what it returns are the number's figures and a semicolon. -/
import Derived.Test.YtlpcidjmaeicoaaProg
import Derived.Test.YtlpcidjmaeicoaaDecMath
import Derived.Test.YtlpcidjmaeicoaaWWords
import Derived.Test.YtlpcidjmaeicoaaWMore
import Derived.WalkKit
import Derived.LoopTactic
import Derived.IntWalk
import Derived.Lib.Hide
import Derived.KernelRfl
namespace Go.Proofs.Ytlpcidjmaeicoaa.Giv
open Go Go.RowKit Go.Proofs.Ytlpcidjmaeicoaa.DecM Go.Proofs.YtlpcidjmaeicoaaW.PrintWords Go.Proofs.YtlpcidjmaeicoaaW.PrintLast

def arr (zs : List Int) : Array Value := (zs.map (.int .u8)).toArray
theorem arr_get (zs : List Int) (i : Nat) (h : i < zs.length) : (arr zs)[i]? = some (.int .u8 (zs.getD i 0)) := by
  simp [arr, h]
theorem arr_set (zs : List Int) (i : Nat) (c : Int) : (arr zs).setIfInBounds i (.int .u8 c) = arr (zs.set i c) := by
  simp [arr, List.map_set]
/-- What holds at the head of each round: i places are free, u is still to be told. -/
def NumInv (v : Nat) (i u : Nat) (zs : List Int) : Prop := 1 ≤ i ∧ i ≤ 20 ∧ u < 10 ^ i ∧ zs.length = 21 ∧ numL v ++ [59] = numL u ++ zs.drop i

theorem slice_arr (a : Nat) (j : Nat) (h : j ≤ 20) (W : World) : (Instr.sliceAt 60 (.pointer (some ⟨a, 0, none⟩)) (some (.int .i64 (j : Int))) none none).run Try.prog W = .ok (.slice (some ⟨a, j, none⟩) (21 - j) (21 - j)) W := by
  have hl : Try.prog.arrayLen 60 = 21 := by kernel_rfl
  have hs : ((sizeOf (Try.prog.elem 60)).run Try.prog W) = .ok 1 W := by kernel_rfl
  rw [run_sliceAt_array_l W 60 ⟨a, 0, none⟩ (by kernel_rfl) .i64 (j : Int) (by omega) (by rw [hl]; omega), hs, hl]
  simp only [Result.andThen, slicedAt, Int.toNat_natCast, Nat.mul_one]
  rw [if_neg (by omega)]
  simp [Addr.add]
  omega
theorem str_arr {W : World} {B : Nat} {zs : List Int} (hb : W.heap[B]? = some (.cells (arr zs) 60 (0, 0))) (hl : zs.length = 21) (j : Nat) (h : j ≤ 20) :
    (convert 45 9 (.slice (some ⟨B, j, none⟩) (21 - j) (21 - j))).run Try.prog W = .ok (.string (strOfNums (zs.drop j))) W := by
  refine run_convert_bytes_arg W 45 5 Try.underlying45 Try.underlying5 B j (21 - j) (21 - j) (zs.drop j) (by simp [hl]) ?_ 9 Try.underlying9
  intro i hi
  rw [blk_cell hb (j + i), arr_get zs (j + i) (by omega)]
  simp [List.getD, List.getElem?_drop]
set_option maxHeartbeats 400000 in
theorem num_calls (v : Nat) (w : World) (hv : v < 18446744073709551616) :
    Calls Try.prog 14 #[.int .u64 v] w fun e w' => e = .returned (.string (numS v)) ∧ Below w.heap.size w w' := by
  go_enter Try.func14, Try.ntmps14
  go_wp2
  go_loopw [0, 4] (fun x y wr => ∃ (i u : Nat) (zs : List Int), x = .int .u64 u ∧ y = .int .i64 i ∧ Hid (NumInv v i u zs) ∧ wr.heap[w.heap.size]? = some (.cells (arr zs) 60 (0, 0)) ∧ Below w.heap.size w wr) (fun _ y _ => (intOf y).toNat)
  case atStart =>
    refine ⟨20, v, [0, 0, 0, 0, 0, 0, 0, 0, 0, 0, 0, 0, 0, 0, 0, 0, 0, 0, 0, 0, 59], rfl, rfl, Lib.hid ⟨by omega, by omega, by omega, rfl, rfl⟩, ?_, (Below.refl _ _).alloc (Nat.le_refl _) _⟩
    exact blk_new w _
  case round =>
    obtain ⟨i, u, zs, rfl, rfl, HI, hblk, hB⟩ := hrel
    obtain ⟨h1, h20, hu, hlen, hsum⟩ := HI.out
    obtain ⟨j, rfl⟩ : ∃ j, i = j + 1 := ⟨i - 1, by omega⟩
    have hu64 : u < 100000000000000000000 := by
      have : 10 ^ (j + 1) ≤ 10 ^ 20 := Nat.pow_le_pow_right (by omega) h20
      omega
    have hsets : (wr.setCell ⟨w.heap.size, j, none⟩ (.int .u8 (48 + (u : Int) % 10))).heap[w.heap.size]? = some (.cells (arr (zs.set j (48 + (u : Int) % 10))) 60 (0, 0)) := by
      rw [← arr_set]
      exact blk_set hblk j _
    have hB' : Below w.heap.size w (wr.setCell ⟨w.heap.size, j, none⟩ (.int .u8 (48 + (u : Int) % 10))) := hB.setCell (Nat.le_refl _) _
    have hd := set_drop zs j (48 + (u : Int) % 10) (by omega)
    have hc : wr.cell? ⟨w.heap.size, j, none⟩ = some (.int .u8 (zs.getD j 0)) := by rw [blk_cell hblk j]; exact arr_get zs j (by omega)
    have hf := blk_frozen hblk j
    have hsl := slice_arr w.heap.size j (by omega)
    have hcv := str_arr hsets (by simpa using hlen) j (by omega)
    have HS := Lib.hid hsets
    have HD := Lib.hid hd
    have HB := Lib.hid hB'
    clear hu hlen hsum h1 hsets hd hB' hB hblk
    by_cases h10 : u < 10
    · have HE : Hid (strOfNums ((zs.set j (48 + (u : Int) % 10)).drop j) = numS v) := by
        refine Lib.hid ?_
        obtain ⟨_, _, _, _, hsum⟩ := HI.out
        rw [HD.out]
        unfold numS
        rw [hsum, numL_small h10]
        have : (u : Int) % 10 = u := by omega
        rw [this]
        rfl
      have hq : ((u : Int) / 10 == 0) = true := by
        have : (u : Int) / 10 = 0 := by omega
        rw [this]; rfl
      go_wp2
      go_ret
      exact ⟨by rw [HE.out]; rfl, HB.out⟩
    · have HN : Hid (NumInv v j (u / 10) (zs.set j (48 + (u : Int) % 10))) := by
        refine Lib.hid ?_
        obtain ⟨_, _, hu, hlen, hsum⟩ := HI.out
        obtain ⟨h2, h3⟩ := pow_step hu h10
        refine ⟨by omega, by omega, h3, by simpa using hlen, ?_⟩
        rw [HD.out, hsum, numL_big h10, List.append_assoc]
        rfl
      have hq : ((u : Int) / 10 == 0) = false := by
        have : ¬ (u : Int) / 10 = 0 := by omega
        simpa using this
      go_wp2
      go_roundw
      case rel => exact ⟨j, u / 10, _, by go_num, rfl, HN, HS.out, HB.out⟩
      case measure => simp [intOf]
end Go.Proofs.Ytlpcidjmaeicoaa.Giv
