-- Written by the session's program gen.sh, which calls the kit's printer with imports of the session's choice.
import Derived.Test.YtjdjeiidojgidaaQTx0
namespace Go.Proofs.Ytjdjeiidojgidaa.QT
open Go.RowKit Go.Proofs.YtjdjeiidojgidaaW.PrintWords Go.Proofs.YtjdjeiidojgidaaW.PrintLast Go.Proofs.YtjdjeiidojgidaaW.PrintMore
attribute [local go_sem] max2_int min2_int max_two min_two max_three min_three max_four min_four   -- for this text's walks alone
set_option linter.unusedVariables false
set_option linter.unusedSimpArgs false

/-! ### stanchionref02_Of: function 14 -/
def stanchionref02_Of.l0 : Nat → ByteArray → Int → Int → Int → Option (Int)
  | 0, _, _, _, _ => none
  | k + 1, x0, x3, x4, x5 => if x5 < (x0.size : Int) then (if 0 ≤ x5 then (stanchionref02_Of.l0 k x0 (Int.tmod (wrap64 (x3 + (wrap64 (bt x0 x5)))) 65521) (Int.tmod (wrap64 (x4 + (Int.tmod (wrap64 (x3 + (wrap64 (bt x0 x5)))) 65521))) 65521) (wrap64 (x5 + 1))) else (none)) else (some ((wrap64 ((wrap64 (65536 * x4)) + x3)) % 4294967296))
def stanchionref02_Of.f (k : Nat) (a0 : ByteArray) : Option (Int) := stanchionref02_Of.l0 k a0 1 0 0
theorem stanchionref02_Of.mono_l : ∀ k, (∀ y0 y1 y2 y3, LeO (stanchionref02_Of.l0 k y0 y1 y2 y3) (stanchionref02_Of.l0 (k + 1) y0 y1 y2 y3))
  | 0 => fun _ _ _ _ r h => by simp [stanchionref02_Of.l0] at h
  | k + 1 => by
    have ih0 := stanchionref02_Of.mono_l k
    · intro y0 y1 y2 y3
      unfold stanchionref02_Of.l0
      repeat' first
      | (with_reducible exact ih0 _ _ _ _)
      | (with_reducible exact LeO.refl _)
      | (with_reducible exact LeO.none _)
      | (with_reducible refine LeO.ite ?_ ?_)
      | (with_reducible refine LeO.bind ?_ (fun _ => ?_))
      | exact ih0 _ _ _ _
      | exact LeO.none _
      | refine LeO.ite ?_ ?_
      | refine LeO.bind ?_ (fun _ => ?_)
theorem stanchionref02_Of.mono : ∀ a0 k, LeO (stanchionref02_Of.f k a0) (stanchionref02_Of.f (k + 1) a0) := by
  intro a0 k
  have ih0 := stanchionref02_Of.mono_l k
  unfold stanchionref02_Of.f
  repeat' first
      | (with_reducible exact ih0 _ _ _ _)
      | (with_reducible exact LeO.refl _)
      | (with_reducible exact LeO.none _)
      | (with_reducible refine LeO.ite ?_ ?_)
      | (with_reducible refine LeO.bind ?_ (fun _ => ?_))
      | exact ih0 _ _ _ _
      | exact LeO.none _
      | refine LeO.ite ?_ ?_
      | refine LeO.bind ?_ (fun _ => ?_)
set_option maxHeartbeats 8000000 in
set_option maxRecDepth 100000 in
theorem stanchionref02_Of.calls (k : Nat) (a0 : ByteArray) (r : Int) (w : World) (h : stanchionref02_Of.f k a0 = some r) :
    Calls Try.prog 14 #[.string a0] w fun e w' => e = .returned (.int .u32 r) ∧ Drawn0 w w' := by
  have H : (stanchionref02_Of.l0 k a0 1 0 0) = some r := h
  clear h
  have H' := Aside0.mk H
  clear H
  go_enter Try.func14, Try.ntmps14
  go_wp2
  go_loopg [3, 4, 5] k (fun kq v3 v4 v5 w' => ∃ (x3_1 : Int) (x4_1 : Int) (x5_1 : Int), v3 = .int .i64 x3_1 ∧ v4 = .int .i64 x4_1 ∧ v5 = .int .i64 x5_1 ∧ Aside0 (stanchionref02_Of.l0 kq a0 x3_1 x4_1 x5_1 = some r) ∧ Aside0 (kq ≤ k) ∧ Drawn0 w w')
  case atStart => exact ⟨(1), (0), (0), (by first | rfl | (simp; done) | (simp [*]; done)), (by first | rfl | (simp; done) | (simp [*]; done)), (by first | rfl | (simp; done) | (simp [*]; done)), H', ⟨Nat.le_refl _⟩, by repeat (first | exact Drawn0.refl _ | apply Drawn0.step)⟩
  case round =>
    clear H'
    try clear c1
    obtain ⟨x3_1, x4_1, x5_1, rfl, rfl, rfl, HA, HK1, ⟨m1, rfl⟩⟩ := hrel
    cases gk with
    | zero => exact absurd HA.out (by simp [stanchionref02_Of.l0])
    | succ k1 =>
      have H := HA.out
      clear HA
      simp only [stanchionref02_Of.l0] at H
      by_cases c2 : x5_1 < (a0.size : Int)
      · rw [if_pos c2] at H
        have c2b0 : decide (x5_1 < (a0.size : Int)) = true := decide_eq_true c2
        clear c2
        by_cases c3 : 0 ≤ x5_1
        · rw [if_pos c3] at H
          have c3b0 : decide (0 ≤ x5_1) = true := decide_eq_true c3
          clear c3
          have H' := Aside0.mk H
          clear H
          have p4 : 0 ≤ (x5_1 : Int) := of_decide_eq_true (by first | (with_reducible assumption) | assumption)
          have q4 : x5_1 < (a0.size : Int) := of_decide_eq_true (by first | (with_reducible assumption) | assumption)
          have hx4 := bt_at a0 x5_1
          replace p4 := eq_true p4
          replace q4 := eq_true q4
          go_wp2
          go_roundg k1
          case measure => have := HK1.out; omega
          case rel => exact ⟨(Int.tmod (wrap64 (x3_1 + (wrap64 (bt a0 x5_1)))) 65521), (Int.tmod (wrap64 (x4_1 + (Int.tmod (wrap64 (x3_1 + (wrap64 (bt a0 x5_1)))) 65521))) 65521), (wrap64 (x5_1 + 1)), (by first | rfl | (simp; done) | (simp [*]; done)), (by first | rfl | (simp; done) | (simp [*]; done)), (by first | rfl | (simp; done) | (simp [*]; done)), H', ⟨by have := HK1.out; omega⟩, by repeat (first | exact Drawn0.refl _ | apply Drawn0.step)⟩
        · rw [if_neg c3] at H
          exact absurd H (by simp)
      · rw [if_neg c2] at H
        have c2b0 : decide (x5_1 < (a0.size : Int)) = false := decide_eq_false c2
        clear c2
        obtain rfl := Option.some.inj H
        go_wp2
        go_ret
        exact ⟨by first | rfl | (simp; done) | (simp [*]; done), by repeat (first | exact Drawn0.refl _ | apply Drawn0.step)⟩

/-! ### stanchionref02_Join: function 18 -/
def stanchionref02_Join.f (a0 : Int) (a1 : Int) (a2 : Int) : Option (Int × Int) := if a2 < 0 then (some (0, 1)) else (if (wrap64 (Int.tmod a0 65536)) > 65520 then (some (0, 1)) else (if ((Int.tdiv a0 65536) % 4294967296) > 65520 then (some (0, 1)) else (if (wrap64 (Int.tmod a1 65536)) > 65520 then (some (0, 1)) else (if ((Int.tdiv a1 65536) % 4294967296) > 65520 then (some (0, 1)) else (some ((wrap64 ((wrap64 (65536 * (Int.tmod (wrap64 ((((Int.tdiv a0 65536) % 4294967296) + ((Int.tdiv a1 65536) % 4294967296)) + (wrap64 ((Int.tmod a2 65521) * (Int.tmod (wrap64 ((wrap64 (Int.tmod a0 65536)) + 65520)) 65521))))) 65521))) + (Int.tmod (wrap64 ((wrap64 ((wrap64 (Int.tmod a0 65536)) + (wrap64 (Int.tmod a1 65536)))) + 65520)) 65521))) % 4294967296, 0))))))
set_option maxHeartbeats 8000000 in
set_option maxRecDepth 100000 in
theorem stanchionref02_Join.calls (a0 : Int) (a1 : Int) (a2 : Int) (r1 : Int) (r2 : Int) (w : World) (h : stanchionref02_Join.f a0 a1 a2 = some (r1, r2)) :
    Calls Try.prog 18 #[.int .u32 a0, .int .u32 a1, .int .i64 a2] w fun e w' => e = .returned (.tuple #[.int .u32 r1, .int .i64 r2]) ∧ Drawn0 w w' := by
  have H : (if a2 < 0 then (some (0, 1)) else (if (wrap64 (Int.tmod a0 65536)) > 65520 then (some (0, 1)) else (if ((Int.tdiv a0 65536) % 4294967296) > 65520 then (some (0, 1)) else (if (wrap64 (Int.tmod a1 65536)) > 65520 then (some (0, 1)) else (if ((Int.tdiv a1 65536) % 4294967296) > 65520 then (some (0, 1)) else (some ((wrap64 ((wrap64 (65536 * (Int.tmod (wrap64 ((((Int.tdiv a0 65536) % 4294967296) + ((Int.tdiv a1 65536) % 4294967296)) + (wrap64 ((Int.tmod a2 65521) * (Int.tmod (wrap64 ((wrap64 (Int.tmod a0 65536)) + 65520)) 65521))))) 65521))) + (Int.tmod (wrap64 ((wrap64 ((wrap64 (Int.tmod a0 65536)) + (wrap64 (Int.tmod a1 65536)))) + 65520)) 65521))) % 4294967296, 0))))))) = some (r1, r2) := h
  clear h
  by_cases c4 : a2 < 0
  · rw [if_pos c4] at H
    have c4b0 : decide (a2 < 0) = true := decide_eq_true c4
    clear c4
    simp only [Option.some.injEq, Prod.mk.injEq] at H
    obtain ⟨rfl, rfl⟩ := H
    go_enter Try.func18, Try.ntmps18
    go_wp2
    go_ret2
    exact ⟨by first | rfl | (simp; done) | (simp [*]; done), by repeat (first | exact Drawn0.refl _ | apply Drawn0.step)⟩
  · rw [if_neg c4] at H
    have c4b0 : decide (a2 < 0) = false := decide_eq_false c4
    clear c4
    by_cases c5 : (wrap64 (Int.tmod a0 65536)) > 65520
    · rw [if_pos c5] at H
      have c5b0 : decide (65520 < (wrap64 (Int.tmod a0 65536))) = true := decide_eq_true c5
      clear c5
      simp only [Option.some.injEq, Prod.mk.injEq] at H
      obtain ⟨rfl, rfl⟩ := H
      go_enter Try.func18, Try.ntmps18
      go_wp2
      go_ret2
      exact ⟨by first | rfl | (simp; done) | (simp [*]; done), by repeat (first | exact Drawn0.refl _ | apply Drawn0.step)⟩
    · rw [if_neg c5] at H
      have c5b0 : decide (65520 < (wrap64 (Int.tmod a0 65536))) = false := decide_eq_false c5
      clear c5
      by_cases c6 : ((Int.tdiv a0 65536) % 4294967296) > 65520
      · rw [if_pos c6] at H
        have c6b0 : decide (65520 < ((Int.tdiv a0 65536) % 4294967296)) = true := decide_eq_true c6
        clear c6
        simp only [Option.some.injEq, Prod.mk.injEq] at H
        obtain ⟨rfl, rfl⟩ := H
        go_enter Try.func18, Try.ntmps18
        go_wp2
        go_ret2
        exact ⟨by first | rfl | (simp; done) | (simp [*]; done), by repeat (first | exact Drawn0.refl _ | apply Drawn0.step)⟩
      · rw [if_neg c6] at H
        have c6b0 : decide (65520 < ((Int.tdiv a0 65536) % 4294967296)) = false := decide_eq_false c6
        clear c6
        by_cases c7 : (wrap64 (Int.tmod a1 65536)) > 65520
        · rw [if_pos c7] at H
          have c7b0 : decide (65520 < (wrap64 (Int.tmod a1 65536))) = true := decide_eq_true c7
          clear c7
          simp only [Option.some.injEq, Prod.mk.injEq] at H
          obtain ⟨rfl, rfl⟩ := H
          go_enter Try.func18, Try.ntmps18
          go_wp2
          go_ret2
          exact ⟨by first | rfl | (simp; done) | (simp [*]; done), by repeat (first | exact Drawn0.refl _ | apply Drawn0.step)⟩
        · rw [if_neg c7] at H
          have c7b0 : decide (65520 < (wrap64 (Int.tmod a1 65536))) = false := decide_eq_false c7
          clear c7
          by_cases c8 : ((Int.tdiv a1 65536) % 4294967296) > 65520
          · rw [if_pos c8] at H
            have c8b0 : decide (65520 < ((Int.tdiv a1 65536) % 4294967296)) = true := decide_eq_true c8
            clear c8
            simp only [Option.some.injEq, Prod.mk.injEq] at H
            obtain ⟨rfl, rfl⟩ := H
            go_enter Try.func18, Try.ntmps18
            go_wp2
            go_ret2
            exact ⟨by first | rfl | (simp; done) | (simp [*]; done), by repeat (first | exact Drawn0.refl _ | apply Drawn0.step)⟩
          · rw [if_neg c8] at H
            have c8b0 : decide (65520 < ((Int.tdiv a1 65536) % 4294967296)) = false := decide_eq_false c8
            clear c8
            simp only [Option.some.injEq, Prod.mk.injEq] at H
            obtain ⟨rfl, rfl⟩ := H
            go_enter Try.func18, Try.ntmps18
            go_wp2
            go_ret2
            exact ⟨by first | rfl | (simp; done) | (simp [*]; done), by repeat (first | exact Drawn0.refl _ | apply Drawn0.step)⟩

end Go.Proofs.Ytjdjeiidojgidaa.QT
