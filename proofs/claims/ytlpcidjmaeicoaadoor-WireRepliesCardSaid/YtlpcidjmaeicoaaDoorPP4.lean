/- Part of the proof of the statement WireReplies, as a card; what is proved, and on which condition, stands at the head of YtlpcidjmaeicoaaDoorPP6 (texts QWix8, QWix12, QWix13, RefRep, NextR, Was, Enc) -/
import Derived.Handy
import Derived.Test.YtlpcidjmaeicoaaDoorPP3
namespace Go.Proofs.YtlpcidjmaeicoaaDoor.QWi
open Go.RowKit Go.Proofs.YtlpcidjmaeicoaaDoorW.PrintWords Go.Proofs.YtlpcidjmaeicoaaDoorW.PrintLast Go.Proofs.YtlpcidjmaeicoaaDoorW.PrintMore
attribute [local go_sem] max2_int min2_int max_two min_two max_three min_three max_four min_four
set_option linter.unusedVariables false
set_option linter.unusedSimpArgs false
attribute [local go_sem high] eqA74
def api_Pair_37.l0 : Nat → List (S74) → List (S74) → Int → Int → Option (Bool)
  | 0, _, _, _, _ => none
  | k + 1, x0, x1, x12, x13 => if x13 < x12 then (if 0 ≤ x13 then (if x13 < (x0.length : Int) then (if x13 < (x1.length : Int) then (if (!((((rd_T74 x0 x13).f0).toList) == (((rd_T74 x1 x13).f0).toList)) || (!((((rd_T74 x0 x13).f1).toList) == (((rd_T74 x1 x13).f1).toList)))) = true then (some false) else (api_Pair_37.l0 k x0 x1 x12 (wrap64 (x13 + 1)))) else (none)) else (none)) else (none)) else (some true)
def api_Pair_37.f (k : Nat) (l0 : List (S74)) (l1 : List (S74)) : Option (Bool) := if (l0.length : Int) = (l1.length : Int) then (api_Pair_37.l0 k l0 l1 (l0.length : Int) 0) else (some false)
set_option maxHeartbeats 8000000 in
set_option maxRecDepth 100000 in
theorem api_Pair_37.calls (k : Nat) (A0 : Option Addr) (c0 : Nat) (l0 : List (S74)) (A1 : Option Addr) (c1 : Nat) (l1 : List (S74)) (r : Bool) (w : World) (hr0 : Kd.C k74 w A0 l0.length l0) (hc0 : l0.length ≤ c0) (hr1 : Kd.C k74 w A1 l1.length l1) (hc1 : l1.length ≤ c1) (h : api_Pair_37.f k l0 l1 = some r) :
    Calls Tryd.prog 37 #[.slice A0 l0.length c0, .slice A1 l1.length c1] w fun e w' => e = .returned (.bool r) ∧ Drawn0 w w' := by
  have hu74 := Tryd.underlying74
  have HR0 := Aside0.mk hr0
  have HC0 := Aside0.mk hc0
  clear hr0 hc0
  have HR1 := Aside0.mk hr1
  have HC1 := Aside0.mk hc1
  clear hr1 hc1
  have H : (if (l0.length : Int) = (l1.length : Int) then (api_Pair_37.l0 k l0 l1 (l0.length : Int) 0) else (some false)) = some r := h
  clear h
  by_cases c3 : (l0.length : Int) = (l1.length : Int)
  · rw [if_pos c3] at H
    have c3b0 : ((l0.length : Int) == (l1.length : Int)) = true := beq_iff_eq.mpr c3
    have c3b1 : ((l0.length : Int) != (l1.length : Int)) = false := bne_eq_false_iff_eq.mpr c3
    have c3b2 : (l0.length == l1.length) = true := by first | simpa using c3 | (simp at c3 ⊢; omega)
    clear c3
    have H' := Aside0.mk H
    clear H
    go_enter Tryd.func37, Tryd.ntmps37
    go_wp2
    repeat (go_quiet (fail); try go_wp2)
    go_loopg [13] k (fun kq v13 w' => ∃ (x13_1 : Int), v13 = .int .i64 x13_1 ∧ Aside0 (api_Pair_37.l0 kq l0 l1 (l0.length : Int) x13_1 = some r) ∧ Aside0 (kq ≤ k) ∧ Drawn0 w w')
    case atStart => exact ⟨(0), (by first | rfl | (simp; done) | (simp [*]; done)), H', ⟨Nat.le_refl _⟩, by repeat (first | exact Drawn0.refl _ | apply Drawn0.step)⟩
    case round =>
      clear H'
      try clear c1
      try clear p2
      try clear c3
      try clear c3b0
      try clear c3b1
      try clear c3b2
      obtain ⟨x13_1, rfl, HA, HK1, ⟨m1, rfl⟩⟩ := hrel
      cases gk with
      | zero => exact absurd HA.out (by simp [api_Pair_37.l0])
      | succ k1 =>
        have H := HA.out
        clear HA
        simp only [api_Pair_37.l0] at H
        by_cases c4 : x13_1 < (l0.length : Int)
        · rw [if_pos c4] at H
          have c4b0 : decide (x13_1 < (l0.length : Int)) = true := decide_eq_true c4
          clear c4
          by_cases c5 : 0 ≤ x13_1
          · rw [if_pos c5] at H
            have c5b0 : decide (0 ≤ x13_1) = true := decide_eq_true c5
            clear c5
            by_cases c6 : x13_1 < (l0.length : Int)
            · rw [if_pos c6] at H
              have c6b0 : decide (x13_1 < (l0.length : Int)) = true := decide_eq_true c6
              clear c6
              by_cases c7 : x13_1 < (l1.length : Int)
              · rw [if_pos c7] at H
                have c7b0 : decide (x13_1 < (l1.length : Int)) = true := decide_eq_true c7
                clear c7
                by_cases c8 : (!((((rd_T74 l0 x13_1).f0).toList) == (((rd_T74 l1 x13_1).f0).toList)) || (!((((rd_T74 l0 x13_1).f1).toList) == (((rd_T74 l1 x13_1).f1).toList)))) = true
                · rw [if_pos c8] at H
                  have c8b0 : (!((((rd_T74 l0 x13_1).f0).toList) == (((rd_T74 l1 x13_1).f0).toList)) || (!((((rd_T74 l0 x13_1).f1).toList) == (((rd_T74 l1 x13_1).f1).toList)))) = true := c8
                  clear c8
                  obtain rfl := Option.some.inj H
                  have p155 : 0 ≤ (x13_1 : Int) := of_decide_eq_true (by first | (with_reducible assumption) | assumption)
                  have q155 : x13_1 < (l0.length : Int) := of_decide_eq_true (by first | (with_reducible assumption) | assumption)
                  obtain ⟨ad155, e155, hx155_0, hx155_1⟩ := at_T74 HR0.out x13_1 p155 q155
                  cases e155
                  replace p155 := eq_true p155
                  replace q155 := eq_true q155
                  have p156 : 0 ≤ (x13_1 : Int) := of_decide_eq_true (by first | (with_reducible assumption) | assumption)
                  have q156 : x13_1 < (l1.length : Int) := of_decide_eq_true (by first | (with_reducible assumption) | assumption)
                  obtain ⟨ad156, e156, hx156_0, hx156_1⟩ := at_T74 HR1.out x13_1 p156 q156
                  cases e156
                  replace p156 := eq_true p156
                  replace q156 := eq_true q156
                  go_wp2
                  repeat (go_quiet (fail); try go_wp2)
                  go_ret
                  exact ⟨by first | rfl | (simp; done) | (simp [*]; done), by repeat (first | exact Drawn0.refl _ | apply Drawn0.step)⟩
                · rw [if_neg c8] at H
                  have c8b0 : (!((((rd_T74 l0 x13_1).f0).toList) == (((rd_T74 l1 x13_1).f0).toList)) || (!((((rd_T74 l0 x13_1).f1).toList) == (((rd_T74 l1 x13_1).f1).toList)))) = false := by simpa using c8
                  clear c8
                  have H' := Aside0.mk H
                  clear H
                  have p155 : 0 ≤ (x13_1 : Int) := of_decide_eq_true (by first | (with_reducible assumption) | assumption)
                  have q155 : x13_1 < (l0.length : Int) := of_decide_eq_true (by first | (with_reducible assumption) | assumption)
                  obtain ⟨ad155, e155, hx155_0, hx155_1⟩ := at_T74 HR0.out x13_1 p155 q155
                  cases e155
                  replace p155 := eq_true p155
                  replace q155 := eq_true q155
                  have p156 : 0 ≤ (x13_1 : Int) := of_decide_eq_true (by first | (with_reducible assumption) | assumption)
                  have q156 : x13_1 < (l1.length : Int) := of_decide_eq_true (by first | (with_reducible assumption) | assumption)
                  obtain ⟨ad156, e156, hx156_0, hx156_1⟩ := at_T74 HR1.out x13_1 p156 q156
                  cases e156
                  replace p156 := eq_true p156
                  replace q156 := eq_true q156
                  go_wp2
                  repeat (go_quiet (fail); try go_wp2)
                  go_roundg k1
                  case measure => have := HK1.out; omega
                  case rel => exact ⟨(wrap64 (x13_1 + 1)), (by first | rfl | (simp; done) | (simp [*]; done)), H', ⟨by have := HK1.out; omega⟩, by repeat (first | exact Drawn0.refl _ | apply Drawn0.step)⟩
              · rw [if_neg c7] at H
                exact absurd H (by simp)
            · rw [if_neg c6] at H
              exact absurd H (by simp)
          · rw [if_neg c5] at H
            exact absurd H (by simp)
        · rw [if_neg c4] at H
          have c4b0 : decide (x13_1 < (l0.length : Int)) = false := decide_eq_false c4
          clear c4
          obtain rfl := Option.some.inj H
          go_wp2
          repeat (go_quiet (fail); try go_wp2)
          go_ret
          exact ⟨by first | rfl | (simp; done) | (simp [*]; done), by repeat (first | exact Drawn0.refl _ | apply Drawn0.step)⟩
  · rw [if_neg c3] at H
    have c3b0 : ((l0.length : Int) == (l1.length : Int)) = false := beq_eq_false_iff_ne.mpr c3
    have c3b1 : ((l0.length : Int) != (l1.length : Int)) = true := bne_iff_ne.mpr c3
    have c3b2 : (l0.length == l1.length) = false := by first | simpa using c3 | (simp at c3 ⊢; omega)
    obtain rfl := Option.some.inj H
    go_enter Tryd.func37, Tryd.ntmps37
    go_wp2
    repeat (go_quiet (fail); try go_wp2)
    go_ret
    exact ⟨by first | rfl | (simp; done) | (simp [*]; done), by repeat (first | exact Drawn0.refl _ | apply Drawn0.step)⟩
def wire_Same.f (k : Nat) (a0_0 : Int) (a0_1 : Int) (a0_2 : Int) (a0_3 : Int) (a0_4 : ByteArray) (a0_5 : Bool) (l0_6 : List (S74)) (a0_7 : Bool) (a1_0 : Int) (a1_1 : Int) (a1_2 : Int) (a1_3 : Int) (a1_4 : ByteArray) (a1_5 : Bool) (l1_6 : List (S74)) (a1_7 : Bool) : Option (Bool) := if a0_0 = a1_0 then (if a0_1 = a1_1 then (if a0_2 = a1_2 then (if a0_3 = a1_3 then (if a0_4.toList = a1_4.toList then (if (a0_5 == a1_5) = true then ((api_Pair_37.f k l0_6 l1_6).bind fun t159 => (if t159 = true then (some (a0_7 == a1_7)) else (some false))) else (some false)) else (some false)) else (some false)) else (some false)) else (some false)) else (some false)
set_option maxHeartbeats 8000000 in
set_option maxRecDepth 100000 in
theorem wire_Same.calls (k : Nat) (a0_0 : Int) (a0_1 : Int) (a0_2 : Int) (a0_3 : Int) (a0_4 : ByteArray) (a0_5 : Bool) (A0_6 : Option Addr) (c0_6 : Nat) (l0_6 : List (S74)) (a0_7 : Bool) (a1_0 : Int) (a1_1 : Int) (a1_2 : Int) (a1_3 : Int) (a1_4 : ByteArray) (a1_5 : Bool) (A1_6 : Option Addr) (c1_6 : Nat) (l1_6 : List (S74)) (a1_7 : Bool) (r : Bool) (w : World) (hr0_6 : Kd.C k74 w A0_6 l0_6.length l0_6) (hc0_6 : l0_6.length ≤ c0_6) (hr1_6 : Kd.C k74 w A1_6 l1_6.length l1_6) (hc1_6 : l1_6.length ≤ c1_6) (h : wire_Same.f k a0_0 a0_1 a0_2 a0_3 a0_4 a0_5 l0_6 a0_7 a1_0 a1_1 a1_2 a1_3 a1_4 a1_5 l1_6 a1_7 = some r) :
    Calls Tryd.prog 20 #[.agg #[.int .i64 a0_0, .int .i64 a0_1, .int .i64 a0_2, .int .i64 a0_3, .string a0_4, .bool a0_5, .slice A0_6 l0_6.length c0_6, .bool a0_7], .agg #[.int .i64 a1_0, .int .i64 a1_1, .int .i64 a1_2, .int .i64 a1_3, .string a1_4, .bool a1_5, .slice A1_6 l1_6.length c1_6, .bool a1_7]] w fun e w' => e = .returned (.bool r) ∧ Below w.heap.size w w' := by
  have hu41 := Tryd.underlying41
  have HR0_6 := Aside0.mk hr0_6
  have HC0_6 := Aside0.mk hc0_6
  clear hr0_6 hc0_6
  have HR1_6 := Aside0.mk hr1_6
  have HC1_6 := Aside0.mk hc1_6
  clear hr1_6 hc1_6
  have HB := Aside0.mk (Below.refl w.heap.size w)
  have H : (if a0_0 = a1_0 then (if a0_1 = a1_1 then (if a0_2 = a1_2 then (if a0_3 = a1_3 then (if a0_4.toList = a1_4.toList then (if (a0_5 == a1_5) = true then ((api_Pair_37.f k l0_6 l1_6).bind fun t159 => (if t159 = true then (some (a0_7 == a1_7)) else (some false))) else (some false)) else (some false)) else (some false)) else (some false)) else (some false)) else (some false)) = some r := h
  clear h
  by_cases c3 : a0_0 = a1_0
  · rw [if_pos c3] at H
    have c3b0 : (a0_0 == a1_0) = true := beq_iff_eq.mpr c3
    have c3b1 : (a0_0 != a1_0) = false := bne_eq_false_iff_eq.mpr c3
    clear c3
    by_cases c4 : a0_1 = a1_1
    · rw [if_pos c4] at H
      have c4b0 : (a0_1 == a1_1) = true := beq_iff_eq.mpr c4
      have c4b1 : (a0_1 != a1_1) = false := bne_eq_false_iff_eq.mpr c4
      clear c4
      by_cases c5 : a0_2 = a1_2
      · rw [if_pos c5] at H
        have c5b0 : (a0_2 == a1_2) = true := beq_iff_eq.mpr c5
        have c5b1 : (a0_2 != a1_2) = false := bne_eq_false_iff_eq.mpr c5
        clear c5
        by_cases c6 : a0_3 = a1_3
        · rw [if_pos c6] at H
          have c6b0 : (a0_3 == a1_3) = true := beq_iff_eq.mpr c6
          have c6b1 : (a0_3 != a1_3) = false := bne_eq_false_iff_eq.mpr c6
          clear c6
          by_cases c7 : a0_4.toList = a1_4.toList
          · rw [if_pos c7] at H
            have c7b0 : (a0_4.toList == a1_4.toList) = true := beq_iff_eq.mpr c7
            have c7b1 : (a0_4.toList != a1_4.toList) = false := bne_eq_false_iff_eq.mpr c7
            clear c7
            by_cases c8 : (a0_5 == a1_5) = true
            · rw [if_pos c8] at H
              have c8b0 : (a0_5 == a1_5) = true := c8
              (try (have c8b1 : decide (a0_5 = a1_5) = true := by simpa using c8))
              (try (have c8b2 : (a0_5 == a1_5) = true := by simpa using c8))
              clear c8
              replace H := Option.bind_eq_some_iff.mp H
              obtain ⟨t159, A90, H⟩ := H
              replace H : (if t159 = true then (some (a0_7 == a1_7)) else (some false)) = some r := H
              have A9 := Aside0.mk A90
              clear A90
              by_cases c10 : t159 = true
              · subst c10
                have H1 : (some (a0_7 == a1_7)) = some r := by rw [if_pos rfl] at H; exact H
                clear H
                have H := H1
                clear H1
                obtain rfl := Option.some.inj H
                go_enter Tryd.func20, Tryd.ntmps20
                go_wp2_with (first | ((with_reducible refine gate_dst (N := 2) rfl ?_); refine box_event ?hg (N := 2) ?hd (cs := #[.int .i64 a0_0, .int .i64 a0_1, .int .i64 a0_2, .int .i64 a0_3, .string a0_4, .bool a0_5, .slice A0_6 l0_6.length c0_6, .bool a0_7]) (t := 41) ?hr ?_; (case hd => rfl); (case hg => rfl); (case hr => first | (go_simp; done) | (go_simp; rfl)); intro gb157 hg w11 hbox hb; have n0_ := Aside0.mk (below_step (by repeat (first | (with_reducible first | exact HB.out | apply below_alloc | apply pw_below_drewN | apply below_drew1) | exact HB.out)) hb); have n1_ := Aside0.mk (hbox); have n2_ := Aside0.mk ((by rw [hg]; exact (below_size (by repeat (first | (with_reducible first | exact HB.out | apply below_alloc | apply pw_below_drewN | apply below_drew1) | exact HB.out))) : w.heap.size ≤ gb157)); have n3_ := Aside0.mk ((by rw [hg]; exact (below_size (by repeat (first | (with_reducible first | exact HB.out | apply below_alloc | apply pw_below_drewN | apply below_drew1) | exact HB.out))) : w.heap.size ≤ gb157)); clear HB; have HB := n0_; have BK157 := n1_; have GW157 := n2_; have GE157 := n3_; clear n0_ n1_ n2_ n3_; clear hb hbox hg) | ((with_reducible refine gate_dst (N := 3) rfl ?_); refine box_event ?hg (N := 3) ?hd (cs := #[.int .i64 a1_0, .int .i64 a1_1, .int .i64 a1_2, .int .i64 a1_3, .string a1_4, .bool a1_5, .slice A1_6 l1_6.length c1_6, .bool a1_7]) (t := 41) ?hr ?_; (case hd => rfl); (case hg => rfl); (case hr => first | (go_simp; done) | (go_simp; rfl)); intro gb158 hg w12 hbox hb; have n0_ := Aside0.mk (blk_below (g := gb157) (o := .cells #[.int .i64 a0_0, .int .i64 a0_1, .int .i64 a0_2, .int .i64 a0_3, .string a0_4, .bool a0_5, .slice A0_6 l0_6.length c0_6, .bool a0_7] 41 (0, 0)) (by (with_reducible repeat (first | refine blk_drewN ?_ _ | refine blk_drew ?_ | refine blk_alloc ?_ _)); exact BK157.out) hb); have n1_ := Aside0.mk (below_step (by repeat (first | (with_reducible first | exact HB.out | apply below_alloc | apply pw_below_drewN | apply below_drew1 | refine below_set ?_ GE157.out) | exact HB.out)) hb); have n2_ := Aside0.mk (hbox); have n3_ := Aside0.mk ((by rw [hg]; exact (below_size (by repeat (first | (with_reducible first | exact HB.out | apply below_alloc | apply pw_below_drewN | apply below_drew1 | refine below_set ?_ GE157.out) | exact HB.out))) : w.heap.size ≤ gb158)); have n4_ := Aside0.mk ((by rw [hg]; exact (below_size (by repeat (first | (with_reducible first | exact HB.out | apply below_alloc | apply pw_below_drewN | apply below_drew1 | refine below_set ?_ GE157.out) | exact HB.out))) : w.heap.size ≤ gb158)); have n5_ := Aside0.mk ((by rw [hg]; exact Nat.ne_of_lt (blk_lt (g := gb157) (o := .cells #[.int .i64 a0_0, .int .i64 a0_1, .int .i64 a0_2, .int .i64 a0_3, .string a0_4, .bool a0_5, .slice A0_6 l0_6.length c0_6, .bool a0_7] 41 (0, 0)) (by (with_reducible repeat (first | refine blk_drewN ?_ _ | refine blk_drew ?_ | refine blk_alloc ?_ _)); exact BK157.out)) : gb157 ≠ gb158)); have n6_ := Aside0.mk ((by rw [hg]; exact Nat.ne_of_gt (blk_lt (g := gb157) (o := .cells #[.int .i64 a0_0, .int .i64 a0_1, .int .i64 a0_2, .int .i64 a0_3, .string a0_4, .bool a0_5, .slice A0_6 l0_6.length c0_6, .bool a0_7] 41 (0, 0)) (by (with_reducible repeat (first | refine blk_drewN ?_ _ | refine blk_drew ?_ | refine blk_alloc ?_ _)); exact BK157.out)) : gb158 ≠ gb157)); clear BK157; clear HB; have BK157 := n0_; have HB := n1_; have BK158 := n2_; have GW158 := n3_; have GE158 := n4_; have NB157_158 := n5_; have NB158_157 := n6_; clear n0_ n1_ n2_ n3_ n4_ n5_ n6_; clear hb hbox hg; have hnb13 := NB157_158.out; have hnc13 := NB158_157.out; have hcz14_0 : w12.cell? ⟨gb157, 0, none⟩ = some (.int .i64 a0_0) := (blk_cell BK157.out 0).trans rfl; have hcz14_1 : w12.cell? ⟨gb157, 1, none⟩ = some (.int .i64 a0_1) := (blk_cell BK157.out 1).trans rfl; have hcz14_2 : w12.cell? ⟨gb157, 2, none⟩ = some (.int .i64 a0_2) := (blk_cell BK157.out 2).trans rfl; have hcz14_3 : w12.cell? ⟨gb157, 3, none⟩ = some (.int .i64 a0_3) := (blk_cell BK157.out 3).trans rfl; have hcz14_4 : w12.cell? ⟨gb157, 4, none⟩ = some (.string a0_4) := (blk_cell BK157.out 4).trans rfl; have hcz14_5 : w12.cell? ⟨gb157, 5, none⟩ = some (.bool a0_5) := (blk_cell BK157.out 5).trans rfl; have hcz14_6 : w12.cell? ⟨gb157, 6, none⟩ = some (.slice A0_6 l0_6.length c0_6) := (blk_cell BK157.out 6).trans rfl; have hcz14_7 : w12.cell? ⟨gb157, 7, none⟩ = some (.bool a0_7) := (blk_cell BK157.out 7).trans rfl; have hfz14_0 := blk_frozen BK157.out 0; have hfz14_1 := blk_frozen BK157.out 1; have hfz14_2 := blk_frozen BK157.out 2; have hfz14_3 := blk_frozen BK157.out 3; have hfz14_4 := blk_frozen BK157.out 4; have hfz14_5 := blk_frozen BK157.out 5; have hfz14_6 := blk_frozen BK157.out 6; have hfz14_7 := blk_frozen BK157.out 7; have hcz15_0 : w12.cell? ⟨gb158, 0, none⟩ = some (.int .i64 a1_0) := (blk_cell BK158.out 0).trans rfl; have hcz15_1 : w12.cell? ⟨gb158, 1, none⟩ = some (.int .i64 a1_1) := (blk_cell BK158.out 1).trans rfl; have hcz15_2 : w12.cell? ⟨gb158, 2, none⟩ = some (.int .i64 a1_2) := (blk_cell BK158.out 2).trans rfl; have hcz15_3 : w12.cell? ⟨gb158, 3, none⟩ = some (.int .i64 a1_3) := (blk_cell BK158.out 3).trans rfl; have hcz15_4 : w12.cell? ⟨gb158, 4, none⟩ = some (.string a1_4) := (blk_cell BK158.out 4).trans rfl; have hcz15_5 : w12.cell? ⟨gb158, 5, none⟩ = some (.bool a1_5) := (blk_cell BK158.out 5).trans rfl; have hcz15_6 : w12.cell? ⟨gb158, 6, none⟩ = some (.slice A1_6 l1_6.length c1_6) := (blk_cell BK158.out 6).trans rfl; have hcz15_7 : w12.cell? ⟨gb158, 7, none⟩ = some (.bool a1_7) := (blk_cell BK158.out 7).trans rfl; have hfz15_0 := blk_frozen BK158.out 0; have hfz15_1 := blk_frozen BK158.out 1; have hfz15_2 := blk_frozen BK158.out 2; have hfz15_3 := blk_frozen BK158.out 3; have hfz15_4 := blk_frozen BK158.out 4; have hfz15_5 := blk_frozen BK158.out 5; have hfz15_6 := blk_frozen BK158.out 6; have hfz15_7 := blk_frozen BK158.out 7) | (go_at_call 37; (with_reducible refine (api_Pair_37.calls k _ _ l0_6 _ _ l1_6 true _ ?side1 ?side2 ?side3 ?side4 A9.out).mono ?_); (case side1 => repeat (first | exact (Kd.C_below HR0_6.out HB.out) | (with_reducible refine Kd.C_alloc ?_ _) | (with_reducible refine Kd.C_drewN ?_ _) | (with_reducible refine Kd.C_drew ?_))); (case side2 => exact HC0_6.out); (case side3 => repeat (first | exact (Kd.C_below HR1_6.out HB.out) | (with_reducible refine Kd.C_alloc ?_ _) | (with_reducible refine Kd.C_drewN ?_ _) | (with_reducible refine Kd.C_drew ?_))); (case side4 => exact HC1_6.out); rintro e w' ⟨rfl, ⟨nd, rfl⟩⟩))
                go_ret
                exact ⟨by first | rfl | (simp [errW_none, errW_some] <;> rfl) | (simp [*, errW_none, errW_some] <;> rfl), by repeat (first | (with_reducible first | exact HB.out | apply below_alloc | apply pw_below_drewN | apply below_drew1 | refine below_set ?_ GE157.out | refine below_set ?_ GE158.out) | exact HB.out)⟩
              · replace c10 := Bool.eq_false_iff.mpr c10
                subst c10
                have H1 : (some false) = some r := by rw [if_neg (show ¬ (false = true) by decide)] at H; exact H
                clear H
                have H := H1
                clear H1
                obtain rfl := Option.some.inj H
                go_enter Tryd.func20, Tryd.ntmps20
                go_wp2_with (first | ((with_reducible refine gate_dst (N := 2) rfl ?_); refine box_event ?hg (N := 2) ?hd (cs := #[.int .i64 a0_0, .int .i64 a0_1, .int .i64 a0_2, .int .i64 a0_3, .string a0_4, .bool a0_5, .slice A0_6 l0_6.length c0_6, .bool a0_7]) (t := 41) ?hr ?_; (case hd => rfl); (case hg => rfl); (case hr => first | (go_simp; done) | (go_simp; rfl)); intro gb157 hg w16 hbox hb; have n0_ := Aside0.mk (below_step (by repeat (first | (with_reducible first | exact HB.out | apply below_alloc | apply pw_below_drewN | apply below_drew1) | exact HB.out)) hb); have n1_ := Aside0.mk (hbox); have n2_ := Aside0.mk ((by rw [hg]; exact (below_size (by repeat (first | (with_reducible first | exact HB.out | apply below_alloc | apply pw_below_drewN | apply below_drew1) | exact HB.out))) : w.heap.size ≤ gb157)); have n3_ := Aside0.mk ((by rw [hg]; exact (below_size (by repeat (first | (with_reducible first | exact HB.out | apply below_alloc | apply pw_below_drewN | apply below_drew1) | exact HB.out))) : w.heap.size ≤ gb157)); clear HB; have HB := n0_; have BK157 := n1_; have GW157 := n2_; have GE157 := n3_; clear n0_ n1_ n2_ n3_; clear hb hbox hg) | ((with_reducible refine gate_dst (N := 3) rfl ?_); refine box_event ?hg (N := 3) ?hd (cs := #[.int .i64 a1_0, .int .i64 a1_1, .int .i64 a1_2, .int .i64 a1_3, .string a1_4, .bool a1_5, .slice A1_6 l1_6.length c1_6, .bool a1_7]) (t := 41) ?hr ?_; (case hd => rfl); (case hg => rfl); (case hr => first | (go_simp; done) | (go_simp; rfl)); intro gb158 hg w17 hbox hb; have n0_ := Aside0.mk (blk_below (g := gb157) (o := .cells #[.int .i64 a0_0, .int .i64 a0_1, .int .i64 a0_2, .int .i64 a0_3, .string a0_4, .bool a0_5, .slice A0_6 l0_6.length c0_6, .bool a0_7] 41 (0, 0)) (by (with_reducible repeat (first | refine blk_drewN ?_ _ | refine blk_drew ?_ | refine blk_alloc ?_ _)); exact BK157.out) hb); have n1_ := Aside0.mk (below_step (by repeat (first | (with_reducible first | exact HB.out | apply below_alloc | apply pw_below_drewN | apply below_drew1 | refine below_set ?_ GE157.out) | exact HB.out)) hb); have n2_ := Aside0.mk (hbox); have n3_ := Aside0.mk ((by rw [hg]; exact (below_size (by repeat (first | (with_reducible first | exact HB.out | apply below_alloc | apply pw_below_drewN | apply below_drew1 | refine below_set ?_ GE157.out) | exact HB.out))) : w.heap.size ≤ gb158)); have n4_ := Aside0.mk ((by rw [hg]; exact (below_size (by repeat (first | (with_reducible first | exact HB.out | apply below_alloc | apply pw_below_drewN | apply below_drew1 | refine below_set ?_ GE157.out) | exact HB.out))) : w.heap.size ≤ gb158)); have n5_ := Aside0.mk ((by rw [hg]; exact Nat.ne_of_lt (blk_lt (g := gb157) (o := .cells #[.int .i64 a0_0, .int .i64 a0_1, .int .i64 a0_2, .int .i64 a0_3, .string a0_4, .bool a0_5, .slice A0_6 l0_6.length c0_6, .bool a0_7] 41 (0, 0)) (by (with_reducible repeat (first | refine blk_drewN ?_ _ | refine blk_drew ?_ | refine blk_alloc ?_ _)); exact BK157.out)) : gb157 ≠ gb158)); have n6_ := Aside0.mk ((by rw [hg]; exact Nat.ne_of_gt (blk_lt (g := gb157) (o := .cells #[.int .i64 a0_0, .int .i64 a0_1, .int .i64 a0_2, .int .i64 a0_3, .string a0_4, .bool a0_5, .slice A0_6 l0_6.length c0_6, .bool a0_7] 41 (0, 0)) (by (with_reducible repeat (first | refine blk_drewN ?_ _ | refine blk_drew ?_ | refine blk_alloc ?_ _)); exact BK157.out)) : gb158 ≠ gb157)); clear BK157; clear HB; have BK157 := n0_; have HB := n1_; have BK158 := n2_; have GW158 := n3_; have GE158 := n4_; have NB157_158 := n5_; have NB158_157 := n6_; clear n0_ n1_ n2_ n3_ n4_ n5_ n6_; clear hb hbox hg; have hnb18 := NB157_158.out; have hnc18 := NB158_157.out; have hcz19_0 : w17.cell? ⟨gb157, 0, none⟩ = some (.int .i64 a0_0) := (blk_cell BK157.out 0).trans rfl; have hcz19_1 : w17.cell? ⟨gb157, 1, none⟩ = some (.int .i64 a0_1) := (blk_cell BK157.out 1).trans rfl; have hcz19_2 : w17.cell? ⟨gb157, 2, none⟩ = some (.int .i64 a0_2) := (blk_cell BK157.out 2).trans rfl; have hcz19_3 : w17.cell? ⟨gb157, 3, none⟩ = some (.int .i64 a0_3) := (blk_cell BK157.out 3).trans rfl; have hcz19_4 : w17.cell? ⟨gb157, 4, none⟩ = some (.string a0_4) := (blk_cell BK157.out 4).trans rfl; have hcz19_5 : w17.cell? ⟨gb157, 5, none⟩ = some (.bool a0_5) := (blk_cell BK157.out 5).trans rfl; have hcz19_6 : w17.cell? ⟨gb157, 6, none⟩ = some (.slice A0_6 l0_6.length c0_6) := (blk_cell BK157.out 6).trans rfl; have hcz19_7 : w17.cell? ⟨gb157, 7, none⟩ = some (.bool a0_7) := (blk_cell BK157.out 7).trans rfl; have hfz19_0 := blk_frozen BK157.out 0; have hfz19_1 := blk_frozen BK157.out 1; have hfz19_2 := blk_frozen BK157.out 2; have hfz19_3 := blk_frozen BK157.out 3; have hfz19_4 := blk_frozen BK157.out 4; have hfz19_5 := blk_frozen BK157.out 5; have hfz19_6 := blk_frozen BK157.out 6; have hfz19_7 := blk_frozen BK157.out 7; have hcz20_0 : w17.cell? ⟨gb158, 0, none⟩ = some (.int .i64 a1_0) := (blk_cell BK158.out 0).trans rfl; have hcz20_1 : w17.cell? ⟨gb158, 1, none⟩ = some (.int .i64 a1_1) := (blk_cell BK158.out 1).trans rfl; have hcz20_2 : w17.cell? ⟨gb158, 2, none⟩ = some (.int .i64 a1_2) := (blk_cell BK158.out 2).trans rfl; have hcz20_3 : w17.cell? ⟨gb158, 3, none⟩ = some (.int .i64 a1_3) := (blk_cell BK158.out 3).trans rfl; have hcz20_4 : w17.cell? ⟨gb158, 4, none⟩ = some (.string a1_4) := (blk_cell BK158.out 4).trans rfl; have hcz20_5 : w17.cell? ⟨gb158, 5, none⟩ = some (.bool a1_5) := (blk_cell BK158.out 5).trans rfl; have hcz20_6 : w17.cell? ⟨gb158, 6, none⟩ = some (.slice A1_6 l1_6.length c1_6) := (blk_cell BK158.out 6).trans rfl; have hcz20_7 : w17.cell? ⟨gb158, 7, none⟩ = some (.bool a1_7) := (blk_cell BK158.out 7).trans rfl; have hfz20_0 := blk_frozen BK158.out 0; have hfz20_1 := blk_frozen BK158.out 1; have hfz20_2 := blk_frozen BK158.out 2; have hfz20_3 := blk_frozen BK158.out 3; have hfz20_4 := blk_frozen BK158.out 4; have hfz20_5 := blk_frozen BK158.out 5; have hfz20_6 := blk_frozen BK158.out 6; have hfz20_7 := blk_frozen BK158.out 7) | (go_at_call 37; (with_reducible refine (api_Pair_37.calls k _ _ l0_6 _ _ l1_6 false _ ?side1 ?side2 ?side3 ?side4 A9.out).mono ?_); (case side1 => repeat (first | exact (Kd.C_below HR0_6.out HB.out) | (with_reducible refine Kd.C_alloc ?_ _) | (with_reducible refine Kd.C_drewN ?_ _) | (with_reducible refine Kd.C_drew ?_))); (case side2 => exact HC0_6.out); (case side3 => repeat (first | exact (Kd.C_below HR1_6.out HB.out) | (with_reducible refine Kd.C_alloc ?_ _) | (with_reducible refine Kd.C_drewN ?_ _) | (with_reducible refine Kd.C_drew ?_))); (case side4 => exact HC1_6.out); rintro e w' ⟨rfl, ⟨nd, rfl⟩⟩))
                go_ret
                exact ⟨by first | rfl | (simp [errW_none, errW_some] <;> rfl) | (simp [*, errW_none, errW_some] <;> rfl), by repeat (first | (with_reducible first | exact HB.out | apply below_alloc | apply pw_below_drewN | apply below_drew1 | refine below_set ?_ GE157.out | refine below_set ?_ GE158.out) | exact HB.out)⟩
            · rw [if_neg c8] at H
              have c8b0 : (a0_5 == a1_5) = false := by simpa using c8
              (try (have c8b1 : decide (a0_5 = a1_5) = false := by simpa using c8))
              (try (have c8b2 : (a0_5 == a1_5) = false := by simpa using c8))
              (try (have c8b3 : ¬ (a0_5 = a1_5) := by simpa using c8))
              clear c8
              obtain rfl := Option.some.inj H
              go_enter Tryd.func20, Tryd.ntmps20
              go_wp2_with (first | ((with_reducible refine gate_dst (N := 2) rfl ?_); refine box_event ?hg (N := 2) ?hd (cs := #[.int .i64 a0_0, .int .i64 a0_1, .int .i64 a0_2, .int .i64 a0_3, .string a0_4, .bool a0_5, .slice A0_6 l0_6.length c0_6, .bool a0_7]) (t := 41) ?hr ?_; (case hd => rfl); (case hg => rfl); (case hr => first | (go_simp; done) | (go_simp; rfl)); intro gb157 hg w21 hbox hb; have n0_ := Aside0.mk (below_step (by repeat (first | (with_reducible first | exact HB.out | apply below_alloc | apply pw_below_drewN | apply below_drew1) | exact HB.out)) hb); have n1_ := Aside0.mk (hbox); have n2_ := Aside0.mk ((by rw [hg]; exact (below_size (by repeat (first | (with_reducible first | exact HB.out | apply below_alloc | apply pw_below_drewN | apply below_drew1) | exact HB.out))) : w.heap.size ≤ gb157)); have n3_ := Aside0.mk ((by rw [hg]; exact (below_size (by repeat (first | (with_reducible first | exact HB.out | apply below_alloc | apply pw_below_drewN | apply below_drew1) | exact HB.out))) : w.heap.size ≤ gb157)); clear HB; have HB := n0_; have BK157 := n1_; have GW157 := n2_; have GE157 := n3_; clear n0_ n1_ n2_ n3_; clear hb hbox hg) | ((with_reducible refine gate_dst (N := 3) rfl ?_); refine box_event ?hg (N := 3) ?hd (cs := #[.int .i64 a1_0, .int .i64 a1_1, .int .i64 a1_2, .int .i64 a1_3, .string a1_4, .bool a1_5, .slice A1_6 l1_6.length c1_6, .bool a1_7]) (t := 41) ?hr ?_; (case hd => rfl); (case hg => rfl); (case hr => first | (go_simp; done) | (go_simp; rfl)); intro gb158 hg w22 hbox hb; have n0_ := Aside0.mk (blk_below (g := gb157) (o := .cells #[.int .i64 a0_0, .int .i64 a0_1, .int .i64 a0_2, .int .i64 a0_3, .string a0_4, .bool a0_5, .slice A0_6 l0_6.length c0_6, .bool a0_7] 41 (0, 0)) (by (with_reducible repeat (first | refine blk_drewN ?_ _ | refine blk_drew ?_ | refine blk_alloc ?_ _)); exact BK157.out) hb); have n1_ := Aside0.mk (below_step (by repeat (first | (with_reducible first | exact HB.out | apply below_alloc | apply pw_below_drewN | apply below_drew1 | refine below_set ?_ GE157.out) | exact HB.out)) hb); have n2_ := Aside0.mk (hbox); have n3_ := Aside0.mk ((by rw [hg]; exact (below_size (by repeat (first | (with_reducible first | exact HB.out | apply below_alloc | apply pw_below_drewN | apply below_drew1 | refine below_set ?_ GE157.out) | exact HB.out))) : w.heap.size ≤ gb158)); have n4_ := Aside0.mk ((by rw [hg]; exact (below_size (by repeat (first | (with_reducible first | exact HB.out | apply below_alloc | apply pw_below_drewN | apply below_drew1 | refine below_set ?_ GE157.out) | exact HB.out))) : w.heap.size ≤ gb158)); have n5_ := Aside0.mk ((by rw [hg]; exact Nat.ne_of_lt (blk_lt (g := gb157) (o := .cells #[.int .i64 a0_0, .int .i64 a0_1, .int .i64 a0_2, .int .i64 a0_3, .string a0_4, .bool a0_5, .slice A0_6 l0_6.length c0_6, .bool a0_7] 41 (0, 0)) (by (with_reducible repeat (first | refine blk_drewN ?_ _ | refine blk_drew ?_ | refine blk_alloc ?_ _)); exact BK157.out)) : gb157 ≠ gb158)); have n6_ := Aside0.mk ((by rw [hg]; exact Nat.ne_of_gt (blk_lt (g := gb157) (o := .cells #[.int .i64 a0_0, .int .i64 a0_1, .int .i64 a0_2, .int .i64 a0_3, .string a0_4, .bool a0_5, .slice A0_6 l0_6.length c0_6, .bool a0_7] 41 (0, 0)) (by (with_reducible repeat (first | refine blk_drewN ?_ _ | refine blk_drew ?_ | refine blk_alloc ?_ _)); exact BK157.out)) : gb158 ≠ gb157)); clear BK157; clear HB; have BK157 := n0_; have HB := n1_; have BK158 := n2_; have GW158 := n3_; have GE158 := n4_; have NB157_158 := n5_; have NB158_157 := n6_; clear n0_ n1_ n2_ n3_ n4_ n5_ n6_; clear hb hbox hg; have hnb23 := NB157_158.out; have hnc23 := NB158_157.out; have hcz24_0 : w22.cell? ⟨gb157, 0, none⟩ = some (.int .i64 a0_0) := (blk_cell BK157.out 0).trans rfl; have hcz24_1 : w22.cell? ⟨gb157, 1, none⟩ = some (.int .i64 a0_1) := (blk_cell BK157.out 1).trans rfl; have hcz24_2 : w22.cell? ⟨gb157, 2, none⟩ = some (.int .i64 a0_2) := (blk_cell BK157.out 2).trans rfl; have hcz24_3 : w22.cell? ⟨gb157, 3, none⟩ = some (.int .i64 a0_3) := (blk_cell BK157.out 3).trans rfl; have hcz24_4 : w22.cell? ⟨gb157, 4, none⟩ = some (.string a0_4) := (blk_cell BK157.out 4).trans rfl; have hcz24_5 : w22.cell? ⟨gb157, 5, none⟩ = some (.bool a0_5) := (blk_cell BK157.out 5).trans rfl; have hcz24_6 : w22.cell? ⟨gb157, 6, none⟩ = some (.slice A0_6 l0_6.length c0_6) := (blk_cell BK157.out 6).trans rfl; have hcz24_7 : w22.cell? ⟨gb157, 7, none⟩ = some (.bool a0_7) := (blk_cell BK157.out 7).trans rfl; have hfz24_0 := blk_frozen BK157.out 0; have hfz24_1 := blk_frozen BK157.out 1; have hfz24_2 := blk_frozen BK157.out 2; have hfz24_3 := blk_frozen BK157.out 3; have hfz24_4 := blk_frozen BK157.out 4; have hfz24_5 := blk_frozen BK157.out 5; have hfz24_6 := blk_frozen BK157.out 6; have hfz24_7 := blk_frozen BK157.out 7; have hcz25_0 : w22.cell? ⟨gb158, 0, none⟩ = some (.int .i64 a1_0) := (blk_cell BK158.out 0).trans rfl; have hcz25_1 : w22.cell? ⟨gb158, 1, none⟩ = some (.int .i64 a1_1) := (blk_cell BK158.out 1).trans rfl; have hcz25_2 : w22.cell? ⟨gb158, 2, none⟩ = some (.int .i64 a1_2) := (blk_cell BK158.out 2).trans rfl; have hcz25_3 : w22.cell? ⟨gb158, 3, none⟩ = some (.int .i64 a1_3) := (blk_cell BK158.out 3).trans rfl; have hcz25_4 : w22.cell? ⟨gb158, 4, none⟩ = some (.string a1_4) := (blk_cell BK158.out 4).trans rfl; have hcz25_5 : w22.cell? ⟨gb158, 5, none⟩ = some (.bool a1_5) := (blk_cell BK158.out 5).trans rfl; have hcz25_6 : w22.cell? ⟨gb158, 6, none⟩ = some (.slice A1_6 l1_6.length c1_6) := (blk_cell BK158.out 6).trans rfl; have hcz25_7 : w22.cell? ⟨gb158, 7, none⟩ = some (.bool a1_7) := (blk_cell BK158.out 7).trans rfl; have hfz25_0 := blk_frozen BK158.out 0; have hfz25_1 := blk_frozen BK158.out 1; have hfz25_2 := blk_frozen BK158.out 2; have hfz25_3 := blk_frozen BK158.out 3; have hfz25_4 := blk_frozen BK158.out 4; have hfz25_5 := blk_frozen BK158.out 5; have hfz25_6 := blk_frozen BK158.out 6; have hfz25_7 := blk_frozen BK158.out 7))
              go_ret
              exact ⟨by first | rfl | (simp [errW_none, errW_some] <;> rfl) | (simp [*, errW_none, errW_some] <;> rfl), by repeat (first | (with_reducible first | exact HB.out | apply below_alloc | apply pw_below_drewN | apply below_drew1 | refine below_set ?_ GE157.out | refine below_set ?_ GE158.out) | exact HB.out)⟩
          · rw [if_neg c7] at H
            have c7b0 : (a0_4.toList == a1_4.toList) = false := beq_eq_false_iff_ne.mpr c7
            have c7b1 : (a0_4.toList != a1_4.toList) = true := bne_iff_ne.mpr c7
            obtain rfl := Option.some.inj H
            go_enter Tryd.func20, Tryd.ntmps20
            go_wp2_with (first | ((with_reducible refine gate_dst (N := 2) rfl ?_); refine box_event ?hg (N := 2) ?hd (cs := #[.int .i64 a0_0, .int .i64 a0_1, .int .i64 a0_2, .int .i64 a0_3, .string a0_4, .bool a0_5, .slice A0_6 l0_6.length c0_6, .bool a0_7]) (t := 41) ?hr ?_; (case hd => rfl); (case hg => rfl); (case hr => first | (go_simp; done) | (go_simp; rfl)); intro gb157 hg w26 hbox hb; have n0_ := Aside0.mk (below_step (by repeat (first | (with_reducible first | exact HB.out | apply below_alloc | apply pw_below_drewN | apply below_drew1) | exact HB.out)) hb); have n1_ := Aside0.mk (hbox); have n2_ := Aside0.mk ((by rw [hg]; exact (below_size (by repeat (first | (with_reducible first | exact HB.out | apply below_alloc | apply pw_below_drewN | apply below_drew1) | exact HB.out))) : w.heap.size ≤ gb157)); have n3_ := Aside0.mk ((by rw [hg]; exact (below_size (by repeat (first | (with_reducible first | exact HB.out | apply below_alloc | apply pw_below_drewN | apply below_drew1) | exact HB.out))) : w.heap.size ≤ gb157)); clear HB; have HB := n0_; have BK157 := n1_; have GW157 := n2_; have GE157 := n3_; clear n0_ n1_ n2_ n3_; clear hb hbox hg) | ((with_reducible refine gate_dst (N := 3) rfl ?_); refine box_event ?hg (N := 3) ?hd (cs := #[.int .i64 a1_0, .int .i64 a1_1, .int .i64 a1_2, .int .i64 a1_3, .string a1_4, .bool a1_5, .slice A1_6 l1_6.length c1_6, .bool a1_7]) (t := 41) ?hr ?_; (case hd => rfl); (case hg => rfl); (case hr => first | (go_simp; done) | (go_simp; rfl)); intro gb158 hg w27 hbox hb; have n0_ := Aside0.mk (blk_below (g := gb157) (o := .cells #[.int .i64 a0_0, .int .i64 a0_1, .int .i64 a0_2, .int .i64 a0_3, .string a0_4, .bool a0_5, .slice A0_6 l0_6.length c0_6, .bool a0_7] 41 (0, 0)) (by (with_reducible repeat (first | refine blk_drewN ?_ _ | refine blk_drew ?_ | refine blk_alloc ?_ _)); exact BK157.out) hb); have n1_ := Aside0.mk (below_step (by repeat (first | (with_reducible first | exact HB.out | apply below_alloc | apply pw_below_drewN | apply below_drew1 | refine below_set ?_ GE157.out) | exact HB.out)) hb); have n2_ := Aside0.mk (hbox); have n3_ := Aside0.mk ((by rw [hg]; exact (below_size (by repeat (first | (with_reducible first | exact HB.out | apply below_alloc | apply pw_below_drewN | apply below_drew1 | refine below_set ?_ GE157.out) | exact HB.out))) : w.heap.size ≤ gb158)); have n4_ := Aside0.mk ((by rw [hg]; exact (below_size (by repeat (first | (with_reducible first | exact HB.out | apply below_alloc | apply pw_below_drewN | apply below_drew1 | refine below_set ?_ GE157.out) | exact HB.out))) : w.heap.size ≤ gb158)); have n5_ := Aside0.mk ((by rw [hg]; exact Nat.ne_of_lt (blk_lt (g := gb157) (o := .cells #[.int .i64 a0_0, .int .i64 a0_1, .int .i64 a0_2, .int .i64 a0_3, .string a0_4, .bool a0_5, .slice A0_6 l0_6.length c0_6, .bool a0_7] 41 (0, 0)) (by (with_reducible repeat (first | refine blk_drewN ?_ _ | refine blk_drew ?_ | refine blk_alloc ?_ _)); exact BK157.out)) : gb157 ≠ gb158)); have n6_ := Aside0.mk ((by rw [hg]; exact Nat.ne_of_gt (blk_lt (g := gb157) (o := .cells #[.int .i64 a0_0, .int .i64 a0_1, .int .i64 a0_2, .int .i64 a0_3, .string a0_4, .bool a0_5, .slice A0_6 l0_6.length c0_6, .bool a0_7] 41 (0, 0)) (by (with_reducible repeat (first | refine blk_drewN ?_ _ | refine blk_drew ?_ | refine blk_alloc ?_ _)); exact BK157.out)) : gb158 ≠ gb157)); clear BK157; clear HB; have BK157 := n0_; have HB := n1_; have BK158 := n2_; have GW158 := n3_; have GE158 := n4_; have NB157_158 := n5_; have NB158_157 := n6_; clear n0_ n1_ n2_ n3_ n4_ n5_ n6_; clear hb hbox hg; have hnb28 := NB157_158.out; have hnc28 := NB158_157.out; have hcz29_0 : w27.cell? ⟨gb157, 0, none⟩ = some (.int .i64 a0_0) := (blk_cell BK157.out 0).trans rfl; have hcz29_1 : w27.cell? ⟨gb157, 1, none⟩ = some (.int .i64 a0_1) := (blk_cell BK157.out 1).trans rfl; have hcz29_2 : w27.cell? ⟨gb157, 2, none⟩ = some (.int .i64 a0_2) := (blk_cell BK157.out 2).trans rfl; have hcz29_3 : w27.cell? ⟨gb157, 3, none⟩ = some (.int .i64 a0_3) := (blk_cell BK157.out 3).trans rfl; have hcz29_4 : w27.cell? ⟨gb157, 4, none⟩ = some (.string a0_4) := (blk_cell BK157.out 4).trans rfl; have hcz29_5 : w27.cell? ⟨gb157, 5, none⟩ = some (.bool a0_5) := (blk_cell BK157.out 5).trans rfl; have hcz29_6 : w27.cell? ⟨gb157, 6, none⟩ = some (.slice A0_6 l0_6.length c0_6) := (blk_cell BK157.out 6).trans rfl; have hcz29_7 : w27.cell? ⟨gb157, 7, none⟩ = some (.bool a0_7) := (blk_cell BK157.out 7).trans rfl; have hfz29_0 := blk_frozen BK157.out 0; have hfz29_1 := blk_frozen BK157.out 1; have hfz29_2 := blk_frozen BK157.out 2; have hfz29_3 := blk_frozen BK157.out 3; have hfz29_4 := blk_frozen BK157.out 4; have hfz29_5 := blk_frozen BK157.out 5; have hfz29_6 := blk_frozen BK157.out 6; have hfz29_7 := blk_frozen BK157.out 7; have hcz30_0 : w27.cell? ⟨gb158, 0, none⟩ = some (.int .i64 a1_0) := (blk_cell BK158.out 0).trans rfl; have hcz30_1 : w27.cell? ⟨gb158, 1, none⟩ = some (.int .i64 a1_1) := (blk_cell BK158.out 1).trans rfl; have hcz30_2 : w27.cell? ⟨gb158, 2, none⟩ = some (.int .i64 a1_2) := (blk_cell BK158.out 2).trans rfl; have hcz30_3 : w27.cell? ⟨gb158, 3, none⟩ = some (.int .i64 a1_3) := (blk_cell BK158.out 3).trans rfl; have hcz30_4 : w27.cell? ⟨gb158, 4, none⟩ = some (.string a1_4) := (blk_cell BK158.out 4).trans rfl; have hcz30_5 : w27.cell? ⟨gb158, 5, none⟩ = some (.bool a1_5) := (blk_cell BK158.out 5).trans rfl; have hcz30_6 : w27.cell? ⟨gb158, 6, none⟩ = some (.slice A1_6 l1_6.length c1_6) := (blk_cell BK158.out 6).trans rfl; have hcz30_7 : w27.cell? ⟨gb158, 7, none⟩ = some (.bool a1_7) := (blk_cell BK158.out 7).trans rfl; have hfz30_0 := blk_frozen BK158.out 0; have hfz30_1 := blk_frozen BK158.out 1; have hfz30_2 := blk_frozen BK158.out 2; have hfz30_3 := blk_frozen BK158.out 3; have hfz30_4 := blk_frozen BK158.out 4; have hfz30_5 := blk_frozen BK158.out 5; have hfz30_6 := blk_frozen BK158.out 6; have hfz30_7 := blk_frozen BK158.out 7))
            go_ret
            exact ⟨by first | rfl | (simp [errW_none, errW_some] <;> rfl) | (simp [*, errW_none, errW_some] <;> rfl), by repeat (first | (with_reducible first | exact HB.out | apply below_alloc | apply pw_below_drewN | apply below_drew1 | refine below_set ?_ GE157.out | refine below_set ?_ GE158.out) | exact HB.out)⟩
        · rw [if_neg c6] at H
          have c6b0 : (a0_3 == a1_3) = false := beq_eq_false_iff_ne.mpr c6
          have c6b1 : (a0_3 != a1_3) = true := bne_iff_ne.mpr c6
          obtain rfl := Option.some.inj H
          go_enter Tryd.func20, Tryd.ntmps20
          go_wp2_with (first | ((with_reducible refine gate_dst (N := 2) rfl ?_); refine box_event ?hg (N := 2) ?hd (cs := #[.int .i64 a0_0, .int .i64 a0_1, .int .i64 a0_2, .int .i64 a0_3, .string a0_4, .bool a0_5, .slice A0_6 l0_6.length c0_6, .bool a0_7]) (t := 41) ?hr ?_; (case hd => rfl); (case hg => rfl); (case hr => first | (go_simp; done) | (go_simp; rfl)); intro gb157 hg w31 hbox hb; have n0_ := Aside0.mk (below_step (by repeat (first | (with_reducible first | exact HB.out | apply below_alloc | apply pw_below_drewN | apply below_drew1) | exact HB.out)) hb); have n1_ := Aside0.mk (hbox); have n2_ := Aside0.mk ((by rw [hg]; exact (below_size (by repeat (first | (with_reducible first | exact HB.out | apply below_alloc | apply pw_below_drewN | apply below_drew1) | exact HB.out))) : w.heap.size ≤ gb157)); have n3_ := Aside0.mk ((by rw [hg]; exact (below_size (by repeat (first | (with_reducible first | exact HB.out | apply below_alloc | apply pw_below_drewN | apply below_drew1) | exact HB.out))) : w.heap.size ≤ gb157)); clear HB; have HB := n0_; have BK157 := n1_; have GW157 := n2_; have GE157 := n3_; clear n0_ n1_ n2_ n3_; clear hb hbox hg) | ((with_reducible refine gate_dst (N := 3) rfl ?_); refine box_event ?hg (N := 3) ?hd (cs := #[.int .i64 a1_0, .int .i64 a1_1, .int .i64 a1_2, .int .i64 a1_3, .string a1_4, .bool a1_5, .slice A1_6 l1_6.length c1_6, .bool a1_7]) (t := 41) ?hr ?_; (case hd => rfl); (case hg => rfl); (case hr => first | (go_simp; done) | (go_simp; rfl)); intro gb158 hg w32 hbox hb; have n0_ := Aside0.mk (blk_below (g := gb157) (o := .cells #[.int .i64 a0_0, .int .i64 a0_1, .int .i64 a0_2, .int .i64 a0_3, .string a0_4, .bool a0_5, .slice A0_6 l0_6.length c0_6, .bool a0_7] 41 (0, 0)) (by (with_reducible repeat (first | refine blk_drewN ?_ _ | refine blk_drew ?_ | refine blk_alloc ?_ _)); exact BK157.out) hb); have n1_ := Aside0.mk (below_step (by repeat (first | (with_reducible first | exact HB.out | apply below_alloc | apply pw_below_drewN | apply below_drew1 | refine below_set ?_ GE157.out) | exact HB.out)) hb); have n2_ := Aside0.mk (hbox); have n3_ := Aside0.mk ((by rw [hg]; exact (below_size (by repeat (first | (with_reducible first | exact HB.out | apply below_alloc | apply pw_below_drewN | apply below_drew1 | refine below_set ?_ GE157.out) | exact HB.out))) : w.heap.size ≤ gb158)); have n4_ := Aside0.mk ((by rw [hg]; exact (below_size (by repeat (first | (with_reducible first | exact HB.out | apply below_alloc | apply pw_below_drewN | apply below_drew1 | refine below_set ?_ GE157.out) | exact HB.out))) : w.heap.size ≤ gb158)); have n5_ := Aside0.mk ((by rw [hg]; exact Nat.ne_of_lt (blk_lt (g := gb157) (o := .cells #[.int .i64 a0_0, .int .i64 a0_1, .int .i64 a0_2, .int .i64 a0_3, .string a0_4, .bool a0_5, .slice A0_6 l0_6.length c0_6, .bool a0_7] 41 (0, 0)) (by (with_reducible repeat (first | refine blk_drewN ?_ _ | refine blk_drew ?_ | refine blk_alloc ?_ _)); exact BK157.out)) : gb157 ≠ gb158)); have n6_ := Aside0.mk ((by rw [hg]; exact Nat.ne_of_gt (blk_lt (g := gb157) (o := .cells #[.int .i64 a0_0, .int .i64 a0_1, .int .i64 a0_2, .int .i64 a0_3, .string a0_4, .bool a0_5, .slice A0_6 l0_6.length c0_6, .bool a0_7] 41 (0, 0)) (by (with_reducible repeat (first | refine blk_drewN ?_ _ | refine blk_drew ?_ | refine blk_alloc ?_ _)); exact BK157.out)) : gb158 ≠ gb157)); clear BK157; clear HB; have BK157 := n0_; have HB := n1_; have BK158 := n2_; have GW158 := n3_; have GE158 := n4_; have NB157_158 := n5_; have NB158_157 := n6_; clear n0_ n1_ n2_ n3_ n4_ n5_ n6_; clear hb hbox hg; have hnb33 := NB157_158.out; have hnc33 := NB158_157.out; have hcz34_0 : w32.cell? ⟨gb157, 0, none⟩ = some (.int .i64 a0_0) := (blk_cell BK157.out 0).trans rfl; have hcz34_1 : w32.cell? ⟨gb157, 1, none⟩ = some (.int .i64 a0_1) := (blk_cell BK157.out 1).trans rfl; have hcz34_2 : w32.cell? ⟨gb157, 2, none⟩ = some (.int .i64 a0_2) := (blk_cell BK157.out 2).trans rfl; have hcz34_3 : w32.cell? ⟨gb157, 3, none⟩ = some (.int .i64 a0_3) := (blk_cell BK157.out 3).trans rfl; have hcz34_4 : w32.cell? ⟨gb157, 4, none⟩ = some (.string a0_4) := (blk_cell BK157.out 4).trans rfl; have hcz34_5 : w32.cell? ⟨gb157, 5, none⟩ = some (.bool a0_5) := (blk_cell BK157.out 5).trans rfl; have hcz34_6 : w32.cell? ⟨gb157, 6, none⟩ = some (.slice A0_6 l0_6.length c0_6) := (blk_cell BK157.out 6).trans rfl; have hcz34_7 : w32.cell? ⟨gb157, 7, none⟩ = some (.bool a0_7) := (blk_cell BK157.out 7).trans rfl; have hfz34_0 := blk_frozen BK157.out 0; have hfz34_1 := blk_frozen BK157.out 1; have hfz34_2 := blk_frozen BK157.out 2; have hfz34_3 := blk_frozen BK157.out 3; have hfz34_4 := blk_frozen BK157.out 4; have hfz34_5 := blk_frozen BK157.out 5; have hfz34_6 := blk_frozen BK157.out 6; have hfz34_7 := blk_frozen BK157.out 7; have hcz35_0 : w32.cell? ⟨gb158, 0, none⟩ = some (.int .i64 a1_0) := (blk_cell BK158.out 0).trans rfl; have hcz35_1 : w32.cell? ⟨gb158, 1, none⟩ = some (.int .i64 a1_1) := (blk_cell BK158.out 1).trans rfl; have hcz35_2 : w32.cell? ⟨gb158, 2, none⟩ = some (.int .i64 a1_2) := (blk_cell BK158.out 2).trans rfl; have hcz35_3 : w32.cell? ⟨gb158, 3, none⟩ = some (.int .i64 a1_3) := (blk_cell BK158.out 3).trans rfl; have hcz35_4 : w32.cell? ⟨gb158, 4, none⟩ = some (.string a1_4) := (blk_cell BK158.out 4).trans rfl; have hcz35_5 : w32.cell? ⟨gb158, 5, none⟩ = some (.bool a1_5) := (blk_cell BK158.out 5).trans rfl; have hcz35_6 : w32.cell? ⟨gb158, 6, none⟩ = some (.slice A1_6 l1_6.length c1_6) := (blk_cell BK158.out 6).trans rfl; have hcz35_7 : w32.cell? ⟨gb158, 7, none⟩ = some (.bool a1_7) := (blk_cell BK158.out 7).trans rfl; have hfz35_0 := blk_frozen BK158.out 0; have hfz35_1 := blk_frozen BK158.out 1; have hfz35_2 := blk_frozen BK158.out 2; have hfz35_3 := blk_frozen BK158.out 3; have hfz35_4 := blk_frozen BK158.out 4; have hfz35_5 := blk_frozen BK158.out 5; have hfz35_6 := blk_frozen BK158.out 6; have hfz35_7 := blk_frozen BK158.out 7))
          go_ret
          exact ⟨by first | rfl | (simp [errW_none, errW_some] <;> rfl) | (simp [*, errW_none, errW_some] <;> rfl), by repeat (first | (with_reducible first | exact HB.out | apply below_alloc | apply pw_below_drewN | apply below_drew1 | refine below_set ?_ GE157.out | refine below_set ?_ GE158.out) | exact HB.out)⟩
      · rw [if_neg c5] at H
        have c5b0 : (a0_2 == a1_2) = false := beq_eq_false_iff_ne.mpr c5
        have c5b1 : (a0_2 != a1_2) = true := bne_iff_ne.mpr c5
        obtain rfl := Option.some.inj H
        go_enter Tryd.func20, Tryd.ntmps20
        go_wp2_with (first | ((with_reducible refine gate_dst (N := 2) rfl ?_); refine box_event ?hg (N := 2) ?hd (cs := #[.int .i64 a0_0, .int .i64 a0_1, .int .i64 a0_2, .int .i64 a0_3, .string a0_4, .bool a0_5, .slice A0_6 l0_6.length c0_6, .bool a0_7]) (t := 41) ?hr ?_; (case hd => rfl); (case hg => rfl); (case hr => first | (go_simp; done) | (go_simp; rfl)); intro gb157 hg w36 hbox hb; have n0_ := Aside0.mk (below_step (by repeat (first | (with_reducible first | exact HB.out | apply below_alloc | apply pw_below_drewN | apply below_drew1) | exact HB.out)) hb); have n1_ := Aside0.mk (hbox); have n2_ := Aside0.mk ((by rw [hg]; exact (below_size (by repeat (first | (with_reducible first | exact HB.out | apply below_alloc | apply pw_below_drewN | apply below_drew1) | exact HB.out))) : w.heap.size ≤ gb157)); have n3_ := Aside0.mk ((by rw [hg]; exact (below_size (by repeat (first | (with_reducible first | exact HB.out | apply below_alloc | apply pw_below_drewN | apply below_drew1) | exact HB.out))) : w.heap.size ≤ gb157)); clear HB; have HB := n0_; have BK157 := n1_; have GW157 := n2_; have GE157 := n3_; clear n0_ n1_ n2_ n3_; clear hb hbox hg) | ((with_reducible refine gate_dst (N := 3) rfl ?_); refine box_event ?hg (N := 3) ?hd (cs := #[.int .i64 a1_0, .int .i64 a1_1, .int .i64 a1_2, .int .i64 a1_3, .string a1_4, .bool a1_5, .slice A1_6 l1_6.length c1_6, .bool a1_7]) (t := 41) ?hr ?_; (case hd => rfl); (case hg => rfl); (case hr => first | (go_simp; done) | (go_simp; rfl)); intro gb158 hg w37 hbox hb; have n0_ := Aside0.mk (blk_below (g := gb157) (o := .cells #[.int .i64 a0_0, .int .i64 a0_1, .int .i64 a0_2, .int .i64 a0_3, .string a0_4, .bool a0_5, .slice A0_6 l0_6.length c0_6, .bool a0_7] 41 (0, 0)) (by (with_reducible repeat (first | refine blk_drewN ?_ _ | refine blk_drew ?_ | refine blk_alloc ?_ _)); exact BK157.out) hb); have n1_ := Aside0.mk (below_step (by repeat (first | (with_reducible first | exact HB.out | apply below_alloc | apply pw_below_drewN | apply below_drew1 | refine below_set ?_ GE157.out) | exact HB.out)) hb); have n2_ := Aside0.mk (hbox); have n3_ := Aside0.mk ((by rw [hg]; exact (below_size (by repeat (first | (with_reducible first | exact HB.out | apply below_alloc | apply pw_below_drewN | apply below_drew1 | refine below_set ?_ GE157.out) | exact HB.out))) : w.heap.size ≤ gb158)); have n4_ := Aside0.mk ((by rw [hg]; exact (below_size (by repeat (first | (with_reducible first | exact HB.out | apply below_alloc | apply pw_below_drewN | apply below_drew1 | refine below_set ?_ GE157.out) | exact HB.out))) : w.heap.size ≤ gb158)); have n5_ := Aside0.mk ((by rw [hg]; exact Nat.ne_of_lt (blk_lt (g := gb157) (o := .cells #[.int .i64 a0_0, .int .i64 a0_1, .int .i64 a0_2, .int .i64 a0_3, .string a0_4, .bool a0_5, .slice A0_6 l0_6.length c0_6, .bool a0_7] 41 (0, 0)) (by (with_reducible repeat (first | refine blk_drewN ?_ _ | refine blk_drew ?_ | refine blk_alloc ?_ _)); exact BK157.out)) : gb157 ≠ gb158)); have n6_ := Aside0.mk ((by rw [hg]; exact Nat.ne_of_gt (blk_lt (g := gb157) (o := .cells #[.int .i64 a0_0, .int .i64 a0_1, .int .i64 a0_2, .int .i64 a0_3, .string a0_4, .bool a0_5, .slice A0_6 l0_6.length c0_6, .bool a0_7] 41 (0, 0)) (by (with_reducible repeat (first | refine blk_drewN ?_ _ | refine blk_drew ?_ | refine blk_alloc ?_ _)); exact BK157.out)) : gb158 ≠ gb157)); clear BK157; clear HB; have BK157 := n0_; have HB := n1_; have BK158 := n2_; have GW158 := n3_; have GE158 := n4_; have NB157_158 := n5_; have NB158_157 := n6_; clear n0_ n1_ n2_ n3_ n4_ n5_ n6_; clear hb hbox hg; have hnb38 := NB157_158.out; have hnc38 := NB158_157.out; have hcz39_0 : w37.cell? ⟨gb157, 0, none⟩ = some (.int .i64 a0_0) := (blk_cell BK157.out 0).trans rfl; have hcz39_1 : w37.cell? ⟨gb157, 1, none⟩ = some (.int .i64 a0_1) := (blk_cell BK157.out 1).trans rfl; have hcz39_2 : w37.cell? ⟨gb157, 2, none⟩ = some (.int .i64 a0_2) := (blk_cell BK157.out 2).trans rfl; have hcz39_3 : w37.cell? ⟨gb157, 3, none⟩ = some (.int .i64 a0_3) := (blk_cell BK157.out 3).trans rfl; have hcz39_4 : w37.cell? ⟨gb157, 4, none⟩ = some (.string a0_4) := (blk_cell BK157.out 4).trans rfl; have hcz39_5 : w37.cell? ⟨gb157, 5, none⟩ = some (.bool a0_5) := (blk_cell BK157.out 5).trans rfl; have hcz39_6 : w37.cell? ⟨gb157, 6, none⟩ = some (.slice A0_6 l0_6.length c0_6) := (blk_cell BK157.out 6).trans rfl; have hcz39_7 : w37.cell? ⟨gb157, 7, none⟩ = some (.bool a0_7) := (blk_cell BK157.out 7).trans rfl; have hfz39_0 := blk_frozen BK157.out 0; have hfz39_1 := blk_frozen BK157.out 1; have hfz39_2 := blk_frozen BK157.out 2; have hfz39_3 := blk_frozen BK157.out 3; have hfz39_4 := blk_frozen BK157.out 4; have hfz39_5 := blk_frozen BK157.out 5; have hfz39_6 := blk_frozen BK157.out 6; have hfz39_7 := blk_frozen BK157.out 7; have hcz40_0 : w37.cell? ⟨gb158, 0, none⟩ = some (.int .i64 a1_0) := (blk_cell BK158.out 0).trans rfl; have hcz40_1 : w37.cell? ⟨gb158, 1, none⟩ = some (.int .i64 a1_1) := (blk_cell BK158.out 1).trans rfl; have hcz40_2 : w37.cell? ⟨gb158, 2, none⟩ = some (.int .i64 a1_2) := (blk_cell BK158.out 2).trans rfl; have hcz40_3 : w37.cell? ⟨gb158, 3, none⟩ = some (.int .i64 a1_3) := (blk_cell BK158.out 3).trans rfl; have hcz40_4 : w37.cell? ⟨gb158, 4, none⟩ = some (.string a1_4) := (blk_cell BK158.out 4).trans rfl; have hcz40_5 : w37.cell? ⟨gb158, 5, none⟩ = some (.bool a1_5) := (blk_cell BK158.out 5).trans rfl; have hcz40_6 : w37.cell? ⟨gb158, 6, none⟩ = some (.slice A1_6 l1_6.length c1_6) := (blk_cell BK158.out 6).trans rfl; have hcz40_7 : w37.cell? ⟨gb158, 7, none⟩ = some (.bool a1_7) := (blk_cell BK158.out 7).trans rfl; have hfz40_0 := blk_frozen BK158.out 0; have hfz40_1 := blk_frozen BK158.out 1; have hfz40_2 := blk_frozen BK158.out 2; have hfz40_3 := blk_frozen BK158.out 3; have hfz40_4 := blk_frozen BK158.out 4; have hfz40_5 := blk_frozen BK158.out 5; have hfz40_6 := blk_frozen BK158.out 6; have hfz40_7 := blk_frozen BK158.out 7))
        go_ret
        exact ⟨by first | rfl | (simp [errW_none, errW_some] <;> rfl) | (simp [*, errW_none, errW_some] <;> rfl), by repeat (first | (with_reducible first | exact HB.out | apply below_alloc | apply pw_below_drewN | apply below_drew1 | refine below_set ?_ GE157.out | refine below_set ?_ GE158.out) | exact HB.out)⟩
    · rw [if_neg c4] at H
      have c4b0 : (a0_1 == a1_1) = false := beq_eq_false_iff_ne.mpr c4
      have c4b1 : (a0_1 != a1_1) = true := bne_iff_ne.mpr c4
      obtain rfl := Option.some.inj H
      go_enter Tryd.func20, Tryd.ntmps20
      go_wp2_with (first | ((with_reducible refine gate_dst (N := 2) rfl ?_); refine box_event ?hg (N := 2) ?hd (cs := #[.int .i64 a0_0, .int .i64 a0_1, .int .i64 a0_2, .int .i64 a0_3, .string a0_4, .bool a0_5, .slice A0_6 l0_6.length c0_6, .bool a0_7]) (t := 41) ?hr ?_; (case hd => rfl); (case hg => rfl); (case hr => first | (go_simp; done) | (go_simp; rfl)); intro gb157 hg w41 hbox hb; have n0_ := Aside0.mk (below_step (by repeat (first | (with_reducible first | exact HB.out | apply below_alloc | apply pw_below_drewN | apply below_drew1) | exact HB.out)) hb); have n1_ := Aside0.mk (hbox); have n2_ := Aside0.mk ((by rw [hg]; exact (below_size (by repeat (first | (with_reducible first | exact HB.out | apply below_alloc | apply pw_below_drewN | apply below_drew1) | exact HB.out))) : w.heap.size ≤ gb157)); have n3_ := Aside0.mk ((by rw [hg]; exact (below_size (by repeat (first | (with_reducible first | exact HB.out | apply below_alloc | apply pw_below_drewN | apply below_drew1) | exact HB.out))) : w.heap.size ≤ gb157)); clear HB; have HB := n0_; have BK157 := n1_; have GW157 := n2_; have GE157 := n3_; clear n0_ n1_ n2_ n3_; clear hb hbox hg) | ((with_reducible refine gate_dst (N := 3) rfl ?_); refine box_event ?hg (N := 3) ?hd (cs := #[.int .i64 a1_0, .int .i64 a1_1, .int .i64 a1_2, .int .i64 a1_3, .string a1_4, .bool a1_5, .slice A1_6 l1_6.length c1_6, .bool a1_7]) (t := 41) ?hr ?_; (case hd => rfl); (case hg => rfl); (case hr => first | (go_simp; done) | (go_simp; rfl)); intro gb158 hg w42 hbox hb; have n0_ := Aside0.mk (blk_below (g := gb157) (o := .cells #[.int .i64 a0_0, .int .i64 a0_1, .int .i64 a0_2, .int .i64 a0_3, .string a0_4, .bool a0_5, .slice A0_6 l0_6.length c0_6, .bool a0_7] 41 (0, 0)) (by (with_reducible repeat (first | refine blk_drewN ?_ _ | refine blk_drew ?_ | refine blk_alloc ?_ _)); exact BK157.out) hb); have n1_ := Aside0.mk (below_step (by repeat (first | (with_reducible first | exact HB.out | apply below_alloc | apply pw_below_drewN | apply below_drew1 | refine below_set ?_ GE157.out) | exact HB.out)) hb); have n2_ := Aside0.mk (hbox); have n3_ := Aside0.mk ((by rw [hg]; exact (below_size (by repeat (first | (with_reducible first | exact HB.out | apply below_alloc | apply pw_below_drewN | apply below_drew1 | refine below_set ?_ GE157.out) | exact HB.out))) : w.heap.size ≤ gb158)); have n4_ := Aside0.mk ((by rw [hg]; exact (below_size (by repeat (first | (with_reducible first | exact HB.out | apply below_alloc | apply pw_below_drewN | apply below_drew1 | refine below_set ?_ GE157.out) | exact HB.out))) : w.heap.size ≤ gb158)); have n5_ := Aside0.mk ((by rw [hg]; exact Nat.ne_of_lt (blk_lt (g := gb157) (o := .cells #[.int .i64 a0_0, .int .i64 a0_1, .int .i64 a0_2, .int .i64 a0_3, .string a0_4, .bool a0_5, .slice A0_6 l0_6.length c0_6, .bool a0_7] 41 (0, 0)) (by (with_reducible repeat (first | refine blk_drewN ?_ _ | refine blk_drew ?_ | refine blk_alloc ?_ _)); exact BK157.out)) : gb157 ≠ gb158)); have n6_ := Aside0.mk ((by rw [hg]; exact Nat.ne_of_gt (blk_lt (g := gb157) (o := .cells #[.int .i64 a0_0, .int .i64 a0_1, .int .i64 a0_2, .int .i64 a0_3, .string a0_4, .bool a0_5, .slice A0_6 l0_6.length c0_6, .bool a0_7] 41 (0, 0)) (by (with_reducible repeat (first | refine blk_drewN ?_ _ | refine blk_drew ?_ | refine blk_alloc ?_ _)); exact BK157.out)) : gb158 ≠ gb157)); clear BK157; clear HB; have BK157 := n0_; have HB := n1_; have BK158 := n2_; have GW158 := n3_; have GE158 := n4_; have NB157_158 := n5_; have NB158_157 := n6_; clear n0_ n1_ n2_ n3_ n4_ n5_ n6_; clear hb hbox hg; have hnb43 := NB157_158.out; have hnc43 := NB158_157.out; have hcz44_0 : w42.cell? ⟨gb157, 0, none⟩ = some (.int .i64 a0_0) := (blk_cell BK157.out 0).trans rfl; have hcz44_1 : w42.cell? ⟨gb157, 1, none⟩ = some (.int .i64 a0_1) := (blk_cell BK157.out 1).trans rfl; have hcz44_2 : w42.cell? ⟨gb157, 2, none⟩ = some (.int .i64 a0_2) := (blk_cell BK157.out 2).trans rfl; have hcz44_3 : w42.cell? ⟨gb157, 3, none⟩ = some (.int .i64 a0_3) := (blk_cell BK157.out 3).trans rfl; have hcz44_4 : w42.cell? ⟨gb157, 4, none⟩ = some (.string a0_4) := (blk_cell BK157.out 4).trans rfl; have hcz44_5 : w42.cell? ⟨gb157, 5, none⟩ = some (.bool a0_5) := (blk_cell BK157.out 5).trans rfl; have hcz44_6 : w42.cell? ⟨gb157, 6, none⟩ = some (.slice A0_6 l0_6.length c0_6) := (blk_cell BK157.out 6).trans rfl; have hcz44_7 : w42.cell? ⟨gb157, 7, none⟩ = some (.bool a0_7) := (blk_cell BK157.out 7).trans rfl; have hfz44_0 := blk_frozen BK157.out 0; have hfz44_1 := blk_frozen BK157.out 1; have hfz44_2 := blk_frozen BK157.out 2; have hfz44_3 := blk_frozen BK157.out 3; have hfz44_4 := blk_frozen BK157.out 4; have hfz44_5 := blk_frozen BK157.out 5; have hfz44_6 := blk_frozen BK157.out 6; have hfz44_7 := blk_frozen BK157.out 7; have hcz45_0 : w42.cell? ⟨gb158, 0, none⟩ = some (.int .i64 a1_0) := (blk_cell BK158.out 0).trans rfl; have hcz45_1 : w42.cell? ⟨gb158, 1, none⟩ = some (.int .i64 a1_1) := (blk_cell BK158.out 1).trans rfl; have hcz45_2 : w42.cell? ⟨gb158, 2, none⟩ = some (.int .i64 a1_2) := (blk_cell BK158.out 2).trans rfl; have hcz45_3 : w42.cell? ⟨gb158, 3, none⟩ = some (.int .i64 a1_3) := (blk_cell BK158.out 3).trans rfl; have hcz45_4 : w42.cell? ⟨gb158, 4, none⟩ = some (.string a1_4) := (blk_cell BK158.out 4).trans rfl; have hcz45_5 : w42.cell? ⟨gb158, 5, none⟩ = some (.bool a1_5) := (blk_cell BK158.out 5).trans rfl; have hcz45_6 : w42.cell? ⟨gb158, 6, none⟩ = some (.slice A1_6 l1_6.length c1_6) := (blk_cell BK158.out 6).trans rfl; have hcz45_7 : w42.cell? ⟨gb158, 7, none⟩ = some (.bool a1_7) := (blk_cell BK158.out 7).trans rfl; have hfz45_0 := blk_frozen BK158.out 0; have hfz45_1 := blk_frozen BK158.out 1; have hfz45_2 := blk_frozen BK158.out 2; have hfz45_3 := blk_frozen BK158.out 3; have hfz45_4 := blk_frozen BK158.out 4; have hfz45_5 := blk_frozen BK158.out 5; have hfz45_6 := blk_frozen BK158.out 6; have hfz45_7 := blk_frozen BK158.out 7))
      go_ret
      exact ⟨by first | rfl | (simp [errW_none, errW_some] <;> rfl) | (simp [*, errW_none, errW_some] <;> rfl), by repeat (first | (with_reducible first | exact HB.out | apply below_alloc | apply pw_below_drewN | apply below_drew1 | refine below_set ?_ GE157.out | refine below_set ?_ GE158.out) | exact HB.out)⟩
  · rw [if_neg c3] at H
    have c3b0 : (a0_0 == a1_0) = false := beq_eq_false_iff_ne.mpr c3
    have c3b1 : (a0_0 != a1_0) = true := bne_iff_ne.mpr c3
    obtain rfl := Option.some.inj H
    go_enter Tryd.func20, Tryd.ntmps20
    go_wp2_with (first | ((with_reducible refine gate_dst (N := 2) rfl ?_); refine box_event ?hg (N := 2) ?hd (cs := #[.int .i64 a0_0, .int .i64 a0_1, .int .i64 a0_2, .int .i64 a0_3, .string a0_4, .bool a0_5, .slice A0_6 l0_6.length c0_6, .bool a0_7]) (t := 41) ?hr ?_; (case hd => rfl); (case hg => rfl); (case hr => first | (go_simp; done) | (go_simp; rfl)); intro gb157 hg w46 hbox hb; have n0_ := Aside0.mk (below_step (by repeat (first | (with_reducible first | exact HB.out | apply below_alloc | apply pw_below_drewN | apply below_drew1) | exact HB.out)) hb); have n1_ := Aside0.mk (hbox); have n2_ := Aside0.mk ((by rw [hg]; exact (below_size (by repeat (first | (with_reducible first | exact HB.out | apply below_alloc | apply pw_below_drewN | apply below_drew1) | exact HB.out))) : w.heap.size ≤ gb157)); have n3_ := Aside0.mk ((by rw [hg]; exact (below_size (by repeat (first | (with_reducible first | exact HB.out | apply below_alloc | apply pw_below_drewN | apply below_drew1) | exact HB.out))) : w.heap.size ≤ gb157)); clear HB; have HB := n0_; have BK157 := n1_; have GW157 := n2_; have GE157 := n3_; clear n0_ n1_ n2_ n3_; clear hb hbox hg) | ((with_reducible refine gate_dst (N := 3) rfl ?_); refine box_event ?hg (N := 3) ?hd (cs := #[.int .i64 a1_0, .int .i64 a1_1, .int .i64 a1_2, .int .i64 a1_3, .string a1_4, .bool a1_5, .slice A1_6 l1_6.length c1_6, .bool a1_7]) (t := 41) ?hr ?_; (case hd => rfl); (case hg => rfl); (case hr => first | (go_simp; done) | (go_simp; rfl)); intro gb158 hg w47 hbox hb; have n0_ := Aside0.mk (blk_below (g := gb157) (o := .cells #[.int .i64 a0_0, .int .i64 a0_1, .int .i64 a0_2, .int .i64 a0_3, .string a0_4, .bool a0_5, .slice A0_6 l0_6.length c0_6, .bool a0_7] 41 (0, 0)) (by (with_reducible repeat (first | refine blk_drewN ?_ _ | refine blk_drew ?_ | refine blk_alloc ?_ _)); exact BK157.out) hb); have n1_ := Aside0.mk (below_step (by repeat (first | (with_reducible first | exact HB.out | apply below_alloc | apply pw_below_drewN | apply below_drew1 | refine below_set ?_ GE157.out) | exact HB.out)) hb); have n2_ := Aside0.mk (hbox); have n3_ := Aside0.mk ((by rw [hg]; exact (below_size (by repeat (first | (with_reducible first | exact HB.out | apply below_alloc | apply pw_below_drewN | apply below_drew1 | refine below_set ?_ GE157.out) | exact HB.out))) : w.heap.size ≤ gb158)); have n4_ := Aside0.mk ((by rw [hg]; exact (below_size (by repeat (first | (with_reducible first | exact HB.out | apply below_alloc | apply pw_below_drewN | apply below_drew1 | refine below_set ?_ GE157.out) | exact HB.out))) : w.heap.size ≤ gb158)); have n5_ := Aside0.mk ((by rw [hg]; exact Nat.ne_of_lt (blk_lt (g := gb157) (o := .cells #[.int .i64 a0_0, .int .i64 a0_1, .int .i64 a0_2, .int .i64 a0_3, .string a0_4, .bool a0_5, .slice A0_6 l0_6.length c0_6, .bool a0_7] 41 (0, 0)) (by (with_reducible repeat (first | refine blk_drewN ?_ _ | refine blk_drew ?_ | refine blk_alloc ?_ _)); exact BK157.out)) : gb157 ≠ gb158)); have n6_ := Aside0.mk ((by rw [hg]; exact Nat.ne_of_gt (blk_lt (g := gb157) (o := .cells #[.int .i64 a0_0, .int .i64 a0_1, .int .i64 a0_2, .int .i64 a0_3, .string a0_4, .bool a0_5, .slice A0_6 l0_6.length c0_6, .bool a0_7] 41 (0, 0)) (by (with_reducible repeat (first | refine blk_drewN ?_ _ | refine blk_drew ?_ | refine blk_alloc ?_ _)); exact BK157.out)) : gb158 ≠ gb157)); clear BK157; clear HB; have BK157 := n0_; have HB := n1_; have BK158 := n2_; have GW158 := n3_; have GE158 := n4_; have NB157_158 := n5_; have NB158_157 := n6_; clear n0_ n1_ n2_ n3_ n4_ n5_ n6_; clear hb hbox hg; have hnb48 := NB157_158.out; have hnc48 := NB158_157.out; have hcz49_0 : w47.cell? ⟨gb157, 0, none⟩ = some (.int .i64 a0_0) := (blk_cell BK157.out 0).trans rfl; have hcz49_1 : w47.cell? ⟨gb157, 1, none⟩ = some (.int .i64 a0_1) := (blk_cell BK157.out 1).trans rfl; have hcz49_2 : w47.cell? ⟨gb157, 2, none⟩ = some (.int .i64 a0_2) := (blk_cell BK157.out 2).trans rfl; have hcz49_3 : w47.cell? ⟨gb157, 3, none⟩ = some (.int .i64 a0_3) := (blk_cell BK157.out 3).trans rfl; have hcz49_4 : w47.cell? ⟨gb157, 4, none⟩ = some (.string a0_4) := (blk_cell BK157.out 4).trans rfl; have hcz49_5 : w47.cell? ⟨gb157, 5, none⟩ = some (.bool a0_5) := (blk_cell BK157.out 5).trans rfl; have hcz49_6 : w47.cell? ⟨gb157, 6, none⟩ = some (.slice A0_6 l0_6.length c0_6) := (blk_cell BK157.out 6).trans rfl; have hcz49_7 : w47.cell? ⟨gb157, 7, none⟩ = some (.bool a0_7) := (blk_cell BK157.out 7).trans rfl; have hfz49_0 := blk_frozen BK157.out 0; have hfz49_1 := blk_frozen BK157.out 1; have hfz49_2 := blk_frozen BK157.out 2; have hfz49_3 := blk_frozen BK157.out 3; have hfz49_4 := blk_frozen BK157.out 4; have hfz49_5 := blk_frozen BK157.out 5; have hfz49_6 := blk_frozen BK157.out 6; have hfz49_7 := blk_frozen BK157.out 7; have hcz50_0 : w47.cell? ⟨gb158, 0, none⟩ = some (.int .i64 a1_0) := (blk_cell BK158.out 0).trans rfl; have hcz50_1 : w47.cell? ⟨gb158, 1, none⟩ = some (.int .i64 a1_1) := (blk_cell BK158.out 1).trans rfl; have hcz50_2 : w47.cell? ⟨gb158, 2, none⟩ = some (.int .i64 a1_2) := (blk_cell BK158.out 2).trans rfl; have hcz50_3 : w47.cell? ⟨gb158, 3, none⟩ = some (.int .i64 a1_3) := (blk_cell BK158.out 3).trans rfl; have hcz50_4 : w47.cell? ⟨gb158, 4, none⟩ = some (.string a1_4) := (blk_cell BK158.out 4).trans rfl; have hcz50_5 : w47.cell? ⟨gb158, 5, none⟩ = some (.bool a1_5) := (blk_cell BK158.out 5).trans rfl; have hcz50_6 : w47.cell? ⟨gb158, 6, none⟩ = some (.slice A1_6 l1_6.length c1_6) := (blk_cell BK158.out 6).trans rfl; have hcz50_7 : w47.cell? ⟨gb158, 7, none⟩ = some (.bool a1_7) := (blk_cell BK158.out 7).trans rfl; have hfz50_0 := blk_frozen BK158.out 0; have hfz50_1 := blk_frozen BK158.out 1; have hfz50_2 := blk_frozen BK158.out 2; have hfz50_3 := blk_frozen BK158.out 3; have hfz50_4 := blk_frozen BK158.out 4; have hfz50_5 := blk_frozen BK158.out 5; have hfz50_6 := blk_frozen BK158.out 6; have hfz50_7 := blk_frozen BK158.out 7))
    go_ret
    exact ⟨by first | rfl | (simp [errW_none, errW_some] <;> rfl) | (simp [*, errW_none, errW_some] <;> rfl), by repeat (first | (with_reducible first | exact HB.out | apply below_alloc | apply pw_below_drewN | apply below_drew1 | refine below_set ?_ GE157.out | refine below_set ?_ GE158.out) | exact HB.out)⟩
def stanchionref16_small.f (a0 : Int) : Option (Bool) := if a0 ≥ 0 then (some (decide (a0 ≤ 1073741824))) else (some false)
set_option maxHeartbeats 8000000 in
set_option maxRecDepth 100000 in
theorem stanchionref16_small.calls (a0 : Int) (r : Bool) (w : World) (h : stanchionref16_small.f a0 = some r) :
    Calls Tryd.prog 31 #[.int .i64 a0] w fun e w' => e = .returned (.bool r) ∧ Drawn0 w w' := by
  have H : (if a0 ≥ 0 then (some (decide (a0 ≤ 1073741824))) else (some false)) = some r := h
  clear h
  by_cases c2 : a0 ≥ 0
  · rw [if_pos c2] at H
    have c2b0 : decide (0 ≤ a0) = true := decide_eq_true c2
    clear c2
    obtain rfl := Option.some.inj H
    go_enter Tryd.func31, Tryd.ntmps31
    go_wp2
    go_ret
    exact ⟨by first | rfl | (simp; done) | (simp [*]; done), by repeat (first | exact Drawn0.refl _ | apply Drawn0.step)⟩
  · rw [if_neg c2] at H
    have c2b0 : decide (0 ≤ a0) = false := decide_eq_false c2
    clear c2
    obtain rfl := Option.some.inj H
    go_enter Tryd.func31, Tryd.ntmps31
    go_wp2
    go_ret
    exact ⟨by first | rfl | (simp; done) | (simp [*]; done), by repeat (first | exact Drawn0.refl _ | apply Drawn0.step)⟩
end Go.Proofs.YtlpcidjmaeicoaaDoor.QWi
namespace Go.Proofs.YtlpcidjmaeicoaaDoor.QWi
open Go.RowKit Go.Proofs.YtlpcidjmaeicoaaDoorW.PrintWords Go.Proofs.YtlpcidjmaeicoaaDoorW.PrintLast Go.Proofs.YtlpcidjmaeicoaaDoorW.PrintMore
attribute [local go_sem] max2_int min2_int max_two min_two max_three min_three max_four min_four
set_option linter.unusedVariables false
set_option linter.unusedSimpArgs false
mutual
def stanchionref01_Less.l0 : Nat → ByteArray → ByteArray → Int → Option (Bool)
  | 0, _, _, _ => none
  | k + 1, x0, x1, x5 => if x5 < (x0.size : Int) then (stanchionref01_Less.j1 k x0 x1 x5 (decide (x5 < (x1.size : Int)))) else (stanchionref01_Less.j1 k x0 x1 x5 false)
def stanchionref01_Less.j1 : Nat → ByteArray → ByteArray → Int → Bool → Option (Bool)
  | 0, _, _, _, _ => none
  | k + 1, x0, x1, x5, x15 => if x15 = true then (if 0 ≤ x5 then (if x5 < (x0.size : Int) then (if x5 < (x1.size : Int) then (if (bt x0 x5) = (bt x1 x5) then (stanchionref01_Less.l0 k x0 x1 (wrap64 (x5 + 1))) else (some (decide ((bt x0 x5) < (bt x1 x5))))) else (none)) else (none)) else (none)) else (some (decide ((x0.size : Int) < (x1.size : Int))))
end
def stanchionref01_Less.f (k : Nat) (a0 : ByteArray) (a1 : ByteArray) : Option (Bool) := stanchionref01_Less.l0 k a0 a1 0
set_option maxHeartbeats 8000000 in
set_option maxRecDepth 100000 in
theorem stanchionref01_Less.calls (k : Nat) (a0 : ByteArray) (a1 : ByteArray) (r : Bool) (w : World) (h : stanchionref01_Less.f k a0 a1 = some r) :
    Calls Tryd.prog 64 #[.string a0, .string a1] w fun e w' => e = .returned (.bool r) ∧ Drawn0 w w' := by
  have H : (stanchionref01_Less.l0 k a0 a1 0) = some r := h
  clear h
  have H' := Aside0.mk H
  clear H
  go_enter Tryd.func64, Tryd.ntmps64
  go_wp2
  repeat (go_quiet (fail); try go_wp2)
  go_loopg [5] k (fun kq v5 w' => ∃ (x5_1 : Int), v5 = .int .i64 x5_1 ∧ Aside0 (stanchionref01_Less.l0 kq a0 a1 x5_1 = some r) ∧ Aside0 (kq ≤ k) ∧ Drawn0 w w')
  case atStart => exact ⟨(0), (by first | rfl | (simp; done) | (simp [*]; done)), H', ⟨Nat.le_refl _⟩, by repeat (first | exact Drawn0.refl _ | apply Drawn0.step)⟩
  case round =>
    clear H'
    try clear p2
    obtain ⟨x5_1, rfl, HA, HK1, ⟨m1, rfl⟩⟩ := hrel
    cases gk with
    | zero => exact absurd HA.out (by simp [stanchionref01_Less.l0])
    | succ k1 =>
      have H := HA.out
      clear HA
      simp only [stanchionref01_Less.l0] at H
      have HC3 := Aside0.mk H
      clear H
      go_upto_region 2 with (fail)
      repeat (go_quiet (fail); go_upto_region 2 with (fail))
      go_cut [15] (fun v15 wc => ∃ (kq : Nat) (x15_2 : Bool), v15 = .bool x15_2 ∧ Aside0 (stanchionref01_Less.j1 kq a0 a1 x5_1 x15_2 = some r) ∧ Aside0 (kq ≤ k1) ∧ Drawn0 w wc)
      case first =>
        have H := HC3.out
        clear HC3
        by_cases c4 : x5_1 < (a0.size : Int)
        · rw [if_pos c4] at H
          have c4b0 : decide (x5_1 < (a0.size : Int)) = true := decide_eq_true c4
          clear c4
          (first | rw [c4b0] | (simp only [i64_w, i32_w]; rw [c4b0]) | skip)
          have H' := Aside0.mk H
          clear H
          go_wp2
          repeat (go_quiet (fail); try go_wp2)
          go_meet
          case rel => exact ⟨_, (decide (x5_1 < (a1.size : Int))), (by first | rfl | (simp; done) | (simp [*]; done)), H', ⟨by have := HK1.out; first | omega | exact Nat.le_refl _⟩, by repeat (first | exact Drawn0.refl _ | apply Drawn0.step)⟩
        · rw [if_neg c4] at H
          have c4b0 : decide (x5_1 < (a0.size : Int)) = false := decide_eq_false c4
          clear c4
          (first | rw [c4b0] | (simp only [i64_w, i32_w]; rw [c4b0]) | skip)
          have H' := Aside0.mk H
          clear H
          go_wp2
          repeat (go_quiet (fail); try go_wp2)
          go_meet
          case rel => exact ⟨_, (false), (by first | rfl | (simp; done) | (simp [*]; done)), H', ⟨by have := HK1.out; first | omega | exact Nat.le_refl _⟩, by repeat (first | exact Drawn0.refl _ | apply Drawn0.step)⟩
      case rest =>
        clear HC3
        try clear p2
        try clear c4
        try clear c4b0
        try clear p2
        obtain ⟨kq, x15_2, rfl, HA, HJ2, ⟨mc2, rfl⟩⟩ := hcut
        cases kq with
        | zero => exact absurd HA.out (by simp [stanchionref01_Less.j1])
        | succ kj2 =>
          have H := HA.out
          clear HA
          simp only [stanchionref01_Less.j1] at H
          by_cases c5 : x15_2 = true
          · subst c5
            have H1 : (if 0 ≤ x5_1 then (if x5_1 < (a0.size : Int) then (if x5_1 < (a1.size : Int) then (if (bt a0 x5_1) = (bt a1 x5_1) then (stanchionref01_Less.l0 kj2 a0 a1 (wrap64 (x5_1 + 1))) else (some (decide ((bt a0 x5_1) < (bt a1 x5_1))))) else (none)) else (none)) else (none)) = some r := by rw [if_pos rfl] at H; exact H
            clear H
            have H := H1
            clear H1
            by_cases c6 : 0 ≤ x5_1
            · rw [if_pos c6] at H
              have c6b0 : decide (0 ≤ x5_1) = true := decide_eq_true c6
              clear c6
              by_cases c7 : x5_1 < (a0.size : Int)
              · rw [if_pos c7] at H
                have c7b0 : decide (x5_1 < (a0.size : Int)) = true := decide_eq_true c7
                clear c7
                by_cases c9 : x5_1 < (a1.size : Int)
                · rw [if_pos c9] at H
                  have c9b0 : decide (x5_1 < (a1.size : Int)) = true := decide_eq_true c9
                  clear c9
                  by_cases c11 : (bt a0 x5_1) = (bt a1 x5_1)
                  · rw [if_pos c11] at H
                    have c11b0 : ((bt a0 x5_1) == (bt a1 x5_1)) = true := beq_iff_eq.mpr c11
                    have c11b1 : ((bt a0 x5_1) != (bt a1 x5_1)) = false := bne_eq_false_iff_eq.mpr c11
                    clear c11
                    have H' := Aside0.mk H
                    clear H
                    have p8 : 0 ≤ (x5_1 : Int) := of_decide_eq_true (by first | (with_reducible assumption) | assumption)
                    have q8 : x5_1 < (a0.size : Int) := of_decide_eq_true (by first | (with_reducible assumption) | assumption)
                    have hx8 := bt_at a0 x5_1
                    replace p8 := eq_true p8
                    replace q8 := eq_true q8
                    have p10 : 0 ≤ (x5_1 : Int) := of_decide_eq_true (by first | (with_reducible assumption) | assumption)
                    have q10 : x5_1 < (a1.size : Int) := of_decide_eq_true (by first | (with_reducible assumption) | assumption)
                    have hx10 := bt_at a1 x5_1
                    replace p10 := eq_true p10
                    replace q10 := eq_true q10
                    go_wp2
                    repeat (go_quiet (fail); try go_wp2)
                    go_roundg kj2
                    case measure => have := HK1.out; have := HJ2.out; omega
                    case rel => exact ⟨(wrap64 (x5_1 + 1)), (by first | rfl | (simp; done) | (simp [*]; done)), H', ⟨by have := HK1.out; have := HJ2.out; omega⟩, by repeat (first | exact Drawn0.refl _ | apply Drawn0.step)⟩
                  · rw [if_neg c11] at H
                    have c11b0 : ((bt a0 x5_1) == (bt a1 x5_1)) = false := beq_eq_false_iff_ne.mpr c11
                    have c11b1 : ((bt a0 x5_1) != (bt a1 x5_1)) = true := bne_iff_ne.mpr c11
                    obtain rfl := Option.some.inj H
                    have p8 : 0 ≤ (x5_1 : Int) := of_decide_eq_true (by first | (with_reducible assumption) | assumption)
                    have q8 : x5_1 < (a0.size : Int) := of_decide_eq_true (by first | (with_reducible assumption) | assumption)
                    have hx8 := bt_at a0 x5_1
                    replace p8 := eq_true p8
                    replace q8 := eq_true q8
                    have p10 : 0 ≤ (x5_1 : Int) := of_decide_eq_true (by first | (with_reducible assumption) | assumption)
                    have q10 : x5_1 < (a1.size : Int) := of_decide_eq_true (by first | (with_reducible assumption) | assumption)
                    have hx10 := bt_at a1 x5_1
                    replace p10 := eq_true p10
                    replace q10 := eq_true q10
                    have p12 : 0 ≤ (x5_1 : Int) := of_decide_eq_true (by first | (with_reducible assumption) | assumption)
                    have q12 : x5_1 < (a0.size : Int) := of_decide_eq_true (by first | (with_reducible assumption) | assumption)
                    have hx12 := bt_at a0 x5_1
                    replace p12 := eq_true p12
                    replace q12 := eq_true q12
                    have p13 : 0 ≤ (x5_1 : Int) := of_decide_eq_true (by first | (with_reducible assumption) | assumption)
                    have q13 : x5_1 < (a1.size : Int) := of_decide_eq_true (by first | (with_reducible assumption) | assumption)
                    have hx13 := bt_at a1 x5_1
                    replace p13 := eq_true p13
                    replace q13 := eq_true q13
                    go_wp2
                    repeat (go_quiet (fail); try go_wp2)
                    go_ret
                    exact ⟨by first | rfl | (simp; done) | (simp [*]; done), by repeat (first | exact Drawn0.refl _ | apply Drawn0.step)⟩
                · rw [if_neg c9] at H
                  exact absurd H (by simp)
              · rw [if_neg c7] at H
                exact absurd H (by simp)
            · rw [if_neg c6] at H
              exact absurd H (by simp)
          · replace c5 := Bool.eq_false_iff.mpr c5
            subst c5
            have H1 : (some (decide ((a0.size : Int) < (a1.size : Int)))) = some r := by rw [if_neg (show ¬ (false = true) by decide)] at H; exact H
            clear H
            have H := H1
            clear H1
            obtain rfl := Option.some.inj H
            go_wp2
            repeat (go_quiet (fail); try go_wp2)
            go_ret
            exact ⟨by first | rfl | (simp; done) | (simp [*]; done), by repeat (first | exact Drawn0.refl _ | apply Drawn0.step)⟩
def stanchionref05_Right.l0 : Nat → List (S74) → Int → Option (Bool)
  | 0, _, _ => none
  | k + 1, x0, x3 => if x3 < (x0.length : Int) then (if 0 ≤ (wrap64 (x3 - 1)) then (if (wrap64 (x3 - 1)) < (x0.length : Int) then (if 0 ≤ x3 then ((stanchionref01_Less.f k ((rd_T74 x0 (wrap64 (x3 - 1))).f0) ((rd_T74 x0 x3).f0)).bind fun t182 => (if t182 = true then (stanchionref05_Right.l0 k x0 (wrap64 (x3 + 1))) else (some false))) else (none)) else (none)) else (none)) else (some true)
def stanchionref05_Right.f (k : Nat) (l0 : List (S74)) : Option (Bool) := stanchionref05_Right.l0 k l0 1
set_option maxHeartbeats 8000000 in
set_option maxRecDepth 100000 in
theorem stanchionref05_Right.calls (k : Nat) (A0 : Option Addr) (c0 : Nat) (l0 : List (S74)) (r : Bool) (w : World) (hr0 : Kd.C k74 w A0 l0.length l0) (hc0 : l0.length ≤ c0) (h : stanchionref05_Right.f k l0 = some r) :
    Calls Tryd.prog 54 #[.slice A0 l0.length c0] w fun e w' => e = .returned (.bool r) ∧ Drawn0 w w' := by
  have HR0 := Aside0.mk hr0
  have HC0 := Aside0.mk hc0
  clear hr0 hc0
  have H : (stanchionref05_Right.l0 k l0 1) = some r := h
  clear h
  have H' := Aside0.mk H
  clear H
  go_enter Tryd.func54, Tryd.ntmps54
  go_wp2
  repeat (go_quiet (fail); try go_wp2)
  go_loopg [3] k (fun kq v3 w' => ∃ (x3_1 : Int), v3 = .int .i64 x3_1 ∧ Aside0 (stanchionref05_Right.l0 kq l0 x3_1 = some r) ∧ Aside0 (kq ≤ k) ∧ Drawn0 w w')
  case atStart => exact ⟨(1), (by first | rfl | (simp; done) | (simp [*]; done)), H', ⟨Nat.le_refl _⟩, by repeat (first | exact Drawn0.refl _ | apply Drawn0.step)⟩
  case round =>
    clear H'
    obtain ⟨x3_1, rfl, HA, HK1, ⟨m1, rfl⟩⟩ := hrel
    cases gk with
    | zero => exact absurd HA.out (by simp [stanchionref05_Right.l0])
    | succ k1 =>
      have H := HA.out
      clear HA
      simp only [stanchionref05_Right.l0] at H
      by_cases c2 : x3_1 < (l0.length : Int)
      · rw [if_pos c2] at H
        have c2b0 : decide (x3_1 < (l0.length : Int)) = true := decide_eq_true c2
        clear c2
        obtain ⟨ji3, hji3⟩ : ∃ j_ : Int, (wrap64 (x3_1 - 1)) = j_ := ⟨_, rfl⟩
        replace H : (if 0 ≤ (ji3) then (if (ji3) < (l0.length : Int) then (if 0 ≤ x3_1 then ((stanchionref01_Less.f k1 ((rd_T74 l0 (ji3)).f0) ((rd_T74 l0 x3_1).f0)).bind fun t182 => (if t182 = true then (stanchionref05_Right.l0 k1 l0 (wrap64 (x3_1 + 1))) else (some false))) else (none)) else (none)) else (none)) = some r := by first | (rw [hji3] at H; exact H) | (simp only [hji3] at H ⊢; exact H)
        have hji3w : (IntKind.i64.wrap (x3_1 - 1)) = ji3 := (i64_w _).trans hji3
        by_cases c4 : 0 ≤ (ji3)
        · rw [if_pos c4] at H
          have c4b0 : decide (0 ≤ (ji3)) = true := decide_eq_true c4
          clear c4
          by_cases c5 : (ji3) < (l0.length : Int)
          · rw [if_pos c5] at H
            have c5b0 : decide ((ji3) < (l0.length : Int)) = true := decide_eq_true c5
            clear c5
            by_cases c6 : 0 ≤ x3_1
            · rw [if_pos c6] at H
              have c6b0 : decide (0 ≤ x3_1) = true := decide_eq_true c6
              clear c6
              replace H := Option.bind_eq_some_iff.mp H
              obtain ⟨t182, A70, H⟩ := H
              replace H : (if t182 = true then (stanchionref05_Right.l0 k1 l0 (wrap64 (x3_1 + 1))) else (some false)) = some r := H
              have A7 := Aside0.mk A70
              clear A70
              by_cases c8 : t182 = true
              · subst c8
                have H1 : (stanchionref05_Right.l0 k1 l0 (wrap64 (x3_1 + 1))) = some r := by rw [if_pos rfl] at H; exact H
                clear H
                have H := H1
                clear H1
                have H' := Aside0.mk H
                clear H
                have p180 : 0 ≤ ((ji3) : Int) := of_decide_eq_true (by first | (with_reducible assumption) | assumption)
                have q180 : (ji3) < (l0.length : Int) := of_decide_eq_true (by first | (with_reducible assumption) | assumption)
                obtain ⟨ad180, e180, hx180_0, hx180_1⟩ := at_T74 HR0.out (ji3) p180 q180
                cases e180
                replace p180 := eq_true p180
                replace q180 := eq_true q180
                have p181 : 0 ≤ (x3_1 : Int) := of_decide_eq_true (by first | (with_reducible assumption) | assumption)
                have q181 : x3_1 < (l0.length : Int) := of_decide_eq_true (by first | (with_reducible assumption) | assumption)
                obtain ⟨ad181, e181, hx181_0, hx181_1⟩ := at_T74 HR0.out x3_1 p181 q181
                obtain rfl : ad180 = ad181 := (by injection e181)
                replace p181 := eq_true p181
                replace q181 := eq_true q181
                go_wp2_with (first | (go_at_call 64; (with_reducible refine (stanchionref01_Less.calls k1 ((rd_T74 l0 (ji3)).f0) ((rd_T74 l0 x3_1).f0) true _ A7.out).mono ?_); rintro e w' ⟨rfl, ⟨nd, rfl⟩⟩; (try first | exact ⟨rfl, _, World.drewN_drewN _ _ _⟩ | exact ⟨rfl, _, Eq.trans (World.drewN_drewN _ _ _) (congrArg (World.drewN _) (Nat.add_assoc _ _ _))⟩)))
                repeat (go_quiet (first | (go_at_call 64; (with_reducible refine (stanchionref01_Less.calls k1 ((rd_T74 l0 (ji3)).f0) ((rd_T74 l0 x3_1).f0) true _ A7.out).mono ?_); rintro e w' ⟨rfl, ⟨nd, rfl⟩⟩; (try first | exact ⟨rfl, _, World.drewN_drewN _ _ _⟩ | exact ⟨rfl, _, Eq.trans (World.drewN_drewN _ _ _) (congrArg (World.drewN _) (Nat.add_assoc _ _ _))⟩))); try go_wp2_with (first | (go_at_call 64; (with_reducible refine (stanchionref01_Less.calls k1 ((rd_T74 l0 (ji3)).f0) ((rd_T74 l0 x3_1).f0) true _ A7.out).mono ?_); rintro e w' ⟨rfl, ⟨nd, rfl⟩⟩; (try first | exact ⟨rfl, _, World.drewN_drewN _ _ _⟩ | exact ⟨rfl, _, Eq.trans (World.drewN_drewN _ _ _) (congrArg (World.drewN _) (Nat.add_assoc _ _ _))⟩))))
                go_roundg k1
                case measure => have := HK1.out; omega
                case rel => exact ⟨(wrap64 (x3_1 + 1)), (by first | rfl | (simp; done) | (simp [*]; done)), H', ⟨by have := HK1.out; omega⟩, by repeat (first | exact Drawn0.refl _ | apply Drawn0.step)⟩
              · replace c8 := Bool.eq_false_iff.mpr c8
                subst c8
                have H1 : (some false) = some r := by rw [if_neg (show ¬ (false = true) by decide)] at H; exact H
                clear H
                have H := H1
                clear H1
                obtain rfl := Option.some.inj H
                have p180 : 0 ≤ ((ji3) : Int) := of_decide_eq_true (by first | (with_reducible assumption) | assumption)
                have q180 : (ji3) < (l0.length : Int) := of_decide_eq_true (by first | (with_reducible assumption) | assumption)
                obtain ⟨ad180, e180, hx180_0, hx180_1⟩ := at_T74 HR0.out (ji3) p180 q180
                cases e180
                replace p180 := eq_true p180
                replace q180 := eq_true q180
                have p181 : 0 ≤ (x3_1 : Int) := of_decide_eq_true (by first | (with_reducible assumption) | assumption)
                have q181 : x3_1 < (l0.length : Int) := of_decide_eq_true (by first | (with_reducible assumption) | assumption)
                obtain ⟨ad181, e181, hx181_0, hx181_1⟩ := at_T74 HR0.out x3_1 p181 q181
                obtain rfl : ad180 = ad181 := (by injection e181)
                replace p181 := eq_true p181
                replace q181 := eq_true q181
                go_wp2_with (first | (go_at_call 64; (with_reducible refine (stanchionref01_Less.calls k1 ((rd_T74 l0 (ji3)).f0) ((rd_T74 l0 x3_1).f0) false _ A7.out).mono ?_); rintro e w' ⟨rfl, ⟨nd, rfl⟩⟩; (try first | exact ⟨rfl, _, World.drewN_drewN _ _ _⟩ | exact ⟨rfl, _, Eq.trans (World.drewN_drewN _ _ _) (congrArg (World.drewN _) (Nat.add_assoc _ _ _))⟩)))
                repeat (go_quiet (first | (go_at_call 64; (with_reducible refine (stanchionref01_Less.calls k1 ((rd_T74 l0 (ji3)).f0) ((rd_T74 l0 x3_1).f0) false _ A7.out).mono ?_); rintro e w' ⟨rfl, ⟨nd, rfl⟩⟩; (try first | exact ⟨rfl, _, World.drewN_drewN _ _ _⟩ | exact ⟨rfl, _, Eq.trans (World.drewN_drewN _ _ _) (congrArg (World.drewN _) (Nat.add_assoc _ _ _))⟩))); try go_wp2_with (first | (go_at_call 64; (with_reducible refine (stanchionref01_Less.calls k1 ((rd_T74 l0 (ji3)).f0) ((rd_T74 l0 x3_1).f0) false _ A7.out).mono ?_); rintro e w' ⟨rfl, ⟨nd, rfl⟩⟩; (try first | exact ⟨rfl, _, World.drewN_drewN _ _ _⟩ | exact ⟨rfl, _, Eq.trans (World.drewN_drewN _ _ _) (congrArg (World.drewN _) (Nat.add_assoc _ _ _))⟩))))
                go_ret
                exact ⟨by first | rfl | (simp; done) | (simp only [← hji3] <;> (first | rfl | simp)) | (simp [*]; done), by repeat (first | exact Drawn0.refl _ | apply Drawn0.step)⟩
            · rw [if_neg c6] at H
              exact absurd H (by simp)
          · rw [if_neg c5] at H
            exact absurd H (by simp)
        · rw [if_neg c4] at H
          exact absurd H (by simp)
      · rw [if_neg c2] at H
        have c2b0 : decide (x3_1 < (l0.length : Int)) = false := decide_eq_false c2
        clear c2
        obtain rfl := Option.some.inj H
        go_wp2
        repeat (go_quiet (fail); try go_wp2)
        go_ret
        exact ⟨by first | rfl | (simp; done) | (simp [*]; done), by repeat (first | exact Drawn0.refl _ | apply Drawn0.step)⟩
end Go.Proofs.YtlpcidjmaeicoaaDoor.QWi
namespace Go.Proofs.YtlpcidjmaeicoaaDoor.QWi
open Go.RowKit Go.Proofs.YtlpcidjmaeicoaaDoorW.PrintWords Go.Proofs.YtlpcidjmaeicoaaDoorW.PrintLast Go.Proofs.YtlpcidjmaeicoaaDoorW.PrintMore
attribute [local go_sem] max2_int min2_int max_two min_two max_three min_three max_four min_four
set_option linter.unusedVariables false
set_option linter.unusedSimpArgs false
mutual
def stanchionref16_mayReply.j0 : Nat → Bool → Int → Int → Int → Int → ByteArray → Bool → List (S74) → Bool → Option (Bool)
  | 0, _, _, _, _, _, _, _, _, _ => none
  | k + 1, x3, x184000, x184001, x184002, x184003, x184004, x184005, x184006, x184007 => (stanchionref16_small.f x184002).bind fun t186 => (if t186 = true then ((stanchionref05_Right.f k x184006).bind fun t187 => (stanchionref16_mayReply.j1 k x3 t187 x184000 x184001 x184002 x184003 x184004 x184005 x184006 x184007)) else (stanchionref16_mayReply.j1 k x3 false x184000 x184001 x184002 x184003 x184004 x184005 x184006 x184007))
def stanchionref16_mayReply.j1 : Nat → Bool → Bool → Int → Int → Int → Int → ByteArray → Bool → List (S74) → Bool → Option (Bool)
  | 0, _, _, _, _, _, _, _, _, _, _ => none
  | k + 1, x3, x4, x184000, x184001, x184002, x184003, x184004, x184005, x184006, x184007 => if x3 = true then (if x4 = true then (if x184003 < 0 then (stanchionref16_mayReply.j2 k true x184000 x184001 x184002 x184003 x184004 x184005 x184006 x184007) else (if x184003 > 16 then (stanchionref16_mayReply.j2 k true x184000 x184001 x184002 x184003 x184004 x184005 x184006 x184007) else (if (x184004.size : Int) > 64 then (stanchionref16_mayReply.j2 k true x184000 x184001 x184002 x184003 x184004 x184005 x184006 x184007) else (stanchionref16_mayReply.j2 k (decide ((x184006.length : Int) > 16)) x184000 x184001 x184002 x184003 x184004 x184005 x184006 x184007)))) else (stanchionref16_mayReply.j2 k true x184000 x184001 x184002 x184003 x184004 x184005 x184006 x184007)) else (stanchionref16_mayReply.j2 k true x184000 x184001 x184002 x184003 x184004 x184005 x184006 x184007)
def stanchionref16_mayReply.j2 : Nat → Bool → Int → Int → Int → Int → ByteArray → Bool → List (S74) → Bool → Option (Bool)
  | 0, _, _, _, _, _, _, _, _, _ => none
  | k + 1, x49, x184000, x184001, x184002, x184003, x184004, x184005, x184006, x184007 => if x49 = true then (some false) else (stanchionref16_mayReply.l0 k 0 x184000 x184001 x184002 x184003 x184004 x184005 x184006 x184007)
def stanchionref16_mayReply.l0 : Nat → Int → Int → Int → Int → Int → ByteArray → Bool → List (S74) → Bool → Option (Bool)
  | 0, _, _, _, _, _, _, _, _, _ => none
  | k + 1, x5, x184000, x184001, x184002, x184003, x184004, x184005, x184006, x184007 => if x5 < (x184006.length : Int) then (if 0 ≤ x5 then (if (((rd_T74 x184006 x5).f0).size : Int) > 32 then (some false) else (if (((rd_T74 x184006 x5).f1).size : Int) > 64 then (some false) else (stanchionref16_mayReply.l0 k (wrap64 (x5 + 1)) x184000 x184001 x184002 x184003 x184004 x184005 x184006 x184007))) else (none)) else (some true)
end
def stanchionref16_mayReply.f (k : Nat) (a0_0 : Int) (a0_1 : Int) (a0_2 : Int) (a0_3 : Int) (a0_4 : ByteArray) (a0_5 : Bool) (l0_6 : List (S74)) (a0_7 : Bool) : Option (Bool) := (stanchionref16_small.f a0_0).bind fun t184 => (if t184 = true then ((stanchionref16_small.f a0_1).bind fun t185 => (stanchionref16_mayReply.j0 k t185 a0_0 a0_1 a0_2 a0_3 a0_4 a0_5 l0_6 a0_7)) else (stanchionref16_mayReply.j0 k false a0_0 a0_1 a0_2 a0_3 a0_4 a0_5 l0_6 a0_7))
set_option maxHeartbeats 8000000 in
set_option maxRecDepth 100000 in
theorem stanchionref16_mayReply.calls (k : Nat) (a0_0 : Int) (a0_1 : Int) (a0_2 : Int) (a0_3 : Int) (a0_4 : ByteArray) (a0_5 : Bool) (A0_6 : Option Addr) (c0_6 : Nat) (l0_6 : List (S74)) (a0_7 : Bool) (r : Bool) (w : World) (hr0_6 : Kd.C k74 w A0_6 l0_6.length l0_6) (hc0_6 : l0_6.length ≤ c0_6) (h : stanchionref16_mayReply.f k a0_0 a0_1 a0_2 a0_3 a0_4 a0_5 l0_6 a0_7 = some r) :
    Calls Tryd.prog 34 #[.agg #[.int .i64 a0_0, .int .i64 a0_1, .int .i64 a0_2, .int .i64 a0_3, .string a0_4, .bool a0_5, .slice A0_6 l0_6.length c0_6, .bool a0_7]] w fun e w' => e = .returned (.bool r) ∧ Below w.heap.size w w' := by
  have hu41 := Tryd.underlying41
  have HR0_6 := Aside0.mk hr0_6
  have HC0_6 := Aside0.mk hc0_6
  clear hr0_6 hc0_6
  have HB := Aside0.mk (Below.refl w.heap.size w)
  have H : ((stanchionref16_small.f a0_0).bind fun t184 => (if t184 = true then ((stanchionref16_small.f a0_1).bind fun t185 => (stanchionref16_mayReply.j0 k t185 a0_0 a0_1 a0_2 a0_3 a0_4 a0_5 l0_6 a0_7)) else (stanchionref16_mayReply.j0 k false a0_0 a0_1 a0_2 a0_3 a0_4 a0_5 l0_6 a0_7))) = some r := h
  clear h
  have HC2 := Aside0.mk H
  clear H
  go_enter Tryd.func34, Tryd.ntmps34
  go_upto_region 1 with (first | ((with_reducible refine gate_dst (N := 1) rfl ?_); (try (refine gate_guard (by rfl) ?_; dsimp only)); refine box_event ?hg (N := 1) ?hd (cs := #[.int .i64 a0_0, .int .i64 a0_1, .int .i64 a0_2, .int .i64 a0_3, .string a0_4, .bool a0_5, .slice A0_6 l0_6.length c0_6, .bool a0_7]) (t := 41) ?hr ?_; (case hd => rfl); (case hg => rfl); (case hr => first | (go_simp; done) | (go_simp; rfl)); intro gb183 hg w3 hbox hb; have n0_ := Aside0.mk (below_step (by repeat (first | (with_reducible first | exact HB.out | apply below_alloc | apply pw_below_drewN | apply below_drew1) | exact HB.out)) hb); have n1_ := Aside0.mk (hbox); have n2_ := Aside0.mk ((by rw [hg]; exact (below_size (by repeat (first | (with_reducible first | exact HB.out | apply below_alloc | apply pw_below_drewN | apply below_drew1) | exact HB.out))) : w.heap.size ≤ gb183)); have n3_ := Aside0.mk ((by rw [hg]; exact (below_size (by repeat (first | (with_reducible first | exact HB.out | apply below_alloc | apply pw_below_drewN | apply below_drew1) | exact HB.out))) : w.heap.size ≤ gb183)); clear HB; have HB := n0_; have BK183 := n1_; have GW183 := n2_; have GE183 := n3_; clear n0_ n1_ n2_ n3_; clear hb hbox hg))
  (try simp only [Act.put, List.setIfInBounds_toArray, List.set_cons_zero, List.set_cons_succ])
  go_cut [3] (fun v3 wc => ∃ (kq : Nat) (x3_1 : Bool), v3 = .bool x3_1 ∧ Aside0 (stanchionref16_mayReply.j0 kq x3_1 a0_0 a0_1 a0_2 a0_3 a0_4 a0_5 l0_6 a0_7 = some r) ∧ Aside0 (kq ≤ k) ∧ Aside0 (wc.heap[gb183]? = some (.cells #[.int .i64 a0_0, .int .i64 a0_1, .int .i64 a0_2, .int .i64 a0_3, .string a0_4, .bool a0_5, (.slice A0_6 l0_6.length c0_6), .bool a0_7] 41 (0, 0))) ∧ Aside0 (Below w.heap.size w wc))
  case first =>
    have H := HC2.out
    clear HC2
    replace H := Option.bind_eq_some_iff.mp H
    obtain ⟨t184, A40, H⟩ := H
    replace H : (if t184 = true then ((stanchionref16_small.f a0_1).bind fun t185 => (stanchionref16_mayReply.j0 k t185 a0_0 a0_1 a0_2 a0_3 a0_4 a0_5 l0_6 a0_7)) else (stanchionref16_mayReply.j0 k false a0_0 a0_1 a0_2 a0_3 a0_4 a0_5 l0_6 a0_7)) = some r := H
    have A4 := Aside0.mk A40
    clear A40
    by_cases c5 : t184 = true
    · subst c5
      have H1 : ((stanchionref16_small.f a0_1).bind fun t185 => (stanchionref16_mayReply.j0 k t185 a0_0 a0_1 a0_2 a0_3 a0_4 a0_5 l0_6 a0_7)) = some r := by rw [if_pos rfl] at H; exact H
      clear H
      have H := H1
      clear H1
      replace H := Option.bind_eq_some_iff.mp H
      obtain ⟨t185, A60, H⟩ := H
      replace H : (stanchionref16_mayReply.j0 k t185 a0_0 a0_1 a0_2 a0_3 a0_4 a0_5 l0_6 a0_7) = some r := H
      have A6 := Aside0.mk A60
      clear A60
      have H' := Aside0.mk H
      clear H
      have hcz7_0 : w3.cell? ⟨gb183, 0, none⟩ = some (.int .i64 a0_0) := (blk_cell BK183.out 0).trans rfl
      have hcz7_1 : w3.cell? ⟨gb183, 1, none⟩ = some (.int .i64 a0_1) := (blk_cell BK183.out 1).trans rfl
      have hcz7_2 : w3.cell? ⟨gb183, 2, none⟩ = some (.int .i64 a0_2) := (blk_cell BK183.out 2).trans rfl
      have hcz7_3 : w3.cell? ⟨gb183, 3, none⟩ = some (.int .i64 a0_3) := (blk_cell BK183.out 3).trans rfl
      have hcz7_4 : w3.cell? ⟨gb183, 4, none⟩ = some (.string a0_4) := (blk_cell BK183.out 4).trans rfl
      have hcz7_5 : w3.cell? ⟨gb183, 5, none⟩ = some (.bool a0_5) := (blk_cell BK183.out 5).trans rfl
      have hcz7_6 : w3.cell? ⟨gb183, 6, none⟩ = some (.slice A0_6 l0_6.length c0_6) := (blk_cell BK183.out 6).trans rfl
      have hcz7_7 : w3.cell? ⟨gb183, 7, none⟩ = some (.bool a0_7) := (blk_cell BK183.out 7).trans rfl
      have hfz7_0 := blk_frozen BK183.out 0
      have hfz7_1 := blk_frozen BK183.out 1
      have hfz7_2 := blk_frozen BK183.out 2
      have hfz7_3 := blk_frozen BK183.out 3
      have hfz7_4 := blk_frozen BK183.out 4
      have hfz7_5 := blk_frozen BK183.out 5
      have hfz7_6 := blk_frozen BK183.out 6
      have hfz7_7 := blk_frozen BK183.out 7
      go_wp2_with (first | ((with_reducible refine gate_callee (f := 31) rfl ?_); refine goesL_ (some 8) rfl rfl Tryd.func31 (by kernel_rfl) rfl #[.int .i64 a0_0] rfl (by (try simp only [List.map_toArray, List.map_cons, List.map_nil]); first | done | rfl | (simp only [List.length_drop, List.length_take]; rfl)) ?_; (with_reducible refine (stanchionref16_small.calls a0_0 true _ A4.out).mono ?_); rintro e w' ⟨rfl, ⟨nd, rfl⟩⟩; refine ⟨_, rfl, ?_⟩) | (go_at_call 31; (with_reducible refine (stanchionref16_small.calls a0_1 t185 _ A6.out).mono ?_); rintro e w' ⟨rfl, ⟨nd, rfl⟩⟩))
      go_meet
      case rel => exact ⟨_, (t185), (by first | rfl | (simp; done) | (simp [*]; done)), H', ⟨by first | omega | exact Nat.le_refl _⟩, ⟨by (with_reducible repeat (first | refine blk_drewN ?_ _ | refine blk_drew ?_ | refine blk_alloc ?_ _)); exact BK183.out⟩, ⟨by repeat (first | (with_reducible first | exact HB.out | apply below_alloc | apply pw_below_drewN | apply below_drew1 | refine below_set ?_ GE183.out) | exact HB.out)⟩⟩
    · replace c5 := Bool.eq_false_iff.mpr c5
      subst c5
      have H1 : (stanchionref16_mayReply.j0 k false a0_0 a0_1 a0_2 a0_3 a0_4 a0_5 l0_6 a0_7) = some r := by rw [if_neg (show ¬ (false = true) by decide)] at H; exact H
      clear H
      have H := H1
      clear H1
      have H' := Aside0.mk H
      clear H
      have hcz8_0 : w3.cell? ⟨gb183, 0, none⟩ = some (.int .i64 a0_0) := (blk_cell BK183.out 0).trans rfl
      have hcz8_1 : w3.cell? ⟨gb183, 1, none⟩ = some (.int .i64 a0_1) := (blk_cell BK183.out 1).trans rfl
      have hcz8_2 : w3.cell? ⟨gb183, 2, none⟩ = some (.int .i64 a0_2) := (blk_cell BK183.out 2).trans rfl
      have hcz8_3 : w3.cell? ⟨gb183, 3, none⟩ = some (.int .i64 a0_3) := (blk_cell BK183.out 3).trans rfl
      have hcz8_4 : w3.cell? ⟨gb183, 4, none⟩ = some (.string a0_4) := (blk_cell BK183.out 4).trans rfl
      have hcz8_5 : w3.cell? ⟨gb183, 5, none⟩ = some (.bool a0_5) := (blk_cell BK183.out 5).trans rfl
      have hcz8_6 : w3.cell? ⟨gb183, 6, none⟩ = some (.slice A0_6 l0_6.length c0_6) := (blk_cell BK183.out 6).trans rfl
      have hcz8_7 : w3.cell? ⟨gb183, 7, none⟩ = some (.bool a0_7) := (blk_cell BK183.out 7).trans rfl
      have hfz8_0 := blk_frozen BK183.out 0
      have hfz8_1 := blk_frozen BK183.out 1
      have hfz8_2 := blk_frozen BK183.out 2
      have hfz8_3 := blk_frozen BK183.out 3
      have hfz8_4 := blk_frozen BK183.out 4
      have hfz8_5 := blk_frozen BK183.out 5
      have hfz8_6 := blk_frozen BK183.out 6
      have hfz8_7 := blk_frozen BK183.out 7
      go_wp2_with (first | ((with_reducible refine gate_callee (f := 31) rfl ?_); refine goesL_ (some 8) rfl rfl Tryd.func31 (by kernel_rfl) rfl #[.int .i64 a0_0] rfl (by (try simp only [List.map_toArray, List.map_cons, List.map_nil]); first | done | rfl | (simp only [List.length_drop, List.length_take]; rfl)) ?_; (with_reducible refine (stanchionref16_small.calls a0_0 false _ A4.out).mono ?_); rintro e w' ⟨rfl, ⟨nd, rfl⟩⟩; refine ⟨_, rfl, ?_⟩))
      go_meet
      case rel => exact ⟨_, (false), (by first | rfl | (simp; done) | (simp [*]; done)), H', ⟨by first | omega | exact Nat.le_refl _⟩, ⟨by (with_reducible repeat (first | refine blk_drewN ?_ _ | refine blk_drew ?_ | refine blk_alloc ?_ _)); exact BK183.out⟩, ⟨by repeat (first | (with_reducible first | exact HB.out | apply below_alloc | apply pw_below_drewN | apply below_drew1 | refine below_set ?_ GE183.out) | exact HB.out)⟩⟩
  case rest =>
    clear HC2
    try clear p2
    try clear c3
    try clear c5
    try clear hcz7_0
    try clear hcz7_1
    try clear hcz7_2
    try clear hcz7_3
    try clear hcz7_4
    try clear hcz7_5
    try clear hcz7_6
    try clear hcz7_7
    try clear hcz8_0
    try clear hcz8_1
    try clear hcz8_2
    try clear hcz8_3
    try clear hcz8_4
    try clear hcz8_5
    try clear hcz8_6
    try clear hcz8_7
    try clear hfz7_0
    try clear hfz7_1
    try clear hfz7_2
    try clear hfz7_3
    try clear hfz7_4
    try clear hfz7_5
    try clear hfz7_6
    try clear hfz7_7
    try clear hfz8_0
    try clear hfz8_1
    try clear hfz8_2
    try clear hfz8_3
    try clear hfz8_4
    try clear hfz8_5
    try clear hfz8_6
    try clear hfz8_7
    obtain ⟨kq, x3_1, rfl, HA, HJ1, BK183, HB⟩ := hcut
    cases kq with
    | zero => exact absurd HA.out (by simp [stanchionref16_mayReply.j0])
    | succ kj1 =>
      have H := HA.out
      clear HA
      simp only [stanchionref16_mayReply.j0] at H
      have HC9 := Aside0.mk H
      clear H
      go_upto_region 2 with (fail)
      go_cut [4] (fun v4 wc => ∃ (kq : Nat) (x4_8 : Bool), v4 = .bool x4_8 ∧ Aside0 (stanchionref16_mayReply.j1 kq x3_1 x4_8 a0_0 a0_1 a0_2 a0_3 a0_4 a0_5 l0_6 a0_7 = some r) ∧ Aside0 (kq ≤ kj1) ∧ Aside0 (wc.heap[gb183]? = some (.cells #[.int .i64 a0_0, .int .i64 a0_1, .int .i64 a0_2, .int .i64 a0_3, .string a0_4, .bool a0_5, (.slice A0_6 l0_6.length c0_6), .bool a0_7] 41 (0, 0))) ∧ Aside0 (Below w.heap.size w wc))
      case first =>
        have H := HC9.out
        clear HC9
        replace H := Option.bind_eq_some_iff.mp H
        obtain ⟨t186, A100, H⟩ := H
        replace H : (if t186 = true then ((stanchionref05_Right.f kj1 l0_6).bind fun t187 => (stanchionref16_mayReply.j1 kj1 x3_1 t187 a0_0 a0_1 a0_2 a0_3 a0_4 a0_5 l0_6 a0_7)) else (stanchionref16_mayReply.j1 kj1 x3_1 false a0_0 a0_1 a0_2 a0_3 a0_4 a0_5 l0_6 a0_7)) = some r := H
        have A10 := Aside0.mk A100
        clear A100
        by_cases c11 : t186 = true
        · subst c11
          have H1 : ((stanchionref05_Right.f kj1 l0_6).bind fun t187 => (stanchionref16_mayReply.j1 kj1 x3_1 t187 a0_0 a0_1 a0_2 a0_3 a0_4 a0_5 l0_6 a0_7)) = some r := by rw [if_pos rfl] at H; exact H
          clear H
          have H := H1
          clear H1
          replace H := Option.bind_eq_some_iff.mp H
          obtain ⟨t187, A120, H⟩ := H
          replace H : (stanchionref16_mayReply.j1 kj1 x3_1 t187 a0_0 a0_1 a0_2 a0_3 a0_4 a0_5 l0_6 a0_7) = some r := H
          have A12 := Aside0.mk A120
          clear A120
          have H' := Aside0.mk H
          clear H
          have hcz13_0 : wc.cell? ⟨gb183, 0, none⟩ = some (.int .i64 a0_0) := (blk_cell BK183.out 0).trans rfl
          have hcz13_1 : wc.cell? ⟨gb183, 1, none⟩ = some (.int .i64 a0_1) := (blk_cell BK183.out 1).trans rfl
          have hcz13_2 : wc.cell? ⟨gb183, 2, none⟩ = some (.int .i64 a0_2) := (blk_cell BK183.out 2).trans rfl
          have hcz13_3 : wc.cell? ⟨gb183, 3, none⟩ = some (.int .i64 a0_3) := (blk_cell BK183.out 3).trans rfl
          have hcz13_4 : wc.cell? ⟨gb183, 4, none⟩ = some (.string a0_4) := (blk_cell BK183.out 4).trans rfl
          have hcz13_5 : wc.cell? ⟨gb183, 5, none⟩ = some (.bool a0_5) := (blk_cell BK183.out 5).trans rfl
          have hcz13_6 : wc.cell? ⟨gb183, 6, none⟩ = some (.slice A0_6 l0_6.length c0_6) := (blk_cell BK183.out 6).trans rfl
          have hcz13_7 : wc.cell? ⟨gb183, 7, none⟩ = some (.bool a0_7) := (blk_cell BK183.out 7).trans rfl
          have hfz13_0 := blk_frozen BK183.out 0
          have hfz13_1 := blk_frozen BK183.out 1
          have hfz13_2 := blk_frozen BK183.out 2
          have hfz13_3 := blk_frozen BK183.out 3
          have hfz13_4 := blk_frozen BK183.out 4
          have hfz13_5 := blk_frozen BK183.out 5
          have hfz13_6 := blk_frozen BK183.out 6
          have hfz13_7 := blk_frozen BK183.out 7
          go_wp2_with (first | ((with_reducible refine gate_callee (f := 31) rfl ?_); refine goesL_ (some 16) rfl rfl Tryd.func31 (by kernel_rfl) rfl #[.int .i64 a0_2] rfl (by (try simp only [List.map_toArray, List.map_cons, List.map_nil]); first | done | rfl | (simp only [List.length_drop, List.length_take]; rfl)) ?_; (with_reducible refine (stanchionref16_small.calls a0_2 true _ A10.out).mono ?_); rintro e w' ⟨rfl, ⟨nd, rfl⟩⟩; refine ⟨_, rfl, ?_⟩) | (go_at_call 54; (with_reducible refine (stanchionref05_Right.calls kj1 _ _ l0_6 t187 _ ?side1 ?side2 A12.out).mono ?_); (case side1 => repeat (first | exact (Kd.C_below HR0_6.out (by repeat (first | (with_reducible first | exact HB.out | apply below_alloc | apply pw_below_drewN | apply below_drew1 | refine below_set ?_ GE183.out) | exact HB.out))) | (with_reducible refine Kd.C_alloc ?_ _) | (with_reducible refine Kd.C_drewN ?_ _) | (with_reducible refine Kd.C_drew ?_))); (case side2 => exact HC0_6.out); rintro e w' ⟨rfl, ⟨nd, rfl⟩⟩))
          go_meet
          case rel => exact ⟨_, (t187), (by first | rfl | (simp; done) | (simp [*]; done)), H', ⟨by have := HJ1.out; first | omega | exact Nat.le_refl _⟩, ⟨by (with_reducible repeat (first | refine blk_drewN ?_ _ | refine blk_drew ?_ | refine blk_alloc ?_ _)); exact BK183.out⟩, ⟨by repeat (first | (with_reducible first | exact HB.out | apply below_alloc | apply pw_below_drewN | apply below_drew1 | refine below_set ?_ GE183.out) | exact HB.out)⟩⟩
        · replace c11 := Bool.eq_false_iff.mpr c11
          subst c11
          have H1 : (stanchionref16_mayReply.j1 kj1 x3_1 false a0_0 a0_1 a0_2 a0_3 a0_4 a0_5 l0_6 a0_7) = some r := by rw [if_neg (show ¬ (false = true) by decide)] at H; exact H
          clear H
          have H := H1
          clear H1
          have H' := Aside0.mk H
          clear H
          have hcz14_0 : wc.cell? ⟨gb183, 0, none⟩ = some (.int .i64 a0_0) := (blk_cell BK183.out 0).trans rfl
          have hcz14_1 : wc.cell? ⟨gb183, 1, none⟩ = some (.int .i64 a0_1) := (blk_cell BK183.out 1).trans rfl
          have hcz14_2 : wc.cell? ⟨gb183, 2, none⟩ = some (.int .i64 a0_2) := (blk_cell BK183.out 2).trans rfl
          have hcz14_3 : wc.cell? ⟨gb183, 3, none⟩ = some (.int .i64 a0_3) := (blk_cell BK183.out 3).trans rfl
          have hcz14_4 : wc.cell? ⟨gb183, 4, none⟩ = some (.string a0_4) := (blk_cell BK183.out 4).trans rfl
          have hcz14_5 : wc.cell? ⟨gb183, 5, none⟩ = some (.bool a0_5) := (blk_cell BK183.out 5).trans rfl
          have hcz14_6 : wc.cell? ⟨gb183, 6, none⟩ = some (.slice A0_6 l0_6.length c0_6) := (blk_cell BK183.out 6).trans rfl
          have hcz14_7 : wc.cell? ⟨gb183, 7, none⟩ = some (.bool a0_7) := (blk_cell BK183.out 7).trans rfl
          have hfz14_0 := blk_frozen BK183.out 0
          have hfz14_1 := blk_frozen BK183.out 1
          have hfz14_2 := blk_frozen BK183.out 2
          have hfz14_3 := blk_frozen BK183.out 3
          have hfz14_4 := blk_frozen BK183.out 4
          have hfz14_5 := blk_frozen BK183.out 5
          have hfz14_6 := blk_frozen BK183.out 6
          have hfz14_7 := blk_frozen BK183.out 7
          go_wp2_with (first | ((with_reducible refine gate_callee (f := 31) rfl ?_); refine goesL_ (some 16) rfl rfl Tryd.func31 (by kernel_rfl) rfl #[.int .i64 a0_2] rfl (by (try simp only [List.map_toArray, List.map_cons, List.map_nil]); first | done | rfl | (simp only [List.length_drop, List.length_take]; rfl)) ?_; (with_reducible refine (stanchionref16_small.calls a0_2 false _ A10.out).mono ?_); rintro e w' ⟨rfl, ⟨nd, rfl⟩⟩; refine ⟨_, rfl, ?_⟩))
          go_meet
          case rel => exact ⟨_, (false), (by first | rfl | (simp; done) | (simp [*]; done)), H', ⟨by have := HJ1.out; first | omega | exact Nat.le_refl _⟩, ⟨by (with_reducible repeat (first | refine blk_drewN ?_ _ | refine blk_drew ?_ | refine blk_alloc ?_ _)); exact BK183.out⟩, ⟨by repeat (first | (with_reducible first | exact HB.out | apply below_alloc | apply pw_below_drewN | apply below_drew1 | refine below_set ?_ GE183.out) | exact HB.out)⟩⟩
      case rest =>
        clear HC9
        try clear c1
        try clear p2
        try clear c3
        try clear c5
        try clear c11
        try clear hcz13_0
        try clear hcz13_1
        try clear hcz13_2
        try clear hcz13_3
        try clear hcz13_4
        try clear hcz13_5
        try clear hcz13_6
        try clear hcz13_7
        try clear hcz14_0
        try clear hcz14_1
        try clear hcz14_2
        try clear hcz14_3
        try clear hcz14_4
        try clear hcz14_5
        try clear hcz14_6
        try clear hcz14_7
        try clear hcz7_0
        try clear hcz7_1
        try clear hcz7_2
        try clear hcz7_3
        try clear hcz7_4
        try clear hcz7_5
        try clear hcz7_6
        try clear hcz7_7
        try clear hcz8_0
        try clear hcz8_1
        try clear hcz8_2
        try clear hcz8_3
        try clear hcz8_4
        try clear hcz8_5
        try clear hcz8_6
        try clear hcz8_7
        try clear hfz13_0
        try clear hfz13_1
        try clear hfz13_2
        try clear hfz13_3
        try clear hfz13_4
        try clear hfz13_5
        try clear hfz13_6
        try clear hfz13_7
        try clear hfz14_0
        try clear hfz14_1
        try clear hfz14_2
        try clear hfz14_3
        try clear hfz14_4
        try clear hfz14_5
        try clear hfz14_6
        try clear hfz14_7
        try clear hfz7_0
        try clear hfz7_1
        try clear hfz7_2
        try clear hfz7_3
        try clear hfz7_4
        try clear hfz7_5
        try clear hfz7_6
        try clear hfz7_7
        try clear hfz8_0
        try clear hfz8_1
        try clear hfz8_2
        try clear hfz8_3
        try clear hfz8_4
        try clear hfz8_5
        try clear hfz8_6
        try clear hfz8_7
        try clear p2
        obtain ⟨kq, x4_8, rfl, HA, HJ8, BK183, HB⟩ := hcut
        cases kq with
        | zero => exact absurd HA.out (by simp [stanchionref16_mayReply.j1])
        | succ kj8 =>
          have H := HA.out
          clear HA
          simp only [stanchionref16_mayReply.j1] at H
          have HC15 := Aside0.mk H
          clear H
          go_upto_region 3 with (fail)
          go_cut [49] (fun v49 wc => ∃ (kq : Nat) (x49_14 : Bool), v49 = .bool x49_14 ∧ Aside0 (stanchionref16_mayReply.j2 kq x49_14 a0_0 a0_1 a0_2 a0_3 a0_4 a0_5 l0_6 a0_7 = some r) ∧ Aside0 (kq ≤ kj8) ∧ Aside0 (wc.heap[gb183]? = some (.cells #[.int .i64 a0_0, .int .i64 a0_1, .int .i64 a0_2, .int .i64 a0_3, .string a0_4, .bool a0_5, (.slice A0_6 l0_6.length c0_6), .bool a0_7] 41 (0, 0))) ∧ Aside0 (Below w.heap.size w wc))
          case first =>
            have H := HC15.out
            clear HC15
            by_cases c16 : x3_1 = true
            · subst c16
              have H1 : (if x4_8 = true then (if a0_3 < 0 then (stanchionref16_mayReply.j2 kj8 true a0_0 a0_1 a0_2 a0_3 a0_4 a0_5 l0_6 a0_7) else (if a0_3 > 16 then (stanchionref16_mayReply.j2 kj8 true a0_0 a0_1 a0_2 a0_3 a0_4 a0_5 l0_6 a0_7) else (if (a0_4.size : Int) > 64 then (stanchionref16_mayReply.j2 kj8 true a0_0 a0_1 a0_2 a0_3 a0_4 a0_5 l0_6 a0_7) else (stanchionref16_mayReply.j2 kj8 (decide ((l0_6.length : Int) > 16)) a0_0 a0_1 a0_2 a0_3 a0_4 a0_5 l0_6 a0_7)))) else (stanchionref16_mayReply.j2 kj8 true a0_0 a0_1 a0_2 a0_3 a0_4 a0_5 l0_6 a0_7)) = some r := by rw [if_pos rfl] at H; exact H
              clear H
              have H := H1
              clear H1
              by_cases c17 : x4_8 = true
              · subst c17
                have H1 : (if a0_3 < 0 then (stanchionref16_mayReply.j2 kj8 true a0_0 a0_1 a0_2 a0_3 a0_4 a0_5 l0_6 a0_7) else (if a0_3 > 16 then (stanchionref16_mayReply.j2 kj8 true a0_0 a0_1 a0_2 a0_3 a0_4 a0_5 l0_6 a0_7) else (if (a0_4.size : Int) > 64 then (stanchionref16_mayReply.j2 kj8 true a0_0 a0_1 a0_2 a0_3 a0_4 a0_5 l0_6 a0_7) else (stanchionref16_mayReply.j2 kj8 (decide ((l0_6.length : Int) > 16)) a0_0 a0_1 a0_2 a0_3 a0_4 a0_5 l0_6 a0_7)))) = some r := by rw [if_pos rfl] at H; exact H
                clear H
                have H := H1
                clear H1
                by_cases c18 : a0_3 < 0
                · rw [if_pos c18] at H
                  have c18b0 : decide (a0_3 < 0) = true := decide_eq_true c18
                  clear c18
                  (first | rw [c18b0] | (simp only [i64_w, i32_w]; rw [c18b0]) | skip)
                  have H' := Aside0.mk H
                  clear H
                  have hcz19_0 : wc.cell? ⟨gb183, 0, none⟩ = some (.int .i64 a0_0) := (blk_cell BK183.out 0).trans rfl
                  have hcz19_1 : wc.cell? ⟨gb183, 1, none⟩ = some (.int .i64 a0_1) := (blk_cell BK183.out 1).trans rfl
                  have hcz19_2 : wc.cell? ⟨gb183, 2, none⟩ = some (.int .i64 a0_2) := (blk_cell BK183.out 2).trans rfl
                  have hcz19_3 : wc.cell? ⟨gb183, 3, none⟩ = some (.int .i64 a0_3) := (blk_cell BK183.out 3).trans rfl
                  have hcz19_4 : wc.cell? ⟨gb183, 4, none⟩ = some (.string a0_4) := (blk_cell BK183.out 4).trans rfl
                  have hcz19_5 : wc.cell? ⟨gb183, 5, none⟩ = some (.bool a0_5) := (blk_cell BK183.out 5).trans rfl
                  have hcz19_6 : wc.cell? ⟨gb183, 6, none⟩ = some (.slice A0_6 l0_6.length c0_6) := (blk_cell BK183.out 6).trans rfl
                  have hcz19_7 : wc.cell? ⟨gb183, 7, none⟩ = some (.bool a0_7) := (blk_cell BK183.out 7).trans rfl
                  have hfz19_0 := blk_frozen BK183.out 0
                  have hfz19_1 := blk_frozen BK183.out 1
                  have hfz19_2 := blk_frozen BK183.out 2
                  have hfz19_3 := blk_frozen BK183.out 3
                  have hfz19_4 := blk_frozen BK183.out 4
                  have hfz19_5 := blk_frozen BK183.out 5
                  have hfz19_6 := blk_frozen BK183.out 6
                  have hfz19_7 := blk_frozen BK183.out 7
                  go_wp2
                  go_meet
                  case rel => exact ⟨_, (true), (by first | rfl | (simp; done) | (simp [*]; done)), H', ⟨by have := HJ1.out; have := HJ8.out; first | omega | exact Nat.le_refl _⟩, ⟨by (with_reducible repeat (first | refine blk_drewN ?_ _ | refine blk_drew ?_ | refine blk_alloc ?_ _)); exact BK183.out⟩, ⟨by repeat (first | (with_reducible first | exact HB.out | apply below_alloc | apply pw_below_drewN | apply below_drew1 | refine below_set ?_ GE183.out) | exact HB.out)⟩⟩
                · rw [if_neg c18] at H
                  have c18b0 : decide (a0_3 < 0) = false := decide_eq_false c18
                  clear c18
                  (first | rw [c18b0] | (simp only [i64_w, i32_w]; rw [c18b0]) | skip)
                  by_cases c20 : a0_3 > 16
                  · rw [if_pos c20] at H
                    have c20b0 : decide (16 < a0_3) = true := decide_eq_true c20
                    clear c20
                    have H' := Aside0.mk H
                    clear H
                    have hcz21_0 : wc.cell? ⟨gb183, 0, none⟩ = some (.int .i64 a0_0) := (blk_cell BK183.out 0).trans rfl
                    have hcz21_1 : wc.cell? ⟨gb183, 1, none⟩ = some (.int .i64 a0_1) := (blk_cell BK183.out 1).trans rfl
                    have hcz21_2 : wc.cell? ⟨gb183, 2, none⟩ = some (.int .i64 a0_2) := (blk_cell BK183.out 2).trans rfl
                    have hcz21_3 : wc.cell? ⟨gb183, 3, none⟩ = some (.int .i64 a0_3) := (blk_cell BK183.out 3).trans rfl
                    have hcz21_4 : wc.cell? ⟨gb183, 4, none⟩ = some (.string a0_4) := (blk_cell BK183.out 4).trans rfl
                    have hcz21_5 : wc.cell? ⟨gb183, 5, none⟩ = some (.bool a0_5) := (blk_cell BK183.out 5).trans rfl
                    have hcz21_6 : wc.cell? ⟨gb183, 6, none⟩ = some (.slice A0_6 l0_6.length c0_6) := (blk_cell BK183.out 6).trans rfl
                    have hcz21_7 : wc.cell? ⟨gb183, 7, none⟩ = some (.bool a0_7) := (blk_cell BK183.out 7).trans rfl
                    have hfz21_0 := blk_frozen BK183.out 0
                    have hfz21_1 := blk_frozen BK183.out 1
                    have hfz21_2 := blk_frozen BK183.out 2
                    have hfz21_3 := blk_frozen BK183.out 3
                    have hfz21_4 := blk_frozen BK183.out 4
                    have hfz21_5 := blk_frozen BK183.out 5
                    have hfz21_6 := blk_frozen BK183.out 6
                    have hfz21_7 := blk_frozen BK183.out 7
                    go_wp2
                    go_meet
                    case rel => exact ⟨_, (true), (by first | rfl | (simp; done) | (simp [*]; done)), H', ⟨by have := HJ1.out; have := HJ8.out; first | omega | exact Nat.le_refl _⟩, ⟨by (with_reducible repeat (first | refine blk_drewN ?_ _ | refine blk_drew ?_ | refine blk_alloc ?_ _)); exact BK183.out⟩, ⟨by repeat (first | (with_reducible first | exact HB.out | apply below_alloc | apply pw_below_drewN | apply below_drew1 | refine below_set ?_ GE183.out) | exact HB.out)⟩⟩
                  · rw [if_neg c20] at H
                    have c20b0 : decide (16 < a0_3) = false := decide_eq_false c20
                    clear c20
                    by_cases c22 : (a0_4.size : Int) > 64
                    · rw [if_pos c22] at H
                      have c22b0 : decide (64 < (a0_4.size : Int)) = true := decide_eq_true c22
                      have c22b1 : decide (64 < a0_4.size) = true := decide_eq_true (by omega)
                      clear c22
                      have H' := Aside0.mk H
                      clear H
                      have hcz23_0 : wc.cell? ⟨gb183, 0, none⟩ = some (.int .i64 a0_0) := (blk_cell BK183.out 0).trans rfl
                      have hcz23_1 : wc.cell? ⟨gb183, 1, none⟩ = some (.int .i64 a0_1) := (blk_cell BK183.out 1).trans rfl
                      have hcz23_2 : wc.cell? ⟨gb183, 2, none⟩ = some (.int .i64 a0_2) := (blk_cell BK183.out 2).trans rfl
                      have hcz23_3 : wc.cell? ⟨gb183, 3, none⟩ = some (.int .i64 a0_3) := (blk_cell BK183.out 3).trans rfl
                      have hcz23_4 : wc.cell? ⟨gb183, 4, none⟩ = some (.string a0_4) := (blk_cell BK183.out 4).trans rfl
                      have hcz23_5 : wc.cell? ⟨gb183, 5, none⟩ = some (.bool a0_5) := (blk_cell BK183.out 5).trans rfl
                      have hcz23_6 : wc.cell? ⟨gb183, 6, none⟩ = some (.slice A0_6 l0_6.length c0_6) := (blk_cell BK183.out 6).trans rfl
                      have hcz23_7 : wc.cell? ⟨gb183, 7, none⟩ = some (.bool a0_7) := (blk_cell BK183.out 7).trans rfl
                      have hfz23_0 := blk_frozen BK183.out 0
                      have hfz23_1 := blk_frozen BK183.out 1
                      have hfz23_2 := blk_frozen BK183.out 2
                      have hfz23_3 := blk_frozen BK183.out 3
                      have hfz23_4 := blk_frozen BK183.out 4
                      have hfz23_5 := blk_frozen BK183.out 5
                      have hfz23_6 := blk_frozen BK183.out 6
                      have hfz23_7 := blk_frozen BK183.out 7
                      go_wp2
                      go_meet
                      case rel => exact ⟨_, (true), (by first | rfl | (simp; done) | (simp [*]; done)), H', ⟨by have := HJ1.out; have := HJ8.out; first | omega | exact Nat.le_refl _⟩, ⟨by (with_reducible repeat (first | refine blk_drewN ?_ _ | refine blk_drew ?_ | refine blk_alloc ?_ _)); exact BK183.out⟩, ⟨by repeat (first | (with_reducible first | exact HB.out | apply below_alloc | apply pw_below_drewN | apply below_drew1 | refine below_set ?_ GE183.out) | exact HB.out)⟩⟩
                    · rw [if_neg c22] at H
                      have c22b0 : decide (64 < (a0_4.size : Int)) = false := decide_eq_false c22
                      have c22b1 : decide (64 < a0_4.size) = false := decide_eq_false (by omega)
                      clear c22
                      have H' := Aside0.mk H
                      clear H
                      have hcz24_0 : wc.cell? ⟨gb183, 0, none⟩ = some (.int .i64 a0_0) := (blk_cell BK183.out 0).trans rfl
                      have hcz24_1 : wc.cell? ⟨gb183, 1, none⟩ = some (.int .i64 a0_1) := (blk_cell BK183.out 1).trans rfl
                      have hcz24_2 : wc.cell? ⟨gb183, 2, none⟩ = some (.int .i64 a0_2) := (blk_cell BK183.out 2).trans rfl
                      have hcz24_3 : wc.cell? ⟨gb183, 3, none⟩ = some (.int .i64 a0_3) := (blk_cell BK183.out 3).trans rfl
                      have hcz24_4 : wc.cell? ⟨gb183, 4, none⟩ = some (.string a0_4) := (blk_cell BK183.out 4).trans rfl
                      have hcz24_5 : wc.cell? ⟨gb183, 5, none⟩ = some (.bool a0_5) := (blk_cell BK183.out 5).trans rfl
                      have hcz24_6 : wc.cell? ⟨gb183, 6, none⟩ = some (.slice A0_6 l0_6.length c0_6) := (blk_cell BK183.out 6).trans rfl
                      have hcz24_7 : wc.cell? ⟨gb183, 7, none⟩ = some (.bool a0_7) := (blk_cell BK183.out 7).trans rfl
                      have hfz24_0 := blk_frozen BK183.out 0
                      have hfz24_1 := blk_frozen BK183.out 1
                      have hfz24_2 := blk_frozen BK183.out 2
                      have hfz24_3 := blk_frozen BK183.out 3
                      have hfz24_4 := blk_frozen BK183.out 4
                      have hfz24_5 := blk_frozen BK183.out 5
                      have hfz24_6 := blk_frozen BK183.out 6
                      have hfz24_7 := blk_frozen BK183.out 7
                      go_wp2
                      go_meet
                      case rel => exact ⟨_, (decide ((l0_6.length : Int) > 16)), (by first | rfl | (simp; done) | (simp [*]; done)), H', ⟨by have := HJ1.out; have := HJ8.out; first | omega | exact Nat.le_refl _⟩, ⟨by (with_reducible repeat (first | refine blk_drewN ?_ _ | refine blk_drew ?_ | refine blk_alloc ?_ _)); exact BK183.out⟩, ⟨by repeat (first | (with_reducible first | exact HB.out | apply below_alloc | apply pw_below_drewN | apply below_drew1 | refine below_set ?_ GE183.out) | exact HB.out)⟩⟩
              · replace c17 := Bool.eq_false_iff.mpr c17
                subst c17
                have H1 : (stanchionref16_mayReply.j2 kj8 true a0_0 a0_1 a0_2 a0_3 a0_4 a0_5 l0_6 a0_7) = some r := by rw [if_neg (show ¬ (false = true) by decide)] at H; exact H
                clear H
                have H := H1
                clear H1
                have H' := Aside0.mk H
                clear H
                go_wp2
                go_meet
                case rel => exact ⟨_, (true), (by first | rfl | (simp; done) | (simp [*]; done)), H', ⟨by have := HJ1.out; have := HJ8.out; first | omega | exact Nat.le_refl _⟩, ⟨by (with_reducible repeat (first | refine blk_drewN ?_ _ | refine blk_drew ?_ | refine blk_alloc ?_ _)); exact BK183.out⟩, ⟨by repeat (first | (with_reducible first | exact HB.out | apply below_alloc | apply pw_below_drewN | apply below_drew1 | refine below_set ?_ GE183.out) | exact HB.out)⟩⟩
            · replace c16 := Bool.eq_false_iff.mpr c16
              subst c16
              have H1 : (stanchionref16_mayReply.j2 kj8 true a0_0 a0_1 a0_2 a0_3 a0_4 a0_5 l0_6 a0_7) = some r := by rw [if_neg (show ¬ (false = true) by decide)] at H; exact H
              clear H
              have H := H1
              clear H1
              have H' := Aside0.mk H
              clear H
              go_wp2
              go_meet
              case rel => exact ⟨_, (true), (by first | rfl | (simp; done) | (simp [*]; done)), H', ⟨by have := HJ1.out; have := HJ8.out; first | omega | exact Nat.le_refl _⟩, ⟨by (with_reducible repeat (first | refine blk_drewN ?_ _ | refine blk_drew ?_ | refine blk_alloc ?_ _)); exact BK183.out⟩, ⟨by repeat (first | (with_reducible first | exact HB.out | apply below_alloc | apply pw_below_drewN | apply below_drew1 | refine below_set ?_ GE183.out) | exact HB.out)⟩⟩
          case rest =>
            clear HC15
            try clear c1
            try clear c2
            try clear p2
            try clear c3
            try clear c5
            try clear c11
            try clear c16
            try clear c17
            try clear c18
            try clear c18b0
            try clear c20
            try clear c20b0
            try clear c22
            try clear c22b0
            try clear c22b1
            try clear hcz13_0
            try clear hcz13_1
            try clear hcz13_2
            try clear hcz13_3
            try clear hcz13_4
            try clear hcz13_5
            try clear hcz13_6
            try clear hcz13_7
            try clear hcz14_0
            try clear hcz14_1
            try clear hcz14_2
            try clear hcz14_3
            try clear hcz14_4
            try clear hcz14_5
            try clear hcz14_6
            try clear hcz14_7
            try clear hcz19_0
            try clear hcz19_1
            try clear hcz19_2
            try clear hcz19_3
            try clear hcz19_4
            try clear hcz19_5
            try clear hcz19_6
            try clear hcz19_7
            try clear hcz21_0
            try clear hcz21_1
            try clear hcz21_2
            try clear hcz21_3
            try clear hcz21_4
            try clear hcz21_5
            try clear hcz21_6
            try clear hcz21_7
            try clear hcz23_0
            try clear hcz23_1
            try clear hcz23_2
            try clear hcz23_3
            try clear hcz23_4
            try clear hcz23_5
            try clear hcz23_6
            try clear hcz23_7
            try clear hcz24_0
            try clear hcz24_1
            try clear hcz24_2
            try clear hcz24_3
            try clear hcz24_4
            try clear hcz24_5
            try clear hcz24_6
            try clear hcz24_7
            try clear hcz7_0
            try clear hcz7_1
            try clear hcz7_2
            try clear hcz7_3
            try clear hcz7_4
            try clear hcz7_5
            try clear hcz7_6
            try clear hcz7_7
            try clear hcz8_0
            try clear hcz8_1
            try clear hcz8_2
            try clear hcz8_3
            try clear hcz8_4
            try clear hcz8_5
            try clear hcz8_6
            try clear hcz8_7
            try clear hfz13_0
            try clear hfz13_1
            try clear hfz13_2
            try clear hfz13_3
            try clear hfz13_4
            try clear hfz13_5
            try clear hfz13_6
            try clear hfz13_7
            try clear hfz14_0
            try clear hfz14_1
            try clear hfz14_2
            try clear hfz14_3
            try clear hfz14_4
            try clear hfz14_5
            try clear hfz14_6
            try clear hfz14_7
            try clear hfz19_0
            try clear hfz19_1
            try clear hfz19_2
            try clear hfz19_3
            try clear hfz19_4
            try clear hfz19_5
            try clear hfz19_6
            try clear hfz19_7
            try clear hfz21_0
            try clear hfz21_1
            try clear hfz21_2
            try clear hfz21_3
            try clear hfz21_4
            try clear hfz21_5
            try clear hfz21_6
            try clear hfz21_7
            try clear hfz23_0
            try clear hfz23_1
            try clear hfz23_2
            try clear hfz23_3
            try clear hfz23_4
            try clear hfz23_5
            try clear hfz23_6
            try clear hfz23_7
            try clear hfz24_0
            try clear hfz24_1
            try clear hfz24_2
            try clear hfz24_3
            try clear hfz24_4
            try clear hfz24_5
            try clear hfz24_6
            try clear hfz24_7
            try clear hfz7_0
            try clear hfz7_1
            try clear hfz7_2
            try clear hfz7_3
            try clear hfz7_4
            try clear hfz7_5
            try clear hfz7_6
            try clear hfz7_7
            try clear hfz8_0
            try clear hfz8_1
            try clear hfz8_2
            try clear hfz8_3
            try clear hfz8_4
            try clear hfz8_5
            try clear hfz8_6
            try clear hfz8_7
            try clear p2
            obtain ⟨kq, x49_14, rfl, HA, HJ14, BK183, HB⟩ := hcut
            cases kq with
            | zero => exact absurd HA.out (by simp [stanchionref16_mayReply.j2])
            | succ kj14 =>
              have H := HA.out
              clear HA
              simp only [stanchionref16_mayReply.j2] at H
              by_cases c25 : x49_14 = true
              · subst c25
                have H1 : (some false) = some r := by rw [if_pos rfl] at H; exact H
                clear H
                have H := H1
                clear H1
                obtain rfl := Option.some.inj H
                go_wp2
                go_ret
                exact ⟨by first | rfl | (simp [errW_none, errW_some] <;> rfl) | (simp [*, errW_none, errW_some] <;> rfl), by repeat (first | (with_reducible first | exact HB.out | apply below_alloc | apply pw_below_drewN | apply below_drew1 | refine below_set ?_ GE183.out) | exact HB.out)⟩
              · replace c25 := Bool.eq_false_iff.mpr c25
                subst c25
                have H1 : (stanchionref16_mayReply.l0 kj14 0 a0_0 a0_1 a0_2 a0_3 a0_4 a0_5 l0_6 a0_7) = some r := by rw [if_neg (show ¬ (false = true) by decide)] at H; exact H
                clear H
                have H := H1
                clear H1
                have H' := Aside0.mk H
                clear H
                go_wp2
                go_loopg [5] kj14 (fun kq v5 w' => ∃ (x5_4 : Int), v5 = .int .i64 x5_4 ∧ Aside0 (stanchionref16_mayReply.l0 kq x5_4 a0_0 a0_1 a0_2 a0_3 a0_4 a0_5 l0_6 a0_7 = some r) ∧ Aside0 (kq ≤ kj14) ∧ Aside0 (w'.heap[gb183]? = some (.cells #[.int .i64 a0_0, .int .i64 a0_1, .int .i64 a0_2, .int .i64 a0_3, .string a0_4, .bool a0_5, (.slice A0_6 l0_6.length c0_6), .bool a0_7] 41 (0, 0))) ∧ Aside0 (Below w.heap.size w w'))
                case atStart => exact ⟨(0), (by first | rfl | (simp; done) | (simp [*]; done)), H', ⟨Nat.le_refl _⟩, ⟨by (with_reducible repeat (first | refine blk_drewN ?_ _ | refine blk_drew ?_ | refine blk_alloc ?_ _)); exact BK183.out⟩, ⟨by repeat (first | (with_reducible first | exact HB.out | apply below_alloc | apply pw_below_drewN | apply below_drew1 | refine below_set ?_ GE183.out) | exact HB.out)⟩⟩
                case round =>
                  clear H'
                  try clear c1
                  try clear c2
                  try clear p2
                  try clear c3
                  try clear c5
                  try clear c11
                  try clear c16
                  try clear c17
                  try clear c18
                  try clear c18b0
                  try clear c20
                  try clear c20b0
                  try clear c22
                  try clear c22b0
                  try clear c22b1
                  try clear c25
                  try clear hcz13_0
                  try clear hcz13_1
                  try clear hcz13_2
                  try clear hcz13_3
                  try clear hcz13_4
                  try clear hcz13_5
                  try clear hcz13_6
                  try clear hcz13_7
                  try clear hcz14_0
                  try clear hcz14_1
                  try clear hcz14_2
                  try clear hcz14_3
                  try clear hcz14_4
                  try clear hcz14_5
                  try clear hcz14_6
                  try clear hcz14_7
                  try clear hcz19_0
                  try clear hcz19_1
                  try clear hcz19_2
                  try clear hcz19_3
                  try clear hcz19_4
                  try clear hcz19_5
                  try clear hcz19_6
                  try clear hcz19_7
                  try clear hcz21_0
                  try clear hcz21_1
                  try clear hcz21_2
                  try clear hcz21_3
                  try clear hcz21_4
                  try clear hcz21_5
                  try clear hcz21_6
                  try clear hcz21_7
                  try clear hcz23_0
                  try clear hcz23_1
                  try clear hcz23_2
                  try clear hcz23_3
                  try clear hcz23_4
                  try clear hcz23_5
                  try clear hcz23_6
                  try clear hcz23_7
                  try clear hcz24_0
                  try clear hcz24_1
                  try clear hcz24_2
                  try clear hcz24_3
                  try clear hcz24_4
                  try clear hcz24_5
                  try clear hcz24_6
                  try clear hcz24_7
                  try clear hcz7_0
                  try clear hcz7_1
                  try clear hcz7_2
                  try clear hcz7_3
                  try clear hcz7_4
                  try clear hcz7_5
                  try clear hcz7_6
                  try clear hcz7_7
                  try clear hcz8_0
                  try clear hcz8_1
                  try clear hcz8_2
                  try clear hcz8_3
                  try clear hcz8_4
                  try clear hcz8_5
                  try clear hcz8_6
                  try clear hcz8_7
                  try clear hfz13_0
                  try clear hfz13_1
                  try clear hfz13_2
                  try clear hfz13_3
                  try clear hfz13_4
                  try clear hfz13_5
                  try clear hfz13_6
                  try clear hfz13_7
                  try clear hfz14_0
                  try clear hfz14_1
                  try clear hfz14_2
                  try clear hfz14_3
                  try clear hfz14_4
                  try clear hfz14_5
                  try clear hfz14_6
                  try clear hfz14_7
                  try clear hfz19_0
                  try clear hfz19_1
                  try clear hfz19_2
                  try clear hfz19_3
                  try clear hfz19_4
                  try clear hfz19_5
                  try clear hfz19_6
                  try clear hfz19_7
                  try clear hfz21_0
                  try clear hfz21_1
                  try clear hfz21_2
                  try clear hfz21_3
                  try clear hfz21_4
                  try clear hfz21_5
                  try clear hfz21_6
                  try clear hfz21_7
                  try clear hfz23_0
                  try clear hfz23_1
                  try clear hfz23_2
                  try clear hfz23_3
                  try clear hfz23_4
                  try clear hfz23_5
                  try clear hfz23_6
                  try clear hfz23_7
                  try clear hfz24_0
                  try clear hfz24_1
                  try clear hfz24_2
                  try clear hfz24_3
                  try clear hfz24_4
                  try clear hfz24_5
                  try clear hfz24_6
                  try clear hfz24_7
                  try clear hfz7_0
                  try clear hfz7_1
                  try clear hfz7_2
                  try clear hfz7_3
                  try clear hfz7_4
                  try clear hfz7_5
                  try clear hfz7_6
                  try clear hfz7_7
                  try clear hfz8_0
                  try clear hfz8_1
                  try clear hfz8_2
                  try clear hfz8_3
                  try clear hfz8_4
                  try clear hfz8_5
                  try clear hfz8_6
                  try clear hfz8_7
                  try clear p2
                  obtain ⟨x5_4, rfl, HA, HK4, BK183, HB⟩ := hrel
                  cases gk with
                  | zero => exact absurd HA.out (by simp [stanchionref16_mayReply.l0])
                  | succ k4 =>
                    have H := HA.out
                    clear HA
                    simp only [stanchionref16_mayReply.l0] at H
                    by_cases c26 : x5_4 < (l0_6.length : Int)
                    · rw [if_pos c26] at H
                      have c26b0 : decide (x5_4 < (l0_6.length : Int)) = true := decide_eq_true c26
                      clear c26
                      by_cases c27 : 0 ≤ x5_4
                      · rw [if_pos c27] at H
                        have c27b0 : decide (0 ≤ x5_4) = true := decide_eq_true c27
                        clear c27
                        by_cases c28 : (((rd_T74 l0_6 x5_4).f0).size : Int) > 32
                        · rw [if_pos c28] at H
                          have c28b0 : decide (32 < (((rd_T74 l0_6 x5_4).f0).size : Int)) = true := decide_eq_true c28
                          have c28b1 : decide (32 < ((rd_T74 l0_6 x5_4).f0).size) = true := decide_eq_true (by omega)
                          clear c28
                          obtain rfl := Option.some.inj H
                          have hcz29_0 : wr.cell? ⟨gb183, 0, none⟩ = some (.int .i64 a0_0) := (blk_cell BK183.out 0).trans rfl
                          have hcz29_1 : wr.cell? ⟨gb183, 1, none⟩ = some (.int .i64 a0_1) := (blk_cell BK183.out 1).trans rfl
                          have hcz29_2 : wr.cell? ⟨gb183, 2, none⟩ = some (.int .i64 a0_2) := (blk_cell BK183.out 2).trans rfl
                          have hcz29_3 : wr.cell? ⟨gb183, 3, none⟩ = some (.int .i64 a0_3) := (blk_cell BK183.out 3).trans rfl
                          have hcz29_4 : wr.cell? ⟨gb183, 4, none⟩ = some (.string a0_4) := (blk_cell BK183.out 4).trans rfl
                          have hcz29_5 : wr.cell? ⟨gb183, 5, none⟩ = some (.bool a0_5) := (blk_cell BK183.out 5).trans rfl
                          have hcz29_6 : wr.cell? ⟨gb183, 6, none⟩ = some (.slice A0_6 l0_6.length c0_6) := (blk_cell BK183.out 6).trans rfl
                          have hcz29_7 : wr.cell? ⟨gb183, 7, none⟩ = some (.bool a0_7) := (blk_cell BK183.out 7).trans rfl
                          have hfz29_0 := blk_frozen BK183.out 0
                          have hfz29_1 := blk_frozen BK183.out 1
                          have hfz29_2 := blk_frozen BK183.out 2
                          have hfz29_3 := blk_frozen BK183.out 3
                          have hfz29_4 := blk_frozen BK183.out 4
                          have hfz29_5 := blk_frozen BK183.out 5
                          have hfz29_6 := blk_frozen BK183.out 6
                          have hfz29_7 := blk_frozen BK183.out 7
                          have p188 : 0 ≤ (x5_4 : Int) := of_decide_eq_true (by first | (with_reducible assumption) | assumption)
                          have q188 : x5_4 < (l0_6.length : Int) := of_decide_eq_true (by first | (with_reducible assumption) | assumption)
                          obtain ⟨ad188, e188, hx188_0, hx188_1⟩ := at_T74 HR0_6.out x5_4 p188 q188
                          cases e188
                          replace hx188_0 := (HB.out.cell (World.block_lt_of_cell? w _ hx188_0)).trans hx188_0
                          replace hx188_1 := (HB.out.cell (World.block_lt_of_cell? w _ hx188_1)).trans hx188_1
                          replace p188 := eq_true p188
                          replace q188 := eq_true q188
                          go_wp2
                          go_ret
                          exact ⟨by first | rfl | (simp [errW_none, errW_some] <;> rfl) | (simp [*, errW_none, errW_some] <;> rfl), by repeat (first | (with_reducible first | exact HB.out | apply below_alloc | apply pw_below_drewN | apply below_drew1 | refine below_set ?_ GE183.out) | exact HB.out)⟩
                        · rw [if_neg c28] at H
                          have c28b0 : decide (32 < (((rd_T74 l0_6 x5_4).f0).size : Int)) = false := decide_eq_false c28
                          have c28b1 : decide (32 < ((rd_T74 l0_6 x5_4).f0).size) = false := decide_eq_false (by omega)
                          clear c28
                          by_cases c30 : (((rd_T74 l0_6 x5_4).f1).size : Int) > 64
                          · rw [if_pos c30] at H
                            have c30b0 : decide (64 < (((rd_T74 l0_6 x5_4).f1).size : Int)) = true := decide_eq_true c30
                            have c30b1 : decide (64 < ((rd_T74 l0_6 x5_4).f1).size) = true := decide_eq_true (by omega)
                            clear c30
                            obtain rfl := Option.some.inj H
                            have hcz31_0 : wr.cell? ⟨gb183, 0, none⟩ = some (.int .i64 a0_0) := (blk_cell BK183.out 0).trans rfl
                            have hcz31_1 : wr.cell? ⟨gb183, 1, none⟩ = some (.int .i64 a0_1) := (blk_cell BK183.out 1).trans rfl
                            have hcz31_2 : wr.cell? ⟨gb183, 2, none⟩ = some (.int .i64 a0_2) := (blk_cell BK183.out 2).trans rfl
                            have hcz31_3 : wr.cell? ⟨gb183, 3, none⟩ = some (.int .i64 a0_3) := (blk_cell BK183.out 3).trans rfl
                            have hcz31_4 : wr.cell? ⟨gb183, 4, none⟩ = some (.string a0_4) := (blk_cell BK183.out 4).trans rfl
                            have hcz31_5 : wr.cell? ⟨gb183, 5, none⟩ = some (.bool a0_5) := (blk_cell BK183.out 5).trans rfl
                            have hcz31_6 : wr.cell? ⟨gb183, 6, none⟩ = some (.slice A0_6 l0_6.length c0_6) := (blk_cell BK183.out 6).trans rfl
                            have hcz31_7 : wr.cell? ⟨gb183, 7, none⟩ = some (.bool a0_7) := (blk_cell BK183.out 7).trans rfl
                            have hfz31_0 := blk_frozen BK183.out 0
                            have hfz31_1 := blk_frozen BK183.out 1
                            have hfz31_2 := blk_frozen BK183.out 2
                            have hfz31_3 := blk_frozen BK183.out 3
                            have hfz31_4 := blk_frozen BK183.out 4
                            have hfz31_5 := blk_frozen BK183.out 5
                            have hfz31_6 := blk_frozen BK183.out 6
                            have hfz31_7 := blk_frozen BK183.out 7
                            have p188 : 0 ≤ (x5_4 : Int) := of_decide_eq_true (by first | (with_reducible assumption) | assumption)
                            have q188 : x5_4 < (l0_6.length : Int) := of_decide_eq_true (by first | (with_reducible assumption) | assumption)
                            obtain ⟨ad188, e188, hx188_0, hx188_1⟩ := at_T74 HR0_6.out x5_4 p188 q188
                            cases e188
                            replace hx188_0 := (HB.out.cell (World.block_lt_of_cell? w _ hx188_0)).trans hx188_0
                            replace hx188_1 := (HB.out.cell (World.block_lt_of_cell? w _ hx188_1)).trans hx188_1
                            replace p188 := eq_true p188
                            replace q188 := eq_true q188
                            have p189 : 0 ≤ (x5_4 : Int) := of_decide_eq_true (by first | (with_reducible assumption) | assumption)
                            have q189 : x5_4 < (l0_6.length : Int) := of_decide_eq_true (by first | (with_reducible assumption) | assumption)
                            obtain ⟨ad189, e189, hx189_0, hx189_1⟩ := at_T74 HR0_6.out x5_4 p189 q189
                            obtain rfl : ad188 = ad189 := (by injection e189)
                            replace hx189_0 := (HB.out.cell (World.block_lt_of_cell? w _ hx189_0)).trans hx189_0
                            replace hx189_1 := (HB.out.cell (World.block_lt_of_cell? w _ hx189_1)).trans hx189_1
                            replace p189 := eq_true p189
                            replace q189 := eq_true q189
                            go_wp2
                            go_ret
                            exact ⟨by first | rfl | (simp [errW_none, errW_some] <;> rfl) | (simp [*, errW_none, errW_some] <;> rfl), by repeat (first | (with_reducible first | exact HB.out | apply below_alloc | apply pw_below_drewN | apply below_drew1 | refine below_set ?_ GE183.out) | exact HB.out)⟩
                          · rw [if_neg c30] at H
                            have c30b0 : decide (64 < (((rd_T74 l0_6 x5_4).f1).size : Int)) = false := decide_eq_false c30
                            have c30b1 : decide (64 < ((rd_T74 l0_6 x5_4).f1).size) = false := decide_eq_false (by omega)
                            clear c30
                            have H' := Aside0.mk H
                            clear H
                            have hcz32_0 : wr.cell? ⟨gb183, 0, none⟩ = some (.int .i64 a0_0) := (blk_cell BK183.out 0).trans rfl
                            have hcz32_1 : wr.cell? ⟨gb183, 1, none⟩ = some (.int .i64 a0_1) := (blk_cell BK183.out 1).trans rfl
                            have hcz32_2 : wr.cell? ⟨gb183, 2, none⟩ = some (.int .i64 a0_2) := (blk_cell BK183.out 2).trans rfl
                            have hcz32_3 : wr.cell? ⟨gb183, 3, none⟩ = some (.int .i64 a0_3) := (blk_cell BK183.out 3).trans rfl
                            have hcz32_4 : wr.cell? ⟨gb183, 4, none⟩ = some (.string a0_4) := (blk_cell BK183.out 4).trans rfl
                            have hcz32_5 : wr.cell? ⟨gb183, 5, none⟩ = some (.bool a0_5) := (blk_cell BK183.out 5).trans rfl
                            have hcz32_6 : wr.cell? ⟨gb183, 6, none⟩ = some (.slice A0_6 l0_6.length c0_6) := (blk_cell BK183.out 6).trans rfl
                            have hcz32_7 : wr.cell? ⟨gb183, 7, none⟩ = some (.bool a0_7) := (blk_cell BK183.out 7).trans rfl
                            have hfz32_0 := blk_frozen BK183.out 0
                            have hfz32_1 := blk_frozen BK183.out 1
                            have hfz32_2 := blk_frozen BK183.out 2
                            have hfz32_3 := blk_frozen BK183.out 3
                            have hfz32_4 := blk_frozen BK183.out 4
                            have hfz32_5 := blk_frozen BK183.out 5
                            have hfz32_6 := blk_frozen BK183.out 6
                            have hfz32_7 := blk_frozen BK183.out 7
                            have p188 : 0 ≤ (x5_4 : Int) := of_decide_eq_true (by first | (with_reducible assumption) | assumption)
                            have q188 : x5_4 < (l0_6.length : Int) := of_decide_eq_true (by first | (with_reducible assumption) | assumption)
                            obtain ⟨ad188, e188, hx188_0, hx188_1⟩ := at_T74 HR0_6.out x5_4 p188 q188
                            cases e188
                            replace hx188_0 := (HB.out.cell (World.block_lt_of_cell? w _ hx188_0)).trans hx188_0
                            replace hx188_1 := (HB.out.cell (World.block_lt_of_cell? w _ hx188_1)).trans hx188_1
                            replace p188 := eq_true p188
                            replace q188 := eq_true q188
                            have p189 : 0 ≤ (x5_4 : Int) := of_decide_eq_true (by first | (with_reducible assumption) | assumption)
                            have q189 : x5_4 < (l0_6.length : Int) := of_decide_eq_true (by first | (with_reducible assumption) | assumption)
                            obtain ⟨ad189, e189, hx189_0, hx189_1⟩ := at_T74 HR0_6.out x5_4 p189 q189
                            obtain rfl : ad188 = ad189 := (by injection e189)
                            replace hx189_0 := (HB.out.cell (World.block_lt_of_cell? w _ hx189_0)).trans hx189_0
                            replace hx189_1 := (HB.out.cell (World.block_lt_of_cell? w _ hx189_1)).trans hx189_1
                            replace p189 := eq_true p189
                            replace q189 := eq_true q189
                            go_wp2
                            go_roundg k4
                            case measure => have := HJ1.out; have := HJ8.out; have := HJ14.out; have := HK4.out; omega
                            case rel => exact ⟨(wrap64 (x5_4 + 1)), (by first | rfl | (simp; done) | (simp [*]; done)), H', ⟨by have := HJ1.out; have := HJ8.out; have := HJ14.out; have := HK4.out; omega⟩, ⟨by (with_reducible repeat (first | refine blk_drewN ?_ _ | refine blk_drew ?_ | refine blk_alloc ?_ _)); exact BK183.out⟩, ⟨by repeat (first | (with_reducible first | exact HB.out | apply below_alloc | apply pw_below_drewN | apply below_drew1 | refine below_set ?_ GE183.out) | exact HB.out)⟩⟩
                      · rw [if_neg c27] at H
                        exact absurd H (by simp)
                    · rw [if_neg c26] at H
                      have c26b0 : decide (x5_4 < (l0_6.length : Int)) = false := decide_eq_false c26
                      clear c26
                      obtain rfl := Option.some.inj H
                      have hcz33_0 : wr.cell? ⟨gb183, 0, none⟩ = some (.int .i64 a0_0) := (blk_cell BK183.out 0).trans rfl
                      have hcz33_1 : wr.cell? ⟨gb183, 1, none⟩ = some (.int .i64 a0_1) := (blk_cell BK183.out 1).trans rfl
                      have hcz33_2 : wr.cell? ⟨gb183, 2, none⟩ = some (.int .i64 a0_2) := (blk_cell BK183.out 2).trans rfl
                      have hcz33_3 : wr.cell? ⟨gb183, 3, none⟩ = some (.int .i64 a0_3) := (blk_cell BK183.out 3).trans rfl
                      have hcz33_4 : wr.cell? ⟨gb183, 4, none⟩ = some (.string a0_4) := (blk_cell BK183.out 4).trans rfl
                      have hcz33_5 : wr.cell? ⟨gb183, 5, none⟩ = some (.bool a0_5) := (blk_cell BK183.out 5).trans rfl
                      have hcz33_6 : wr.cell? ⟨gb183, 6, none⟩ = some (.slice A0_6 l0_6.length c0_6) := (blk_cell BK183.out 6).trans rfl
                      have hcz33_7 : wr.cell? ⟨gb183, 7, none⟩ = some (.bool a0_7) := (blk_cell BK183.out 7).trans rfl
                      have hfz33_0 := blk_frozen BK183.out 0
                      have hfz33_1 := blk_frozen BK183.out 1
                      have hfz33_2 := blk_frozen BK183.out 2
                      have hfz33_3 := blk_frozen BK183.out 3
                      have hfz33_4 := blk_frozen BK183.out 4
                      have hfz33_5 := blk_frozen BK183.out 5
                      have hfz33_6 := blk_frozen BK183.out 6
                      have hfz33_7 := blk_frozen BK183.out 7
                      go_wp2
                      go_ret
                      exact ⟨by first | rfl | (simp [errW_none, errW_some] <;> rfl) | (simp [*, errW_none, errW_some] <;> rfl), by repeat (first | (with_reducible first | exact HB.out | apply below_alloc | apply pw_below_drewN | apply below_drew1 | refine below_set ?_ GE183.out) | exact HB.out)⟩
end Go.Proofs.YtlpcidjmaeicoaaDoor.QWi
namespace Go.Proofs.YtlpcidjmaeicoaaDoor.Reader
open Go Go.RowKit Go.Proofs.YtlpcidjmaeicoaaDoor.DecM Go.Proofs.YtlpcidjmaeicoaaDoor.Giv Go.Proofs.YtlpcidjmaeicoaaDoorW.PrintWords Go.Proofs.YtlpcidjmaeicoaaDoorW.PrintLast Go.Proofs.YtlpcidjmaeicoaaDoor.QWi
set_option linter.unusedSimpArgs false
set_option linter.unusedVariables false
def rrStep (p : List S74 × ByteArray × ByteArray × Bool) : List S74 × ByteArray × ByteArray × Bool := (p.1 ++ [⟨(rdR p.2.2.1 p.2.2.2 32).1, (rdR (rdR p.2.2.1 p.2.2.2 32).2.1 (rdR p.2.2.1 p.2.2.2 32).2.2 64).1⟩], rdR (rdR p.2.2.1 p.2.2.2 32).2.1 (rdR p.2.2.1 p.2.2.2 32).2.2 64)
def rrI (x : ByteArray × Bool) : Nat → List S74 × ByteArray × ByteArray × Bool
  | 0 => ([], ⟨#[]⟩, x)
  | i + 1 => rrStep (rrI x i)
theorem rrI_size (x : ByteArray × Bool) (i : Nat) : (rrI x i).2.2.1.size ≤ x.1.size := by
  induction i with
  | zero => exact Nat.le_refl _
  | succ i ih =>
    show (rdR (rdR (rrI x i).2.2.1 (rrI x i).2.2.2 32).2.1 (rdR (rrI x i).2.2.1 (rrI x i).2.2.2 32).2.2 64).2.1.size ≤ _
    have h1 := rdR_size (rrI x i).2.2.1 (rrI x i).2.2.2 32
    have h2 := rdR_size (rdR (rrI x i).2.2.1 (rrI x i).2.2.2 32).2.1 (rdR (rrI x i).2.2.1 (rrI x i).2.2.2 32).2.2 64
    exact Nat.le_trans h2 (Nat.le_trans h1 ih)
theorem rrI_length (x : ByteArray × Bool) (i : Nat) : (rrI x i).1.length = i := by
  induction i with
  | zero => rfl
  | succ i ih =>
    show ((rrI x i).1 ++ [_]).length = _
    rw [List.length_append, ih]
    rfl
theorem mayrep_is (a0 a1 a2 a3 : Int) (a4 : ByteArray) (a5 : Bool) (A6 : Option Addr) (c6 : Nat) (l6 : List S74) (a7 : Bool) (k : Nat) (r : Bool) (w : World) (hr : Kd.C k74 w A6 l6.length l6) (hc : l6.length ≤ c6) (h : stanchionref16_mayReply.f k a0 a1 a2 a3 a4 a5 l6 a7 = some r) :
    Calls Tryd.prog 34 #[.agg #[.int .i64 a0, .int .i64 a1, .int .i64 a2, .int .i64 a3, .string a4, .bool a5, .slice A6 l6.length c6, .bool a7]] w fun e w' => Gives (.bool r) w e w' :=
  (stanchionref16_mayReply.calls k a0 a1 a2 a3 a4 a5 A6 c6 l6 a7 r w hr hc h).mono fun e w' h => ⟨h.1, h.2⟩
set_option maxHeartbeats 4000000 in
set_option maxRecDepth 10000 in
theorem refrep_bad_false (s : ByteArray) (w : World) (hs : s.size ≤ 9223372036854775807) (v1 : Int × ByteArray × Bool) (v2 : Int × ByteArray × Bool) (v3 : Int × ByteArray × Bool) (v4 : Int × ByteArray × Bool) (v5 : ByteArray × ByteArray × Bool) (v6 : Int × ByteArray × Bool) (v7 : Int × ByteArray × Bool) (m : Nat) (r8 : ByteArray) (h1 : tkR s true = v1) (h2 : tkR v1.2.1 v1.2.2 = v2) (h3 : tkR v2.2.1 v2.2.2 = v3) (h4 : tkR v3.2.1 v3.2.2 = v4) (h5 : rdR v4.2.1 v4.2.2 64 = v5) (h6 : tkR v5.2.1 v5.2.2 = v6) (h7 : tkR v6.2.1 v6.2.2 = v7) (h8 : tkR v7.2.1 v7.2.2 = ((m : Int), r8, false))
    (P : S41 × Int) (hP : (z41, (3 : Int)) = P) :
    Calls Tryd.prog 18 #[.string s] w fun e w' => ∃ vr, e = .returned (repOut P vr) ∧ Kd.R k74 74 w' w.heap.size (fun _ => True) vr P.1.f6 ∧ Below w.heap.size w w' := by
  subst hP
  have z1 : v1.2.1.size ≤ s.size := by have h := tkR_size s true; rw [h1] at h; omega
  have z2 : v2.2.1.size ≤ s.size := by have h := tkR_size v1.2.1 v1.2.2; rw [h2] at h; omega
  have z3 : v3.2.1.size ≤ s.size := by have h := tkR_size v2.2.1 v2.2.2; rw [h3] at h; omega
  have z4 : v4.2.1.size ≤ s.size := by have h := tkR_size v3.2.1 v3.2.2; rw [h4] at h; omega
  have z5 : v5.2.1.size ≤ s.size := by have h := rdR_size v4.2.1 v4.2.2 64; rw [h5] at h; omega
  have z6 : v6.2.1.size ≤ s.size := by have h := tkR_size v5.2.1 v5.2.2; rw [h6] at h; omega
  have z7 : v7.2.1.size ≤ s.size := by have h := tkR_size v6.2.1 v6.2.2; rw [h7] at h; omega
  have z8 : r8.size ≤ s.size := by have h := tkR_size v7.2.1 v7.2.2; rw [h8] at h; dsimp only at h; omega
  have HB0 := Lib.hid (Bk.start w #[.int .i64 0, .int .i64 0, .int .i64 0, .int .i64 0, .string ⟨#[]⟩, .bool false, .slice none 0 0, .bool false] 41 (by simp))
  have Z1 := Lib.hid z1
  have H1 := Lib.hid h1
  have Z2 := Lib.hid z2
  have H2 := Lib.hid h2
  have Z3 := Lib.hid z3
  have H3 := Lib.hid h3
  have Z4 := Lib.hid z4
  have H4 := Lib.hid h4
  have Z5 := Lib.hid z5
  have H5 := Lib.hid h5
  have Z6 := Lib.hid z6
  have H6 := Lib.hid h6
  have Z7 := Lib.hid z7
  have H7 := Lib.hid h7
  have Z8 := Lib.hid z8
  have H8 := Lib.hid h8
  have HSS := Lib.hid hs
  clear hs z1 h1 z2 h2 z3 h3 z4 h4 z5 h5 z6 h6 z7 h7 z8 h8
  go_enter Tryd.func18, Tryd.ntmps18
  go_wp2_with (go_at_call 28; refine (takes_is 0 ⟨#[]⟩ s true (by have := HSS.out; have := HSS.out; omega) _).mono ?_)
  rintro e w1 ⟨rfl, b1⟩
  rw [H1.out]
  have B1 := HB0.out.call b1
  have HB1 := Lib.hid (B1.push #[.int .i64 v1.1, .string ⟨#[]⟩, .string v1.2.1, .bool v1.2.2] 67 (by simp))
  clear b1 B1 H1 HB0
  go_wp2_with (go_at_call 28; refine (takes_is v1.1 ⟨#[]⟩ v1.2.1 v1.2.2 (by have := Z1.out; have := HSS.out; omega) _).mono ?_)
  rintro e w2 ⟨rfl, b2⟩
  rw [H2.out]
  have B2 := HB1.out.call b2
  have HB2 := Lib.hid (B2.push #[.int .i64 v2.1, .string ⟨#[]⟩, .string v2.2.1, .bool v2.2.2] 67 (by simp))
  clear b2 B2 H2 HB1 Z1
  go_wp2_with (go_at_call 28; refine (takes_is v2.1 ⟨#[]⟩ v2.2.1 v2.2.2 (by have := Z2.out; have := HSS.out; omega) _).mono ?_)
  rintro e w3 ⟨rfl, b3⟩
  rw [H3.out]
  have B3 := HB2.out.call b3
  have HB3 := Lib.hid (B3.push #[.int .i64 v3.1, .string ⟨#[]⟩, .string v3.2.1, .bool v3.2.2] 67 (by simp))
  clear b3 B3 H3 HB2 Z2
  go_wp2_with (go_at_call 28; refine (takes_is v3.1 ⟨#[]⟩ v3.2.1 v3.2.2 (by have := Z3.out; have := HSS.out; omega) _).mono ?_)
  rintro e w4 ⟨rfl, b4⟩
  rw [H4.out]
  have B4 := HB3.out.call b4
  have HB4 := Lib.hid (B4.push #[.int .i64 v4.1, .string ⟨#[]⟩, .string v4.2.1, .bool v4.2.2] 67 (by simp))
  clear b4 B4 H4 HB3 Z3
  go_wp2_with (go_at_call 29; refine (reads_is v4.1 ⟨#[]⟩ v4.2.1 v4.2.2 64 (by have := Z4.out; have := HSS.out; omega) (by omega) _).mono ?_)
  rintro e w5 ⟨rfl, b5⟩
  rw [H5.out]
  have B5 := HB4.out.call b5
  have HB5 := Lib.hid (B5.push #[.int .i64 0, .string v5.1, .string v5.2.1, .bool v5.2.2] 67 (by simp))
  clear b5 B5 H5 HB4 Z4
  go_wp2_with (go_at_call 28; refine (takes_is 0 v5.1 v5.2.1 v5.2.2 (by have := Z5.out; have := HSS.out; omega) _).mono ?_)
  rintro e w6 ⟨rfl, b6⟩
  rw [H6.out]
  have B6 := HB5.out.call b6
  have HB6 := Lib.hid (B6.push #[.int .i64 v6.1, .string ⟨#[]⟩, .string v6.2.1, .bool v6.2.2] 67 (by simp))
  clear b6 B6 H6 HB5 Z5
  go_wp2_with (go_at_call 28; refine (takes_is v6.1 ⟨#[]⟩ v6.2.1 v6.2.2 (by have := Z6.out; have := HSS.out; omega) _).mono ?_)
  rintro e w7 ⟨rfl, b7⟩
  rw [H7.out]
  have B7 := HB6.out.call b7
  have HB7 := Lib.hid (B7.push #[.int .i64 v7.1, .string ⟨#[]⟩, .string v7.2.1, .bool v7.2.2] 67 (by simp))
  clear b7 B7 H7 HB6 Z6
  go_wp2_with (go_at_call 28; refine (takes_is v7.1 ⟨#[]⟩ v7.2.1 v7.2.2 (by have := Z7.out; have := HSS.out; omega) _).mono ?_)
  rintro e w8 ⟨rfl, b8⟩
  rw [H8.out]
  dsimp only
  have B8 := HB7.out.call b8
  have HB8 := Lib.hid (B8.push #[.int .i64 (m : Int), .string ⟨#[]⟩, .string r8, .bool false] 67 (by simp))
  clear b8 B8 H8 HB7 Z7
  have x8_0 := (HB8.out.at' 0 rfl).c 0 (by simp)
  have x8_3 := (HB8.out.at' 0 rfl).c 3 (by simp)
  simp only [List.getElem_cons_zero, List.getElem_cons_succ] at x8_0 x8_3
  have x6_0 := (HB8.out.at' 2 rfl).c 0 (by simp)
  simp only [List.getElem_cons_zero, List.getElem_cons_succ] at x6_0
  have x7_0 := (HB8.out.at' 1 rfl).c 0 (by simp)
  simp only [List.getElem_cons_zero, List.getElem_cons_succ] at x7_0
  have x4_0 := (HB8.out.at' 4 rfl).c 0 (by simp)
  simp only [List.getElem_cons_zero, List.getElem_cons_succ] at x4_0
  have y0 := (HB8.out.at' 8 rfl).c 0 (by simp)
  have y1 := (HB8.out.at' 8 rfl).c 1 (by simp)
  have y2 := (HB8.out.at' 8 rfl).c 2 (by simp)
  have y3 := (HB8.out.at' 8 rfl).c 3 (by simp)
  have y4 := (HB8.out.at' 8 rfl).c 4 (by simp)
  have y5 := (HB8.out.at' 8 rfl).c 5 (by simp)
  have y6 := (HB8.out.at' 8 rfl).c 6 (by simp)
  have y7 := (HB8.out.at' 8 rfl).c 7 (by simp)
  simp only [List.getElem_cons_zero, List.getElem_cons_succ] at y0 y1 y2 y3 y4 y5 y6 y7
  have zy0 := (HB8.out.at' 8 rfl).f 0
  have zy1 := (HB8.out.at' 8 rfl).f 1
  have zy2 := (HB8.out.at' 8 rfl).f 2
  have zy3 := (HB8.out.at' 8 rfl).f 3
  have zy4 := (HB8.out.at' 8 rfl).f 4
  have zy5 := (HB8.out.at' 8 rfl).f 5
  have zy6 := (HB8.out.at' 8 rfl).f 6
  have zy7 := (HB8.out.at' 8 rfl).f 7
  have HQ := Lib.hid (HB8.out.at' 8 rfl)
  have HBB := Lib.hid HB8.out.bel
  clear HB8 HSS Z8
  go_wp2
  have KF := ((((((((HQ.out).set 0 (by simp) (.int .i64 0)).set 1 (by simp) (.int .i64 0)).set 2 (by simp) (.int .i64 0)).set 3 (by simp) (.int .i64 0)).set 4 (by simp) (.string ⟨#[]⟩)).set 5 (by simp) (.bool false)).set 6 (by simp) (.slice none 0 0)).set 7 (by simp) (.bool false)
  try simp only [Exit.inBlock, Exit.then]
  have HLD := load_rep _ _ _ KF (.int .i64 0) (.int .i64 0) (.int .i64 0) (.int .i64 0) (.string ⟨#[]⟩) (.bool false) (.slice none 0 0) (.bool false) rfl
  refine bodyPost_ret (results_cell_tmp Tryd.results18 _ _ _ ⟨w.heap.size, 0, none⟩ _ rfl HLD) rfl ?_
  refine ⟨.slice none 0 0, ?_, ?_, ?_⟩
  · rfl
  · exact Kd.R_nil _ _ _ _ _
  · exact ((((((((HBB.out).setCell (p := ⟨w.heap.size, _, none⟩) (Nat.le_refl _) _).setCell (p := ⟨w.heap.size, _, none⟩) (Nat.le_refl _) _).setCell (p := ⟨w.heap.size, _, none⟩) (Nat.le_refl _) _).setCell (p := ⟨w.heap.size, _, none⟩) (Nat.le_refl _) _).setCell (p := ⟨w.heap.size, _, none⟩) (Nat.le_refl _) _).setCell (p := ⟨w.heap.size, _, none⟩) (Nat.le_refl _) _).setCell (p := ⟨w.heap.size, _, none⟩) (Nat.le_refl _) _).setCell (p := ⟨w.heap.size, _, none⟩) (Nat.le_refl _) _
set_option maxHeartbeats 4000000 in
set_option maxRecDepth 10000 in
theorem refrep_bad_true (s : ByteArray) (w : World) (hs : s.size ≤ 9223372036854775807) (v1 : Int × ByteArray × Bool) (v2 : Int × ByteArray × Bool) (v3 : Int × ByteArray × Bool) (v4 : Int × ByteArray × Bool) (v5 : ByteArray × ByteArray × Bool) (v6 : Int × ByteArray × Bool) (v7 : Int × ByteArray × Bool) (m : Nat) (r8 : ByteArray) (h1 : tkR s true = v1) (h2 : tkR v1.2.1 v1.2.2 = v2) (h3 : tkR v2.2.1 v2.2.2 = v3) (h4 : tkR v3.2.1 v3.2.2 = v4) (h5 : rdR v4.2.1 v4.2.2 64 = v5) (h6 : tkR v5.2.1 v5.2.2 = v6) (h7 : tkR v6.2.1 v6.2.2 = v7) (h8 : tkR v7.2.1 v7.2.2 = ((m : Int), r8, true))
    (hbad : 1 < v6.1 ∨ 1 < v7.1 ∨ 16 < (m : Int) ∨ 16 < v4.1)
    (P : S41 × Int) (hP : (z41, (3 : Int)) = P) :
    Calls Tryd.prog 18 #[.string s] w fun e w' => ∃ vr, e = .returned (repOut P vr) ∧ Kd.R k74 74 w' w.heap.size (fun _ => True) vr P.1.f6 ∧ Below w.heap.size w w' := by
  subst hP
  have z1 : v1.2.1.size ≤ s.size := by have h := tkR_size s true; rw [h1] at h; omega
  have z2 : v2.2.1.size ≤ s.size := by have h := tkR_size v1.2.1 v1.2.2; rw [h2] at h; omega
  have z3 : v3.2.1.size ≤ s.size := by have h := tkR_size v2.2.1 v2.2.2; rw [h3] at h; omega
  have z4 : v4.2.1.size ≤ s.size := by have h := tkR_size v3.2.1 v3.2.2; rw [h4] at h; omega
  have z5 : v5.2.1.size ≤ s.size := by have h := rdR_size v4.2.1 v4.2.2 64; rw [h5] at h; omega
  have z6 : v6.2.1.size ≤ s.size := by have h := tkR_size v5.2.1 v5.2.2; rw [h6] at h; omega
  have z7 : v7.2.1.size ≤ s.size := by have h := tkR_size v6.2.1 v6.2.2; rw [h7] at h; omega
  have z8 : r8.size ≤ s.size := by have h := tkR_size v7.2.1 v7.2.2; rw [h8] at h; dsimp only at h; omega
  have HB0 := Lib.hid (Bk.start w #[.int .i64 0, .int .i64 0, .int .i64 0, .int .i64 0, .string ⟨#[]⟩, .bool false, .slice none 0 0, .bool false] 41 (by simp))
  have Z1 := Lib.hid z1
  have H1 := Lib.hid h1
  have Z2 := Lib.hid z2
  have H2 := Lib.hid h2
  have Z3 := Lib.hid z3
  have H3 := Lib.hid h3
  have Z4 := Lib.hid z4
  have H4 := Lib.hid h4
  have Z5 := Lib.hid z5
  have H5 := Lib.hid h5
  have Z6 := Lib.hid z6
  have H6 := Lib.hid h6
  have Z7 := Lib.hid z7
  have H7 := Lib.hid h7
  have Z8 := Lib.hid z8
  have H8 := Lib.hid h8
  have HSS := Lib.hid hs
  clear hs z1 h1 z2 h2 z3 h3 z4 h4 z5 h5 z6 h6 z7 h7 z8 h8
  have HBAD := Lib.hid hbad
  clear hbad
  go_enter Tryd.func18, Tryd.ntmps18
  go_wp2_with (go_at_call 28; refine (takes_is 0 ⟨#[]⟩ s true (by have := HSS.out; have := HSS.out; omega) _).mono ?_)
  rintro e w1 ⟨rfl, b1⟩
  rw [H1.out]
  have B1 := HB0.out.call b1
  have HB1 := Lib.hid (B1.push #[.int .i64 v1.1, .string ⟨#[]⟩, .string v1.2.1, .bool v1.2.2] 67 (by simp))
  clear b1 B1 H1 HB0
  go_wp2_with (go_at_call 28; refine (takes_is v1.1 ⟨#[]⟩ v1.2.1 v1.2.2 (by have := Z1.out; have := HSS.out; omega) _).mono ?_)
  rintro e w2 ⟨rfl, b2⟩
  rw [H2.out]
  have B2 := HB1.out.call b2
  have HB2 := Lib.hid (B2.push #[.int .i64 v2.1, .string ⟨#[]⟩, .string v2.2.1, .bool v2.2.2] 67 (by simp))
  clear b2 B2 H2 HB1 Z1
  go_wp2_with (go_at_call 28; refine (takes_is v2.1 ⟨#[]⟩ v2.2.1 v2.2.2 (by have := Z2.out; have := HSS.out; omega) _).mono ?_)
  rintro e w3 ⟨rfl, b3⟩
  rw [H3.out]
  have B3 := HB2.out.call b3
  have HB3 := Lib.hid (B3.push #[.int .i64 v3.1, .string ⟨#[]⟩, .string v3.2.1, .bool v3.2.2] 67 (by simp))
  clear b3 B3 H3 HB2 Z2
  go_wp2_with (go_at_call 28; refine (takes_is v3.1 ⟨#[]⟩ v3.2.1 v3.2.2 (by have := Z3.out; have := HSS.out; omega) _).mono ?_)
  rintro e w4 ⟨rfl, b4⟩
  rw [H4.out]
  have B4 := HB3.out.call b4
  have HB4 := Lib.hid (B4.push #[.int .i64 v4.1, .string ⟨#[]⟩, .string v4.2.1, .bool v4.2.2] 67 (by simp))
  clear b4 B4 H4 HB3 Z3
  go_wp2_with (go_at_call 29; refine (reads_is v4.1 ⟨#[]⟩ v4.2.1 v4.2.2 64 (by have := Z4.out; have := HSS.out; omega) (by omega) _).mono ?_)
  rintro e w5 ⟨rfl, b5⟩
  rw [H5.out]
  have B5 := HB4.out.call b5
  have HB5 := Lib.hid (B5.push #[.int .i64 0, .string v5.1, .string v5.2.1, .bool v5.2.2] 67 (by simp))
  clear b5 B5 H5 HB4 Z4
  go_wp2_with (go_at_call 28; refine (takes_is 0 v5.1 v5.2.1 v5.2.2 (by have := Z5.out; have := HSS.out; omega) _).mono ?_)
  rintro e w6 ⟨rfl, b6⟩
  rw [H6.out]
  have B6 := HB5.out.call b6
  have HB6 := Lib.hid (B6.push #[.int .i64 v6.1, .string ⟨#[]⟩, .string v6.2.1, .bool v6.2.2] 67 (by simp))
  clear b6 B6 H6 HB5 Z5
  go_wp2_with (go_at_call 28; refine (takes_is v6.1 ⟨#[]⟩ v6.2.1 v6.2.2 (by have := Z6.out; have := HSS.out; omega) _).mono ?_)
  rintro e w7 ⟨rfl, b7⟩
  rw [H7.out]
  have B7 := HB6.out.call b7
  have HB7 := Lib.hid (B7.push #[.int .i64 v7.1, .string ⟨#[]⟩, .string v7.2.1, .bool v7.2.2] 67 (by simp))
  clear b7 B7 H7 HB6 Z6
  go_wp2_with (go_at_call 28; refine (takes_is v7.1 ⟨#[]⟩ v7.2.1 v7.2.2 (by have := Z7.out; have := HSS.out; omega) _).mono ?_)
  rintro e w8 ⟨rfl, b8⟩
  rw [H8.out]
  dsimp only
  have B8 := HB7.out.call b8
  have HB8 := Lib.hid (B8.push #[.int .i64 (m : Int), .string ⟨#[]⟩, .string r8, .bool true] 67 (by simp))
  clear b8 B8 H8 HB7 Z7
  have x8_0 := (HB8.out.at' 0 rfl).c 0 (by simp)
  have x8_3 := (HB8.out.at' 0 rfl).c 3 (by simp)
  simp only [List.getElem_cons_zero, List.getElem_cons_succ] at x8_0 x8_3
  have x6_0 := (HB8.out.at' 2 rfl).c 0 (by simp)
  simp only [List.getElem_cons_zero, List.getElem_cons_succ] at x6_0
  have x7_0 := (HB8.out.at' 1 rfl).c 0 (by simp)
  simp only [List.getElem_cons_zero, List.getElem_cons_succ] at x7_0
  have x4_0 := (HB8.out.at' 4 rfl).c 0 (by simp)
  simp only [List.getElem_cons_zero, List.getElem_cons_succ] at x4_0
  have y0 := (HB8.out.at' 8 rfl).c 0 (by simp)
  have y1 := (HB8.out.at' 8 rfl).c 1 (by simp)
  have y2 := (HB8.out.at' 8 rfl).c 2 (by simp)
  have y3 := (HB8.out.at' 8 rfl).c 3 (by simp)
  have y4 := (HB8.out.at' 8 rfl).c 4 (by simp)
  have y5 := (HB8.out.at' 8 rfl).c 5 (by simp)
  have y6 := (HB8.out.at' 8 rfl).c 6 (by simp)
  have y7 := (HB8.out.at' 8 rfl).c 7 (by simp)
  simp only [List.getElem_cons_zero, List.getElem_cons_succ] at y0 y1 y2 y3 y4 y5 y6 y7
  have zy0 := (HB8.out.at' 8 rfl).f 0
  have zy1 := (HB8.out.at' 8 rfl).f 1
  have zy2 := (HB8.out.at' 8 rfl).f 2
  have zy3 := (HB8.out.at' 8 rfl).f 3
  have zy4 := (HB8.out.at' 8 rfl).f 4
  have zy5 := (HB8.out.at' 8 rfl).f 5
  have zy6 := (HB8.out.at' 8 rfl).f 6
  have zy7 := (HB8.out.at' 8 rfl).f 7
  have HQ := Lib.hid (HB8.out.at' 8 rfl)
  have HBB := Lib.hid HB8.out.bel
  clear HB8 HSS Z8
  by_cases hq0 : 1 < v6.1
  · have c0 : decide (1 < v6.1) = true := decide_eq_true hq0
    clear HBAD hq0
    go_wp2
    have KF := ((((((((HQ.out).set 0 (by simp) (.int .i64 0)).set 1 (by simp) (.int .i64 0)).set 2 (by simp) (.int .i64 0)).set 3 (by simp) (.int .i64 0)).set 4 (by simp) (.string ⟨#[]⟩)).set 5 (by simp) (.bool false)).set 6 (by simp) (.slice none 0 0)).set 7 (by simp) (.bool false)
    try simp only [Exit.inBlock, Exit.then]
    have HLD := load_rep _ _ _ KF (.int .i64 0) (.int .i64 0) (.int .i64 0) (.int .i64 0) (.string ⟨#[]⟩) (.bool false) (.slice none 0 0) (.bool false) rfl
    refine bodyPost_ret (results_cell_tmp Tryd.results18 _ _ _ ⟨w.heap.size, 0, none⟩ _ rfl HLD) rfl ?_
    refine ⟨.slice none 0 0, ?_, ?_, ?_⟩
    · rfl
    · exact Kd.R_nil _ _ _ _ _
    · exact ((((((((HBB.out).setCell (p := ⟨w.heap.size, _, none⟩) (Nat.le_refl _) _).setCell (p := ⟨w.heap.size, _, none⟩) (Nat.le_refl _) _).setCell (p := ⟨w.heap.size, _, none⟩) (Nat.le_refl _) _).setCell (p := ⟨w.heap.size, _, none⟩) (Nat.le_refl _) _).setCell (p := ⟨w.heap.size, _, none⟩) (Nat.le_refl _) _).setCell (p := ⟨w.heap.size, _, none⟩) (Nat.le_refl _) _).setCell (p := ⟨w.heap.size, _, none⟩) (Nat.le_refl _) _).setCell (p := ⟨w.heap.size, _, none⟩) (Nat.le_refl _) _
  · have c0 : decide (1 < v6.1) = false := decide_eq_false hq0
    by_cases hq1 : 1 < v7.1
    · have c1 : decide (1 < v7.1) = true := decide_eq_true hq1
      clear HBAD hq0 hq1
      go_wp2
      have KF := ((((((((HQ.out).set 0 (by simp) (.int .i64 0)).set 1 (by simp) (.int .i64 0)).set 2 (by simp) (.int .i64 0)).set 3 (by simp) (.int .i64 0)).set 4 (by simp) (.string ⟨#[]⟩)).set 5 (by simp) (.bool false)).set 6 (by simp) (.slice none 0 0)).set 7 (by simp) (.bool false)
      try simp only [Exit.inBlock, Exit.then]
      have HLD := load_rep _ _ _ KF (.int .i64 0) (.int .i64 0) (.int .i64 0) (.int .i64 0) (.string ⟨#[]⟩) (.bool false) (.slice none 0 0) (.bool false) rfl
      refine bodyPost_ret (results_cell_tmp Tryd.results18 _ _ _ ⟨w.heap.size, 0, none⟩ _ rfl HLD) rfl ?_
      refine ⟨.slice none 0 0, ?_, ?_, ?_⟩
      · rfl
      · exact Kd.R_nil _ _ _ _ _
      · exact ((((((((HBB.out).setCell (p := ⟨w.heap.size, _, none⟩) (Nat.le_refl _) _).setCell (p := ⟨w.heap.size, _, none⟩) (Nat.le_refl _) _).setCell (p := ⟨w.heap.size, _, none⟩) (Nat.le_refl _) _).setCell (p := ⟨w.heap.size, _, none⟩) (Nat.le_refl _) _).setCell (p := ⟨w.heap.size, _, none⟩) (Nat.le_refl _) _).setCell (p := ⟨w.heap.size, _, none⟩) (Nat.le_refl _) _).setCell (p := ⟨w.heap.size, _, none⟩) (Nat.le_refl _) _).setCell (p := ⟨w.heap.size, _, none⟩) (Nat.le_refl _) _
    · have c1 : decide (1 < v7.1) = false := decide_eq_false hq1
      by_cases hq2 : 16 < (m : Int)
      · have c2 : decide (16 < (m : Int)) = true := decide_eq_true hq2
        clear HBAD hq0 hq1 hq2
        go_wp2
        have KF := ((((((((HQ.out).set 0 (by simp) (.int .i64 0)).set 1 (by simp) (.int .i64 0)).set 2 (by simp) (.int .i64 0)).set 3 (by simp) (.int .i64 0)).set 4 (by simp) (.string ⟨#[]⟩)).set 5 (by simp) (.bool false)).set 6 (by simp) (.slice none 0 0)).set 7 (by simp) (.bool false)
        try simp only [Exit.inBlock, Exit.then]
        have HLD := load_rep _ _ _ KF (.int .i64 0) (.int .i64 0) (.int .i64 0) (.int .i64 0) (.string ⟨#[]⟩) (.bool false) (.slice none 0 0) (.bool false) rfl
        refine bodyPost_ret (results_cell_tmp Tryd.results18 _ _ _ ⟨w.heap.size, 0, none⟩ _ rfl HLD) rfl ?_
        refine ⟨.slice none 0 0, ?_, ?_, ?_⟩
        · rfl
        · exact Kd.R_nil _ _ _ _ _
        · exact ((((((((HBB.out).setCell (p := ⟨w.heap.size, _, none⟩) (Nat.le_refl _) _).setCell (p := ⟨w.heap.size, _, none⟩) (Nat.le_refl _) _).setCell (p := ⟨w.heap.size, _, none⟩) (Nat.le_refl _) _).setCell (p := ⟨w.heap.size, _, none⟩) (Nat.le_refl _) _).setCell (p := ⟨w.heap.size, _, none⟩) (Nat.le_refl _) _).setCell (p := ⟨w.heap.size, _, none⟩) (Nat.le_refl _) _).setCell (p := ⟨w.heap.size, _, none⟩) (Nat.le_refl _) _).setCell (p := ⟨w.heap.size, _, none⟩) (Nat.le_refl _) _
      · have c2 : decide (16 < (m : Int)) = false := decide_eq_false hq2
        by_cases hq3 : 16 < v4.1
        · have c3 : decide (16 < v4.1) = true := decide_eq_true hq3
          clear HBAD hq0 hq1 hq2 hq3
          go_wp2
          have KF := ((((((((HQ.out).set 0 (by simp) (.int .i64 0)).set 1 (by simp) (.int .i64 0)).set 2 (by simp) (.int .i64 0)).set 3 (by simp) (.int .i64 0)).set 4 (by simp) (.string ⟨#[]⟩)).set 5 (by simp) (.bool false)).set 6 (by simp) (.slice none 0 0)).set 7 (by simp) (.bool false)
          try simp only [Exit.inBlock, Exit.then]
          have HLD := load_rep _ _ _ KF (.int .i64 0) (.int .i64 0) (.int .i64 0) (.int .i64 0) (.string ⟨#[]⟩) (.bool false) (.slice none 0 0) (.bool false) rfl
          refine bodyPost_ret (results_cell_tmp Tryd.results18 _ _ _ ⟨w.heap.size, 0, none⟩ _ rfl HLD) rfl ?_
          refine ⟨.slice none 0 0, ?_, ?_, ?_⟩
          · rfl
          · exact Kd.R_nil _ _ _ _ _
          · exact ((((((((HBB.out).setCell (p := ⟨w.heap.size, _, none⟩) (Nat.le_refl _) _).setCell (p := ⟨w.heap.size, _, none⟩) (Nat.le_refl _) _).setCell (p := ⟨w.heap.size, _, none⟩) (Nat.le_refl _) _).setCell (p := ⟨w.heap.size, _, none⟩) (Nat.le_refl _) _).setCell (p := ⟨w.heap.size, _, none⟩) (Nat.le_refl _) _).setCell (p := ⟨w.heap.size, _, none⟩) (Nat.le_refl _) _).setCell (p := ⟨w.heap.size, _, none⟩) (Nat.le_refl _) _).setCell (p := ⟨w.heap.size, _, none⟩) (Nat.le_refl _) _
        · have c3 : decide (16 < v4.1) = false := decide_eq_false hq3
          exact absurd HBAD.out (by simp only [not_or]; exact ⟨hq0, hq1, hq2, hq3⟩)
set_option maxHeartbeats 8000000 in
set_option maxRecDepth 10000 in
theorem refrep_good (s : ByteArray) (w : World) (hs : s.size ≤ 9223372036854775807) (v1 : Int × ByteArray × Bool) (v2 : Int × ByteArray × Bool) (v3 : Int × ByteArray × Bool) (v4 : Int × ByteArray × Bool) (v5 : ByteArray × ByteArray × Bool) (v6 : Int × ByteArray × Bool) (v7 : Int × ByteArray × Bool) (m : Nat) (r8 : ByteArray) (h1 : tkR s true = v1) (h2 : tkR v1.2.1 v1.2.2 = v2) (h3 : tkR v2.2.1 v2.2.2 = v3) (h4 : tkR v3.2.1 v3.2.2 = v4) (h5 : rdR v4.2.1 v4.2.2 64 = v5) (h6 : tkR v5.2.1 v5.2.2 = v6) (h7 : tkR v6.2.1 v6.2.2 = v7) (h8 : tkR v7.2.1 v7.2.2 = ((m : Int), r8, true))
    (h6b : v6.1 ≤ 1) (h7b : v7.1 ≤ 1) (hm : m ≤ 16) (h4b : v4.1 ≤ 16) (kk : Nat) (mb : Bool) (hmb : stanchionref16_mayReply.f kk v1.1 v2.1 v3.1 v4.1 v5.1 (v6.1 == 1) (rrI (r8, true) m).1 (v7.1 == 1) = some mb)
    (P : S41 × Int) (hP : (if (rrI (r8, true) m).2.2.2 = false then (z41, (3 : Int)) else if ¬ (rrI (r8, true) m).2.2.1.size = 0 then (z41, 3) else if mb = true then (⟨v1.1, v2.1, v3.1, v4.1, v5.1, v6.1 == 1, (rrI (r8, true) m).1, v7.1 == 1⟩, 0) else (z41, 3)) = P) :
    Calls Tryd.prog 18 #[.string s] w fun e w' => ∃ vr, e = .returned (repOut P vr) ∧ Kd.R k74 74 w' w.heap.size (fun _ => True) vr P.1.f6 ∧ Below w.heap.size w w' := by
  have z1 : v1.2.1.size ≤ s.size := by have h := tkR_size s true; rw [h1] at h; omega
  have z2 : v2.2.1.size ≤ s.size := by have h := tkR_size v1.2.1 v1.2.2; rw [h2] at h; omega
  have z3 : v3.2.1.size ≤ s.size := by have h := tkR_size v2.2.1 v2.2.2; rw [h3] at h; omega
  have z4 : v4.2.1.size ≤ s.size := by have h := tkR_size v3.2.1 v3.2.2; rw [h4] at h; omega
  have z5 : v5.2.1.size ≤ s.size := by have h := rdR_size v4.2.1 v4.2.2 64; rw [h5] at h; omega
  have z6 : v6.2.1.size ≤ s.size := by have h := tkR_size v5.2.1 v5.2.2; rw [h6] at h; omega
  have z7 : v7.2.1.size ≤ s.size := by have h := tkR_size v6.2.1 v6.2.2; rw [h7] at h; omega
  have z8 : r8.size ≤ s.size := by have h := tkR_size v7.2.1 v7.2.2; rw [h8] at h; dsimp only at h; omega
  have HB0 := Lib.hid (Bk.start w #[.int .i64 0, .int .i64 0, .int .i64 0, .int .i64 0, .string ⟨#[]⟩, .bool false, .slice none 0 0, .bool false] 41 (by simp))
  have Z1 := Lib.hid z1
  have H1 := Lib.hid h1
  have Z2 := Lib.hid z2
  have H2 := Lib.hid h2
  have Z3 := Lib.hid z3
  have H3 := Lib.hid h3
  have Z4 := Lib.hid z4
  have H4 := Lib.hid h4
  have Z5 := Lib.hid z5
  have H5 := Lib.hid h5
  have Z6 := Lib.hid z6
  have H6 := Lib.hid h6
  have Z7 := Lib.hid z7
  have H7 := Lib.hid h7
  have Z8 := Lib.hid z8
  have H8 := Lib.hid h8
  have HSS := Lib.hid hs
  clear hs z1 h1 z2 h2 z3 h3 z4 h4 z5 h5 z6 h6 z7 h7 z8 h8
  have HM := Lib.hid hm
  have HMB := Lib.hid hmb
  have HP := Lib.hid hP
  have c1 : decide (1 < v6.1) = false := decide_eq_false (by omega)
  have c2 : decide (1 < v7.1) = false := decide_eq_false (by omega)
  have c3 : decide (16 < (m : Int)) = false := decide_eq_false (by omega)
  have c4 : decide (16 < v4.1) = false := decide_eq_false (by omega)
  clear hm hmb hP h6b h7b h4b
  go_enter Tryd.func18, Tryd.ntmps18
  go_wp2_with (go_at_call 28; refine (takes_is 0 ⟨#[]⟩ s true (by have := HSS.out; have := HSS.out; omega) _).mono ?_)
  rintro e w1 ⟨rfl, b1⟩
  rw [H1.out]
  have B1 := HB0.out.call b1
  have HB1 := Lib.hid (B1.push #[.int .i64 v1.1, .string ⟨#[]⟩, .string v1.2.1, .bool v1.2.2] 67 (by simp))
  clear b1 B1 H1 HB0
  go_wp2_with (go_at_call 28; refine (takes_is v1.1 ⟨#[]⟩ v1.2.1 v1.2.2 (by have := Z1.out; have := HSS.out; omega) _).mono ?_)
  rintro e w2 ⟨rfl, b2⟩
  rw [H2.out]
  have B2 := HB1.out.call b2
  have HB2 := Lib.hid (B2.push #[.int .i64 v2.1, .string ⟨#[]⟩, .string v2.2.1, .bool v2.2.2] 67 (by simp))
  clear b2 B2 H2 HB1 Z1
  go_wp2_with (go_at_call 28; refine (takes_is v2.1 ⟨#[]⟩ v2.2.1 v2.2.2 (by have := Z2.out; have := HSS.out; omega) _).mono ?_)
  rintro e w3 ⟨rfl, b3⟩
  rw [H3.out]
  have B3 := HB2.out.call b3
  have HB3 := Lib.hid (B3.push #[.int .i64 v3.1, .string ⟨#[]⟩, .string v3.2.1, .bool v3.2.2] 67 (by simp))
  clear b3 B3 H3 HB2 Z2
  go_wp2_with (go_at_call 28; refine (takes_is v3.1 ⟨#[]⟩ v3.2.1 v3.2.2 (by have := Z3.out; have := HSS.out; omega) _).mono ?_)
  rintro e w4 ⟨rfl, b4⟩
  rw [H4.out]
  have B4 := HB3.out.call b4
  have HB4 := Lib.hid (B4.push #[.int .i64 v4.1, .string ⟨#[]⟩, .string v4.2.1, .bool v4.2.2] 67 (by simp))
  clear b4 B4 H4 HB3 Z3
  go_wp2_with (go_at_call 29; refine (reads_is v4.1 ⟨#[]⟩ v4.2.1 v4.2.2 64 (by have := Z4.out; have := HSS.out; omega) (by omega) _).mono ?_)
  rintro e w5 ⟨rfl, b5⟩
  rw [H5.out]
  have B5 := HB4.out.call b5
  have HB5 := Lib.hid (B5.push #[.int .i64 0, .string v5.1, .string v5.2.1, .bool v5.2.2] 67 (by simp))
  clear b5 B5 H5 HB4 Z4
  go_wp2_with (go_at_call 28; refine (takes_is 0 v5.1 v5.2.1 v5.2.2 (by have := Z5.out; have := HSS.out; omega) _).mono ?_)
  rintro e w6 ⟨rfl, b6⟩
  rw [H6.out]
  have B6 := HB5.out.call b6
  have HB6 := Lib.hid (B6.push #[.int .i64 v6.1, .string ⟨#[]⟩, .string v6.2.1, .bool v6.2.2] 67 (by simp))
  clear b6 B6 H6 HB5 Z5
  go_wp2_with (go_at_call 28; refine (takes_is v6.1 ⟨#[]⟩ v6.2.1 v6.2.2 (by have := Z6.out; have := HSS.out; omega) _).mono ?_)
  rintro e w7 ⟨rfl, b7⟩
  rw [H7.out]
  have B7 := HB6.out.call b7
  have HB7 := Lib.hid (B7.push #[.int .i64 v7.1, .string ⟨#[]⟩, .string v7.2.1, .bool v7.2.2] 67 (by simp))
  clear b7 B7 H7 HB6 Z6
  go_wp2_with (go_at_call 28; refine (takes_is v7.1 ⟨#[]⟩ v7.2.1 v7.2.2 (by have := Z7.out; have := HSS.out; omega) _).mono ?_)
  rintro e w8 ⟨rfl, b8⟩
  rw [H8.out]
  dsimp only
  have B8 := HB7.out.call b8
  have HB8 := Lib.hid (B8.push #[.int .i64 (m : Int), .string ⟨#[]⟩, .string r8, .bool true] 67 (by simp))
  clear b8 B8 H8 HB7 Z7
  have x8_0 := (HB8.out.at' 0 rfl).c 0 (by simp)
  have x8_3 := (HB8.out.at' 0 rfl).c 3 (by simp)
  simp only [List.getElem_cons_zero, List.getElem_cons_succ] at x8_0 x8_3
  have x1_0 := (HB8.out.at' 7 rfl).c 0 (by simp)
  simp only [List.getElem_cons_zero, List.getElem_cons_succ] at x1_0
  have x2_0 := (HB8.out.at' 6 rfl).c 0 (by simp)
  simp only [List.getElem_cons_zero, List.getElem_cons_succ] at x2_0
  have x3_0 := (HB8.out.at' 5 rfl).c 0 (by simp)
  simp only [List.getElem_cons_zero, List.getElem_cons_succ] at x3_0
  have x4_0 := (HB8.out.at' 4 rfl).c 0 (by simp)
  simp only [List.getElem_cons_zero, List.getElem_cons_succ] at x4_0
  have x6_0 := (HB8.out.at' 2 rfl).c 0 (by simp)
  simp only [List.getElem_cons_zero, List.getElem_cons_succ] at x6_0
  have x7_0 := (HB8.out.at' 1 rfl).c 0 (by simp)
  simp only [List.getElem_cons_zero, List.getElem_cons_succ] at x7_0
  have x5_1 := (HB8.out.at' 3 rfl).c 1 (by simp)
  simp only [List.getElem_cons_zero, List.getElem_cons_succ] at x5_1
  have HBp := Lib.hid (HB8.out.push #[.int .i64 v1.1, .int .i64 v2.1, .int .i64 v3.1, .int .i64 v4.1, .string v5.1, .bool (v6.1 == 1), .slice none 0 0, .bool (v7.1 == 1)] 41 (by simp))
  have hz8 : (w8.alloc (.cells #[.int .i64 (m : Int), .string ⟨#[]⟩, .string r8, .bool true] 67)).heap.size = w8.heap.size + 1 := by simp
  rw [hz8] at HBp
  have r8_0 := (HBp.out.at' 1 rfl).c 0 (by simp)
  have r8_1 := (HBp.out.at' 1 rfl).c 1 (by simp)
  have r8_2 := (HBp.out.at' 1 rfl).c 2 (by simp)
  have r8_3 := (HBp.out.at' 1 rfl).c 3 (by simp)
  simp only [List.getElem_cons_zero, List.getElem_cons_succ] at r8_0 r8_1 r8_2 r8_3
  have HBl := Lib.hid (HBp.out.push #[.int .i64 (m : Int), .string ⟨#[]⟩, .string r8, .bool true] 67 (by simp))
  have hz9 : ((w8.alloc (.cells #[.int .i64 (m : Int), .string ⟨#[]⟩, .string r8, .bool true] 67)).alloc (.cells #[.int .i64 v1.1, .int .i64 v2.1, .int .i64 v3.1, .int .i64 v4.1, .string v5.1, .bool (v6.1 == 1), .slice none 0 0, .bool (v7.1 == 1)] 41)).heap.size = w8.heap.size + 1 + 1 := by simp
  rw [hz9] at HBl
  clear hz8 hz9 HBp HB8
  have LP0 : Aside0 (∃ n : Int, Bk w [(w8.heap.size + 1 + 1, [.int .i64 n, .string (rrI (r8, true) 0).2.1, .string (rrI (r8, true) 0).2.2.1, .bool (rrI (r8, true) 0).2.2.2]), (w8.heap.size + 1, [.int .i64 v1.1, .int .i64 v2.1, .int .i64 v3.1, .int .i64 v4.1, .string v5.1, .bool (v6.1 == 1), .slice none (rrI (r8, true) 0).1.length 0, .bool (v7.1 == 1)]), (w8.heap.size, [.int .i64 (m : Int), .string ⟨#[]⟩, .string r8, .bool true]), (w7.heap.size, [.int .i64 v7.1, .string ⟨#[]⟩, .string v7.2.1, .bool v7.2.2]), (w6.heap.size, [.int .i64 v6.1, .string ⟨#[]⟩, .string v6.2.1, .bool v6.2.2]), (w5.heap.size, [.int .i64 0, .string v5.1, .string v5.2.1, .bool v5.2.2]), (w4.heap.size, [.int .i64 v4.1, .string ⟨#[]⟩, .string v4.2.1, .bool v4.2.2]), (w3.heap.size, [.int .i64 v3.1, .string ⟨#[]⟩, .string v3.2.1, .bool v3.2.2]), (w2.heap.size, [.int .i64 v2.1, .string ⟨#[]⟩, .string v2.2.1, .bool v2.2.2]), (w1.heap.size, [.int .i64 v1.1, .string ⟨#[]⟩, .string v1.2.1, .bool v1.2.2]), (w.heap.size, [.int .i64 0, .int .i64 0, .int .i64 0, .int .i64 0, .string ⟨#[]⟩, .bool false, .slice none 0 0, .bool false])] (((w8.alloc (.cells #[.int .i64 (m : Int), .string ⟨#[]⟩, .string r8, .bool true] 67)).alloc (.cells #[.int .i64 v1.1, .int .i64 v2.1, .int .i64 v3.1, .int .i64 v4.1, .string v5.1, .bool (v6.1 == 1), .slice none 0 0, .bool (v7.1 == 1)] 41)).alloc (.cells #[.int .i64 (m : Int), .string ⟨#[]⟩, .string r8, .bool true] 67)) (.slice none ((rrI (r8, true) 0).1.length) 0) (rrI (r8, true) 0).1) := ⟨⟨_, HBl.out⟩⟩
  clear HBl
  go_wp2
  go_loopg [14] m (fun kq v14 w' => ∃ (i : Nat) (n : Int) (A : Option Addr) (c : Nat), v14 = .int .i64 i ∧ Aside0 (kq + i = m) ∧ Aside0 (Bk w [(w8.heap.size + 1 + 1, [.int .i64 n, .string (rrI (r8, true) i).2.1, .string (rrI (r8, true) i).2.2.1, .bool (rrI (r8, true) i).2.2.2]), (w8.heap.size + 1, [.int .i64 v1.1, .int .i64 v2.1, .int .i64 v3.1, .int .i64 v4.1, .string v5.1, .bool (v6.1 == 1), .slice A (rrI (r8, true) i).1.length c, .bool (v7.1 == 1)]), (w8.heap.size, [.int .i64 (m : Int), .string ⟨#[]⟩, .string r8, .bool true]), (w7.heap.size, [.int .i64 v7.1, .string ⟨#[]⟩, .string v7.2.1, .bool v7.2.2]), (w6.heap.size, [.int .i64 v6.1, .string ⟨#[]⟩, .string v6.2.1, .bool v6.2.2]), (w5.heap.size, [.int .i64 0, .string v5.1, .string v5.2.1, .bool v5.2.2]), (w4.heap.size, [.int .i64 v4.1, .string ⟨#[]⟩, .string v4.2.1, .bool v4.2.2]), (w3.heap.size, [.int .i64 v3.1, .string ⟨#[]⟩, .string v3.2.1, .bool v3.2.2]), (w2.heap.size, [.int .i64 v2.1, .string ⟨#[]⟩, .string v2.2.1, .bool v2.2.2]), (w1.heap.size, [.int .i64 v1.1, .string ⟨#[]⟩, .string v1.2.1, .bool v1.2.2]), (w.heap.size, [.int .i64 0, .int .i64 0, .int .i64 0, .int .i64 0, .string ⟨#[]⟩, .bool false, .slice none 0 0, .bool false])] w' (.slice A (rrI (r8, true) i).1.length c) (rrI (r8, true) i).1))
  case atStart =>
    obtain ⟨n, h⟩ := LP0.out
    exact ⟨0, n, none, 0, rfl, ⟨by omega⟩, ⟨h⟩⟩
  case round =>
    obtain ⟨i, n, A, c, rfl, HK, HL⟩ := hrel
    clear LP0 x8_0 x8_3 x1_0 x2_0 x3_0 x4_0 x6_0 x7_0 x5_1 r8_0 r8_1 r8_2 r8_3
    have hsz := Lib.hid (show (rrI (r8, true) i).2.2.1.size ≤ r8.size from rrI_size (r8, true) i)
    by_cases hi : i < m
    · have c0b : decide ((i : Int) < (m : Int)) = true := decide_eq_true (by omega)
      have x8_0 := (HL.out.at' 2 rfl).c 0 (by simp)
      simp only [List.getElem_cons_zero, List.getElem_cons_succ] at x8_0
      have l0 := (HL.out.at' 0 rfl).c 0 (by simp)
      have l1 := (HL.out.at' 0 rfl).c 1 (by simp)
      have l2 := (HL.out.at' 0 rfl).c 2 (by simp)
      have l3 := (HL.out.at' 0 rfl).c 3 (by simp)
      simp only [List.getElem_cons_zero, List.getElem_cons_succ] at l0 l1 l2 l3
      obtain ⟨k1, hk1⟩ : ∃ v, rdR (rrI (r8, true) i).2.2.1 (rrI (r8, true) i).2.2.2 32 = v := ⟨_, rfl⟩
      obtain ⟨k2, hk2⟩ : ∃ v, rdR k1.2.1 k1.2.2 64 = v := ⟨_, rfl⟩
      have hstep : rrI (r8, true) (i + 1) = ((rrI (r8, true) i).1 ++ [⟨k1.1, k2.1⟩], k2) := by
        show rrStep _ = _
        unfold rrStep
        rw [hk1, hk2]
      have hz1 : k1.2.1.size ≤ (rrI (r8, true) i).2.2.1.size := by have h := rdR_size (rrI (r8, true) i).2.2.1 (rrI (r8, true) i).2.2.2 32; rw [hk1] at h; exact h
      have hlen := rrI_length (r8, true) i
      have HSTEP := Lib.hid hstep
      have HK1 := Lib.hid hk1
      have HK2 := Lib.hid hk2
      have HZ1 := Lib.hid hz1
      have HLEN := Lib.hid hlen
      clear hstep hk1 hk2 hz1 hlen
      generalize rrI (r8, true) i = p at *
      go_wp2_with (go_at_call 29; refine (reads_is n p.2.1 p.2.2.1 p.2.2.2 32 (by have := hsz.out; have := Z8.out; have := HSS.out; omega) (by omega) _).mono ?_)
      rintro e w20 ⟨rfl, b20⟩
      rw [HK1.out]
      have B20 := HL.out.call b20
      have HB20 := Lib.hid (B20.push #[.int .i64 0, .string k1.1, .string k1.2.1, .bool k1.2.2] 67 (by simp))
      clear b20 B20 l0 l1 l2 l3 x8_0
      go_wp2_with (go_at_call 29; refine (reads_is 0 k1.1 k1.2.1 k1.2.2 64 (by have := HZ1.out; have := hsz.out; have := Z8.out; have := HSS.out; omega) (by omega) _).mono ?_)
      rintro e w21 ⟨rfl, b21⟩
      rw [HK2.out]
      have HB21 := Lib.hid (HB20.out.call b21)
      clear b21 HB20
      have m0 := (HB21.out.at' 1 rfl).c 0 (by simp)
      have m1 := (HB21.out.at' 1 rfl).c 1 (by simp)
      have m2 := (HB21.out.at' 1 rfl).c 2 (by simp)
      have m3 := (HB21.out.at' 1 rfl).c 3 (by simp)
      simp only [List.getElem_cons_zero, List.getElem_cons_succ] at m0 m1 m2 m3
      have zm0 := (HB21.out.at' 1 rfl).f 0
      have zm1 := (HB21.out.at' 1 rfl).f 1
      have zm2 := (HB21.out.at' 1 rfl).f 2
      have zm3 := (HB21.out.at' 1 rfl).f 3
      have HB22 := Lib.hid (Bk.store (pre := [_]) ((Bk.store (pre := [_]) ((Bk.store (pre := [_]) ((Bk.store (pre := [_]) (HB21.out) 0 (by simp) (.int .i64 0))) 1 (by simp) (.string k2.1))) 2 (by simp) (.string k2.2.1))) 3 (by simp) (.bool k2.2.2))
      simp only [List.set_cons_zero, List.set_cons_succ, List.cons_append, List.nil_append] at HB22
      clear HB21
      have y6 := (HB22.out.at' 2 rfl).c 6 (by simp)
      simp only [List.getElem_cons_zero, List.getElem_cons_succ] at y6
      have ky1 := (HB22.out.at' 0 rfl).c 1 (by simp)
      simp only [List.getElem_cons_zero, List.getElem_cons_succ] at ky1
      have nl1 := (HB22.out.at' 1 rfl).c 1 (by simp)
      simp only [List.getElem_cons_zero, List.getElem_cons_succ] at nl1
      go_wp2_with ((with_reducible refine gate_builtin (b := .append) (xs := #[.tmp 87, .tmp 93]) rfl ?_); (try (refine gate_guard (by rfl) ?_; dsimp only)); at_builtin; refine Kd.R_append k74 (w0 := w) w.heap.size rfl (.tmp 87) (.tmp 93) 39 74 (.agg #[(.string ⟨#[]⟩), (.string ⟨#[]⟩)]) 32 rfl Tryd.underlying39 info74 rfl (by decide) (by omega) (.slice A p.1.length c) p.1 (⟨k1.1, k2.1⟩ : S74) [.string k1.1, .string k2.1] (fun k => k ∉ [w20.heap.size, w8.heap.size + 1 + 1, w8.heap.size + 1, w8.heap.size, w7.heap.size, w6.heap.size, w5.heap.size, w4.heap.size, w3.heap.size, w2.heap.size, w1.heap.size, w.heap.size]) (fun _ => False) rfl (by first | (go_simp; done) | (go_simp; rfl)) ?aP (fun _ hk => hk.elim) ?aF ?aO ?aB ?aS ?aL ?_; (case aP => exact k74_mkM _ _ _ _); (case aF => exact (fun k hk hm => Nat.lt_irrefl k (Nat.lt_of_lt_of_le (HB22.out.lt (k := k) hm) hk))); (case aO => exact HB22.out.row); (case aB => exact HB22.out.bel); (case aS => exact HB22.out.bel.size); (case aL => exact (by have := HLEN.out; have := HM.out; omega)); intro v1x w22 hR hB hG hAt; have B23 := HB22.out.grown hR hB hG; obtain ⟨A1, c1x, e1⟩ := Kd.R_slice hR; have e5 : (p.1 ++ [(⟨k1.1, k2.1⟩ : S74)]).length = p.1.length + 1 := (by simp); rw [e5] at e1; subst e1; have y5 := (B23.at' 2 rfl).c 6 (by simp); have gy5 := (B23.at' 2 rfl).f 6; have HB24 := Lib.hid (Bk.drop (Bk.store (pre := [_, _]) B23 6 (by simp) (.slice A1 (p.1.length + 1) c1x))); have HE5 := Lib.hid e5; clear e5; simp only [List.getElem_cons_zero, List.getElem_cons_succ] at y5; clear hR hB hG hAt B23 HB22)
      go_roundg (gk - 1)
      case measure => have := HK.out; omega
      case rel =>
        refine ⟨i + 1, 0, A1, c1x, by rw [w_nat i (by have := HM.out; omega)], ⟨by have := HK.out; omega⟩, ⟨?_⟩⟩
        rw [HSTEP.out]
        dsimp only
        rw [HE5.out]
        exact HB24.out
    · have c0b : decide ((i : Int) < (m : Int)) = false := decide_eq_false (by omega)
      have e : i = m := by have := HK.out; omega
      subst e
      have x8_0 := (HL.out.at' 2 rfl).c 0 (by simp)
      simp only [List.getElem_cons_zero, List.getElem_cons_succ] at x8_0
      have q0 := (HL.out.at' 1 rfl).c 0 (by simp)
      have q1 := (HL.out.at' 1 rfl).c 1 (by simp)
      have q2 := (HL.out.at' 1 rfl).c 2 (by simp)
      have q3 := (HL.out.at' 1 rfl).c 3 (by simp)
      have q4 := (HL.out.at' 1 rfl).c 4 (by simp)
      have q5 := (HL.out.at' 1 rfl).c 5 (by simp)
      have q6 := (HL.out.at' 1 rfl).c 6 (by simp)
      have q7 := (HL.out.at' 1 rfl).c 7 (by simp)
      simp only [List.getElem_cons_zero, List.getElem_cons_succ] at q0 q1 q2 q3 q4 q5 q6 q7
      obtain ⟨A9, c9, e9, hc9, hC9⟩ := Kd.R_reads HL.out.row
      cases e9
      have HC9 := Lib.hid hC9
      have Hc9 := Lib.hid hc9
      clear hC9 hc9 HK
      go_wp2_with (go_at_call 34; refine (mayrep_is v1.1 v2.1 v3.1 v4.1 v5.1 (v6.1 == 1) A c (rrI (r8, true) i).1 (v7.1 == 1) kk mb _ HC9.out Hc9.out HMB.out).mono ?_)
      rintro e w30 ⟨rfl, b30⟩
      have HB30 := Lib.hid (HL.out.call b30)
      clear b30 HL HC9 Hc9 HMB x8_0 q0 q1 q2 q3 q4 q5 q6 q7
      have l2 := (HB30.out.at' 0 rfl).c 2 (by simp)
      have l3 := (HB30.out.at' 0 rfl).c 3 (by simp)
      simp only [List.getElem_cons_zero, List.getElem_cons_succ] at l2 l3
      have p0 := (HB30.out.at' 1 rfl).c 0 (by simp)
      have p1 := (HB30.out.at' 1 rfl).c 1 (by simp)
      have p2 := (HB30.out.at' 1 rfl).c 2 (by simp)
      have p3 := (HB30.out.at' 1 rfl).c 3 (by simp)
      have p4 := (HB30.out.at' 1 rfl).c 4 (by simp)
      have p5 := (HB30.out.at' 1 rfl).c 5 (by simp)
      have p6 := (HB30.out.at' 1 rfl).c 6 (by simp)
      have p7 := (HB30.out.at' 1 rfl).c 7 (by simp)
      simp only [List.getElem_cons_zero, List.getElem_cons_succ] at p0 p1 p2 p3 p4 p5 p6 p7
      have y0 := (HB30.out.at' 10 rfl).c 0 (by simp)
      have y1 := (HB30.out.at' 10 rfl).c 1 (by simp)
      have y2 := (HB30.out.at' 10 rfl).c 2 (by simp)
      have y3 := (HB30.out.at' 10 rfl).c 3 (by simp)
      have y4 := (HB30.out.at' 10 rfl).c 4 (by simp)
      have y5 := (HB30.out.at' 10 rfl).c 5 (by simp)
      have y6 := (HB30.out.at' 10 rfl).c 6 (by simp)
      have y7 := (HB30.out.at' 10 rfl).c 7 (by simp)
      simp only [List.getElem_cons_zero, List.getElem_cons_succ] at y0 y1 y2 y3 y4 y5 y6 y7
      have zy0 := (HB30.out.at' 10 rfl).f 0
      have zy1 := (HB30.out.at' 10 rfl).f 1
      have zy2 := (HB30.out.at' 10 rfl).f 2
      have zy3 := (HB30.out.at' 10 rfl).f 3
      have zy4 := (HB30.out.at' 10 rfl).f 4
      have zy5 := (HB30.out.at' 10 rfl).f 5
      have zy6 := (HB30.out.at' 10 rfl).f 6
      have zy7 := (HB30.out.at' 10 rfl).f 7
      have HQ := Lib.hid (HB30.out.at' 10 rfl)
      have HBB := Lib.hid HB30.out.bel
      have HRW := Lib.hid HB30.out.row
      clear HB30
      by_cases hi : (rrI (r8, true) i).2.2.2 = false
      · have ci := hi
        have eP := HP.out
        rw [if_pos hi] at eP
        subst eP
        clear HP
        clear hi
        go_wp2
        have KF := ((((((((HQ.out).set 0 (by simp) (.int .i64 0)).set 1 (by simp) (.int .i64 0)).set 2 (by simp) (.int .i64 0)).set 3 (by simp) (.int .i64 0)).set 4 (by simp) (.string ⟨#[]⟩)).set 5 (by simp) (.bool false)).set 6 (by simp) (.slice none 0 0)).set 7 (by simp) (.bool false)
        try simp only [Exit.inBlock, Exit.then]
        have HLD := load_rep _ _ _ KF (.int .i64 0) (.int .i64 0) (.int .i64 0) (.int .i64 0) (.string ⟨#[]⟩) (.bool false) (.slice none 0 0) (.bool false) rfl
        refine bodyPost_ret (results_cell_tmp Tryd.results18 _ _ _ ⟨w.heap.size, 0, none⟩ _ rfl HLD) rfl ?_
        refine ⟨.slice none 0 0, ?_, ?_, ?_⟩
        · rfl
        · exact Kd.R_nil _ _ _ _ _
        · exact ((((((((HBB.out).setCell (p := ⟨w.heap.size, _, none⟩) (Nat.le_refl _) _).setCell (p := ⟨w.heap.size, _, none⟩) (Nat.le_refl _) _).setCell (p := ⟨w.heap.size, _, none⟩) (Nat.le_refl _) _).setCell (p := ⟨w.heap.size, _, none⟩) (Nat.le_refl _) _).setCell (p := ⟨w.heap.size, _, none⟩) (Nat.le_refl _) _).setCell (p := ⟨w.heap.size, _, none⟩) (Nat.le_refl _) _).setCell (p := ⟨w.heap.size, _, none⟩) (Nat.le_refl _) _).setCell (p := ⟨w.heap.size, _, none⟩) (Nat.le_refl _) _
      · have ci : (rrI (r8, true) i).2.2.2 = true := by simpa using hi
        by_cases hz : ¬ (rrI (r8, true) i).2.2.1.size = 0
        · have cz : decide (0 < ((rrI (r8, true) i).2.2.1.size : Int)) = true := decide_eq_true (by omega)
          have cy : decide (0 < (rrI (r8, true) i).2.2.1.size) = true := decide_eq_true (by omega)
          have eP := HP.out
          rw [if_neg hi, if_pos hz] at eP
          subst eP
          clear HP
          clear hi hz
          cases mb with
          | false =>
            go_wp2
            have KF := ((((((((HQ.out).set 0 (by simp) (.int .i64 0)).set 1 (by simp) (.int .i64 0)).set 2 (by simp) (.int .i64 0)).set 3 (by simp) (.int .i64 0)).set 4 (by simp) (.string ⟨#[]⟩)).set 5 (by simp) (.bool false)).set 6 (by simp) (.slice none 0 0)).set 7 (by simp) (.bool false)
            try simp only [Exit.inBlock, Exit.then]
            have HLD := load_rep _ _ _ KF (.int .i64 0) (.int .i64 0) (.int .i64 0) (.int .i64 0) (.string ⟨#[]⟩) (.bool false) (.slice none 0 0) (.bool false) rfl
            refine bodyPost_ret (results_cell_tmp Tryd.results18 _ _ _ ⟨w.heap.size, 0, none⟩ _ rfl HLD) rfl ?_
            refine ⟨.slice none 0 0, ?_, ?_, ?_⟩
            · rfl
            · exact Kd.R_nil _ _ _ _ _
            · exact ((((((((HBB.out).setCell (p := ⟨w.heap.size, _, none⟩) (Nat.le_refl _) _).setCell (p := ⟨w.heap.size, _, none⟩) (Nat.le_refl _) _).setCell (p := ⟨w.heap.size, _, none⟩) (Nat.le_refl _) _).setCell (p := ⟨w.heap.size, _, none⟩) (Nat.le_refl _) _).setCell (p := ⟨w.heap.size, _, none⟩) (Nat.le_refl _) _).setCell (p := ⟨w.heap.size, _, none⟩) (Nat.le_refl _) _).setCell (p := ⟨w.heap.size, _, none⟩) (Nat.le_refl _) _).setCell (p := ⟨w.heap.size, _, none⟩) (Nat.le_refl _) _
          | true =>
            go_wp2
            have KF := ((((((((HQ.out).set 0 (by simp) (.int .i64 0)).set 1 (by simp) (.int .i64 0)).set 2 (by simp) (.int .i64 0)).set 3 (by simp) (.int .i64 0)).set 4 (by simp) (.string ⟨#[]⟩)).set 5 (by simp) (.bool false)).set 6 (by simp) (.slice none 0 0)).set 7 (by simp) (.bool false)
            try simp only [Exit.inBlock, Exit.then]
            have HLD := load_rep _ _ _ KF (.int .i64 0) (.int .i64 0) (.int .i64 0) (.int .i64 0) (.string ⟨#[]⟩) (.bool false) (.slice none 0 0) (.bool false) rfl
            refine bodyPost_ret (results_cell_tmp Tryd.results18 _ _ _ ⟨w.heap.size, 0, none⟩ _ rfl HLD) rfl ?_
            refine ⟨.slice none 0 0, ?_, ?_, ?_⟩
            · rfl
            · exact Kd.R_nil _ _ _ _ _
            · exact ((((((((HBB.out).setCell (p := ⟨w.heap.size, _, none⟩) (Nat.le_refl _) _).setCell (p := ⟨w.heap.size, _, none⟩) (Nat.le_refl _) _).setCell (p := ⟨w.heap.size, _, none⟩) (Nat.le_refl _) _).setCell (p := ⟨w.heap.size, _, none⟩) (Nat.le_refl _) _).setCell (p := ⟨w.heap.size, _, none⟩) (Nat.le_refl _) _).setCell (p := ⟨w.heap.size, _, none⟩) (Nat.le_refl _) _).setCell (p := ⟨w.heap.size, _, none⟩) (Nat.le_refl _) _).setCell (p := ⟨w.heap.size, _, none⟩) (Nat.le_refl _) _
        · have cz : decide (0 < ((rrI (r8, true) i).2.2.1.size : Int)) = false := decide_eq_false (by omega)
          have cy : decide (0 < (rrI (r8, true) i).2.2.1.size) = false := decide_eq_false (by omega)
          cases mb with
          | false =>
            have eP := HP.out
            rw [if_neg hi, if_neg hz, if_neg (by decide)] at eP
            subst eP
            clear HP
            clear hi hz
            go_wp2
            have KF := ((((((((HQ.out).set 0 (by simp) (.int .i64 0)).set 1 (by simp) (.int .i64 0)).set 2 (by simp) (.int .i64 0)).set 3 (by simp) (.int .i64 0)).set 4 (by simp) (.string ⟨#[]⟩)).set 5 (by simp) (.bool false)).set 6 (by simp) (.slice none 0 0)).set 7 (by simp) (.bool false)
            try simp only [Exit.inBlock, Exit.then]
            have HLD := load_rep _ _ _ KF (.int .i64 0) (.int .i64 0) (.int .i64 0) (.int .i64 0) (.string ⟨#[]⟩) (.bool false) (.slice none 0 0) (.bool false) rfl
            refine bodyPost_ret (results_cell_tmp Tryd.results18 _ _ _ ⟨w.heap.size, 0, none⟩ _ rfl HLD) rfl ?_
            refine ⟨.slice none 0 0, ?_, ?_, ?_⟩
            · rfl
            · exact Kd.R_nil _ _ _ _ _
            · exact ((((((((HBB.out).setCell (p := ⟨w.heap.size, _, none⟩) (Nat.le_refl _) _).setCell (p := ⟨w.heap.size, _, none⟩) (Nat.le_refl _) _).setCell (p := ⟨w.heap.size, _, none⟩) (Nat.le_refl _) _).setCell (p := ⟨w.heap.size, _, none⟩) (Nat.le_refl _) _).setCell (p := ⟨w.heap.size, _, none⟩) (Nat.le_refl _) _).setCell (p := ⟨w.heap.size, _, none⟩) (Nat.le_refl _) _).setCell (p := ⟨w.heap.size, _, none⟩) (Nat.le_refl _) _).setCell (p := ⟨w.heap.size, _, none⟩) (Nat.le_refl _) _
          | true =>
            have eP := HP.out
            rw [if_neg hi, if_neg hz, if_pos rfl] at eP
            subst eP
            clear HP
            clear hi hz
            go_wp2
            have KF := ((((((((HQ.out).set 0 (by simp) (.int .i64 v1.1)).set 1 (by simp) (.int .i64 v2.1)).set 2 (by simp) (.int .i64 v3.1)).set 3 (by simp) (.int .i64 v4.1)).set 4 (by simp) (.string v5.1)).set 5 (by simp) (.bool (v6.1 == 1))).set 6 (by simp) (.slice A (rrI (r8, true) i).1.length c)).set 7 (by simp) (.bool (v7.1 == 1))
            try simp only [Exit.inBlock, Exit.then]
            have HLD := load_rep _ _ _ KF (.int .i64 v1.1) (.int .i64 v2.1) (.int .i64 v3.1) (.int .i64 v4.1) (.string v5.1) (.bool (v6.1 == 1)) (.slice A (rrI (r8, true) i).1.length c) (.bool (v7.1 == 1)) rfl
            refine bodyPost_ret (results_cell_tmp Tryd.results18 _ _ _ ⟨w.heap.size, 0, none⟩ _ rfl HLD) rfl ?_
            refine ⟨.slice A (rrI (r8, true) i).1.length c, ?_, ?_, ?_⟩
            · rfl
            · exact Kd.R_mono (Kd.R_step (Kd.R_step (Kd.R_step (Kd.R_step (Kd.R_step (Kd.R_step (Kd.R_step (Kd.R_step (HRW.out) (fun k hk _ => Below.heap_setCell _ _ _ k (fun e => hk (by rw [e]; simp)))) (fun k hk _ => Below.heap_setCell _ _ _ k (fun e => hk (by rw [e]; simp)))) (fun k hk _ => Below.heap_setCell _ _ _ k (fun e => hk (by rw [e]; simp)))) (fun k hk _ => Below.heap_setCell _ _ _ k (fun e => hk (by rw [e]; simp)))) (fun k hk _ => Below.heap_setCell _ _ _ k (fun e => hk (by rw [e]; simp)))) (fun k hk _ => Below.heap_setCell _ _ _ k (fun e => hk (by rw [e]; simp)))) (fun k hk _ => Below.heap_setCell _ _ _ k (fun e => hk (by rw [e]; simp)))) (fun k hk _ => Below.heap_setCell _ _ _ k (fun e => hk (by rw [e]; simp)))) (fun _ _ => trivial)
            · exact ((((((((HBB.out).setCell (p := ⟨w.heap.size, _, none⟩) (Nat.le_refl _) _).setCell (p := ⟨w.heap.size, _, none⟩) (Nat.le_refl _) _).setCell (p := ⟨w.heap.size, _, none⟩) (Nat.le_refl _) _).setCell (p := ⟨w.heap.size, _, none⟩) (Nat.le_refl _) _).setCell (p := ⟨w.heap.size, _, none⟩) (Nat.le_refl _) _).setCell (p := ⟨w.heap.size, _, none⟩) (Nat.le_refl _) _).setCell (p := ⟨w.heap.size, _, none⟩) (Nat.le_refl _) _).setCell (p := ⟨w.heap.size, _, none⟩) (Nat.le_refl _) _
end Go.Proofs.YtlpcidjmaeicoaaDoor.Reader
namespace Go.Proofs.YtlpcidjmaeicoaaDoor.QWi
open Go Go.RowKit Go.Proofs.YtlpcidjmaeicoaaDoor.Reader
def nr {α : Type} (x : ByteArray × Bool) (f : Int → ByteArray × Bool → α) : α := f (tkR x.1 x.2).1 (tkR x.1 x.2).2
def tr {α : Type} (x : ByteArray × Bool) (m : Int) (f : ByteArray → ByteArray × Bool → α) : α := f (rdR x.1 x.2 m).1 (rdR x.1 x.2 m).2
theorem nr_of {α : Type} {x : ByteArray × Bool} {v : Int × ByteArray × Bool} (f : Int → ByteArray × Bool → α) (h : tkR x.1 x.2 = v) : nr x f = f v.1 v.2 := by
  subst h
  rfl
theorem tr_of {α : Type} {x : ByteArray × Bool} {m : Int} {v : ByteArray × ByteArray × Bool} (f : ByteArray → ByteArray × Bool → α) (h : rdR x.1 x.2 m = v) : tr x m f = f v.1 v.2 := by
  subst h
  rfl
end Go.Proofs.YtlpcidjmaeicoaaDoor.QWi
namespace Go.Proofs.YtlpcidjmaeicoaaDoor.DecPure
open Go Go.Proofs.YtlpcidjmaeicoaaDoor.DecM Go.Proofs.YtlpcidjmaeicoaaDoor.Giv
theorem text_was (s : ByteArray) (most : Int) (h : (takeText s most).2.2 = 0) : s = textS (takeText s most).1 ++ (takeText s most).2.1 ∧ ((takeText s most).1.size : Int) ≤ most ∧ (takeText s most).1.size < two64 := by
  unfold takeText at h ⊢
  by_cases h1 : ¬ (takeNum s).2.2 = 0
  · rw [if_pos h1] at h
    exact absurd h h1
  rw [if_neg h1] at h ⊢
  by_cases h2 : most < 0 ∨ (takeNum s).1 > most
  · rw [if_pos h2] at h
    cases h
  rw [if_neg h2] at h ⊢
  by_cases h3 : (takeNum s).1 > (takeNum s).2.1.size
  · rw [if_pos h3] at h
    cases h
  rw [if_neg h3]
  have h1' : (takeNum s).2.2 = 0 := Decidable.not_not.mp h1
  obtain ⟨n, e1, e2, e⟩ := take_was (s := s) (v := (takeNum s).1) (r := (takeNum s).2.1) (by rw [← h1'])
  clear h h1 h1'
  generalize (takeNum s).2.1 = r at *
  generalize (takeNum s).1 = v at *
  subst e1
  simp only [Int.toNat_natCast]
  have hn : n ≤ r.size := by omega
  have hsz : (r.extract 0 n).size = n := by
    rw [ByteArray.size_extract]
    omega
  refine ⟨?_, by rw [hsz]; omega, by rw [hsz]; exact e2⟩
  rw [e]
  unfold textS
  rw [hsz, ByteArray.append_assoc]
  congr 1
  apply bytes_ext
  rw [data_append, ext_upto, ext_from, List.take_append_drop]
end Go.Proofs.YtlpcidjmaeicoaaDoor.DecPure
namespace Go.Proofs.YtlpcidjmaeicoaaDoor.Enc
open Go Go.RowKit Go.Proofs.YtlpcidjmaeicoaaDoor.DecM Go.Proofs.YtlpcidjmaeicoaaDoor.Giv Go.Proofs.YtlpcidjmaeicoaaDoor.Wire Go.Proofs.YtlpcidjmaeicoaaDoor.Reader
theorem asc (a b c : ByteArray) : a ++ b ++ c = a ++ (b ++ c) := by
  apply bytes_ext
  simp only [data_append, List.append_assoc]
theorem app_empty (a : ByteArray) : a ++ (⟨#[]⟩ : ByteArray) = a := by
  apply bytes_ext
  simp only [data_append, List.append_nil]
theorem size_nil {s : ByteArray} (h : s.size = 0) : s = (⟨#[]⟩ : ByteArray) := by
  apply bytes_ext
  have := len_size s
  rw [h] at this
  exact List.eq_nil_of_length_eq_zero this
theorem nx_bad {α : Type} (s : ByteArray) (m : Int) (f : Int → ByteArray × Bool → α) : nx (s, true) m f = f 0 (s, true) :=
  nx_of (x := (s, true)) (v := (0, s, true)) f (if_pos (.inl rfl))
theorem tx_bad {α : Type} (s : ByteArray) (m : Int) (f : ByteArray → ByteArray × Bool → α) : tx (s, true) m f = f ByteArray.empty (s, true) :=
  tx_of (x := (s, true)) (v := (ByteArray.empty, s, true)) f (if_pos (.inl rfl))
theorem nx_back {α : Type} (n : Int) (r : ByteArray) (m : Int) (f : Int → ByteArray × Bool → α) (hn : 0 ≤ n ∧ n ≤ m) (hm : m ≤ 1073741824) : nx (numS n.toNat ++ r, false) m f = f n (r, false) := by
  have e := take_back n.toNat (by unfold two64; omega) r
  have en : ((n.toNat : Nat) : Int) = n := by omega
  rw [en] at e
  refine nx_of f (?_ : _ = (n, r, false))
  show numR (numS n.toNat ++ r) false m = _
  unfold numR
  rw [e]
  exact if_neg (by simp; omega)
theorem tx_back {α : Type} (t r : ByteArray) (m : Int) (f : ByteArray → ByteArray × Bool → α) (ht : (t.size : Int) ≤ m) (hm : m ≤ 1073741824) : tx (textS t ++ r, false) m f = f t (r, false) := by
  have e := DecPure.text_back t r m (by omega)
  rw [if_neg (by omega)] at e
  refine tx_of f (?_ : _ = (t, r, false))
  show textR (textS t ++ r) false m = _
  unfold textR
  rw [e]
  exact if_neg (by simp)
theorem nx_rule {s : ByteArray} {m : Int} {f : Int → ByteArray × Bool → Prop} (h0 : f 0 (s, true)) (h1 : ∀ (n : Int) (r : ByteArray), 0 ≤ n ∧ n ≤ m → s = numS n.toNat ++ r → f n (r, false)) : nx (s, false) m f := by
  by_cases hc : false = true ∨ ¬ (takeNum s).2.2 = 0 ∨ (takeNum s).1 > m
  · rw [nx_of f (show numR s false m = (0, s, true) from if_pos hc)]
    exact h0
  · rw [nx_of f (show numR s false m = ((takeNum s).1, (takeNum s).2.1, false) from if_neg hc)]
    simp only [not_or, Classical.not_not] at hc
    obtain ⟨n, e1, e2, e3⟩ := take_was (s := s) (v := (takeNum s).1) (r := (takeNum s).2.1) (by rw [← hc.2.1])
    refine h1 _ _ ⟨by omega, by omega⟩ ?_
    rw [e1, Int.toNat_natCast]
    exact e3
theorem tx_rule {s : ByteArray} {m : Int} {f : ByteArray → ByteArray × Bool → Prop} (h0 : f ByteArray.empty (s, true)) (h1 : ∀ (t r : ByteArray), (t.size : Int) ≤ m → s = textS t ++ r → f t (r, false)) : tx (s, false) m f := by
  by_cases hc : false = true ∨ ¬ (takeText s m).2.2 = 0
  · rw [tx_of f (show textR s false m = (ByteArray.empty, s, true) from if_pos hc)]
    exact h0
  · rw [tx_of f (show textR s false m = ((takeText s m).1, (takeText s m).2.1, false) from if_neg hc)]
    simp only [not_or, Classical.not_not] at hc
    obtain ⟨e1, e2, e3⟩ := DecPure.text_was s m hc.2
    exact h1 _ _ e2 e1
theorem nums_one (a : Int) : numsS [a] = numS a.toNat := by
  apply bytes_ext
  simp [numsS, numP, glue]
theorem nums_cons (a b : Int) (l : List Int) : numsS (a :: b :: l) = numS a.toNat ++ numsS (b :: l) := by
  apply bytes_ext
  rw [data_append]
  simp [numsS, numP, glue]
theorem texts_one (t : ByteArray) : textsW [t] = textS t := by
  apply bytes_ext
  simp [textsW, textP, glue, textW, textS]
theorem texts_cons (t u : ByteArray) (l : List ByteArray) : textsW (t :: u :: l) = textS t ++ textsW (u :: l) := by
  apply bytes_ext
  rw [data_append]
  simp [textsW, textP, glue, textW, textS]
theorem numS_le (d n : Nat) (h : n < 10 ^ (d + 1)) : (numS n).size ≤ d + 2 := by
  have h1 := numL_len d n h
  unfold numS
  rw [strOfNums_size, List.length_append]
  simp
  omega
theorem numS_ge (n : Nat) : 1 ≤ (numS n).size := by
  unfold numS
  rw [strOfNums_size, List.length_append]
  simp
theorem num_size (n : Int) (h : 0 ≤ n ∧ n ≤ 1073741824) : (numS n.toNat).size ≤ 11 := numS_le 9 n.toNat (by omega)
theorem text_size (t : ByteArray) (h : t.size ≤ 64) : (textS t).size ≤ 3 + t.size := by
  have := numS_le 1 t.size (by omega)
  unfold textS
  rw [ByteArray.size_append]
  omega
theorem glue_len (l : List ByteArray) (d : Nat) (h : ∀ t ∈ l, t.size ≤ d) : (glue l).length ≤ d * l.length := by
  induction l with
  | nil => exact Nat.zero_le _
  | cons t l ih =>
    have e : glue (t :: l) = t.data.toList ++ glue l := rfl
    have h1 := h t (List.mem_cons_self ..)
    have h2 := ih fun u hu => h u (List.mem_cons_of_mem _ hu)
    rw [e, List.length_append, List.length_cons, len_size, Nat.mul_succ]
    omega
theorem nums_some (l : List Int) (hl : l.length ≤ 16) (h : ∀ x ∈ l, 0 ≤ x ∧ x ≤ 1073741824) : QWi.wire_nums.f l = some (numsS l) := by
  unfold QWi.wire_nums.f
  rw [if_pos ⟨by omega, List.all_eq_true.2 fun x hx => by have := h x hx; simp; omega⟩]
theorem texts_some (l : List ByteArray) (hl : l.length ≤ 16) (h : ∀ t ∈ l, t.size ≤ 64) : QWi.wire_texts.f l = some (textsW l) := by
  unfold QWi.wire_texts.f
  have h1 := glue_len (textP l) 67 (fun t ht => by
    obtain ⟨u, hu, rfl⟩ := List.mem_map.1 ht
    have := h u hu
    have h2 : (textW u).size ≤ 3 + u.size := text_size u this
    omega)
  have h2 : (textP l).length = l.length := List.length_map ..
  rw [h2] at h1
  rw [if_pos ⟨by omega, by omega⟩]
end Go.Proofs.YtlpcidjmaeicoaaDoor.Enc
