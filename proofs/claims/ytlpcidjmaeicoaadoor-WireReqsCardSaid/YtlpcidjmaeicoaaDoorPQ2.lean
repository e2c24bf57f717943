/- Part of the proof of the statement WireReqs, as a card; what is proved, and on which condition, stands at the head of YtlpcidjmaeicoaaDoorPQ5 (texts QWix4, TakeReq, MayQ, Next, TakeReqC, QWix3, QWix16, RefTake, QWix8) -/
import Derived.Handy
import Derived.Test.YtlpcidjmaeicoaaDoorPQ1
/-! QWix4 -/
namespace Go.Proofs.YtlpcidjmaeicoaaDoor.QWi
open Go.RowKit Go.Proofs.YtlpcidjmaeicoaaDoorW.PrintWords Go.Proofs.YtlpcidjmaeicoaaDoorW.PrintLast Go.Proofs.YtlpcidjmaeicoaaDoorW.PrintMore
attribute [local go_sem] max2_int min2_int max_two min_two max_three min_three max_four min_four   -- for this text's walks alone
set_option linter.unusedVariables false
set_option linter.unusedSimpArgs false

attribute [local go_sem high] eqA23
/-! ### wire_num: function 30 -/
def wire_num.f (a0 : Int) : Option (Bool) := if a0 ≥ 0 then (some (decide (a0 ≤ 1073741824))) else (some false)
set_option maxHeartbeats 8000000 in
set_option maxRecDepth 100000 in
theorem wire_num.calls (a0 : Int) (r : Bool) (w : World) (h : wire_num.f a0 = some r) :
    Calls Tryd.prog 30 #[.int .i64 a0] w fun e w' => e = .returned (.bool r) ∧ Drawn0 w w' := by
  have H : (if a0 ≥ 0 then (some (decide (a0 ≤ 1073741824))) else (some false)) = some r := h
  clear h
  by_cases c2 : a0 ≥ 0
  · rw [if_pos c2] at H
    have c2b0 : decide (0 ≤ a0) = true := decide_eq_true c2
    clear c2
    obtain rfl := Option.some.inj H
    go_enter Tryd.func30, Tryd.ntmps30
    go_wp2
    go_ret
    exact ⟨by first | rfl | (simp; done) | (simp [*]; done), by repeat (first | exact Drawn0.refl _ | apply Drawn0.step)⟩
  · rw [if_neg c2] at H
    have c2b0 : decide (0 ≤ a0) = false := decide_eq_false c2
    clear c2
    obtain rfl := Option.some.inj H
    go_enter Tryd.func30, Tryd.ntmps30
    go_wp2
    go_ret
    exact ⟨by first | rfl | (simp; done) | (simp [*]; done), by repeat (first | exact Drawn0.refl _ | apply Drawn0.step)⟩

/-! ### wire_MayReq: function 13 -/
def wire_MayReq.j0 : Nat → Bool → Int → Int → Int → Int → ByteArray → Int → ByteArray → ByteArray → ByteArray → ByteArray → Int → Option (Bool)
  | 0, _, _, _, _, _, _, _, _, _, _, _, _ => none
  | k + 1, x35, x102000, x102001, x102002, x102003, x102004, x102005, x102006, x102007, x102008, x102009, x102010 => if x35 = true then (some false) else (if x102000 = 5 then (if x102004.toList = ([] : List UInt8) then (if x102005 ≥ 1 then (if x102005 ≤ 6 then (if (x102006.size : Int) ≤ 32 then (if (x102008.size : Int) ≤ 32 then (if (x102009.size : Int) ≤ 32 then (if (x102007.size : Int) ≤ 64 then ((wire_num.f x102010).bind fun t106 => (some t106)) else (some false)) else (some false)) else (some false)) else (some false)) else (some false)) else (some false)) else (some false)) else (if (x102005 == 0 && (x102006.toList.isEmpty && (x102007.toList.isEmpty && (x102008.toList.isEmpty && (x102009.toList.isEmpty && (x102010 == 0)))))) = true then (if x102004.toList = ([] : List UInt8) then (some true) else (if x102000 = 4 then (some true) else (some (x102000 == 6)))) else (some false)))
def wire_MayReq.f (k : Nat) (a0_0 : Int) (a0_1 : Int) (a0_2 : Int) (a0_3 : Int) (a0_4 : ByteArray) (a0_5 : Int) (a0_6 : ByteArray) (a0_7 : ByteArray) (a0_8 : ByteArray) (a0_9 : ByteArray) (a0_10 : Int) : Option (Bool) := if a0_0 < 1 then (wire_MayReq.j0 k true a0_0 a0_1 a0_2 a0_3 a0_4 a0_5 a0_6 a0_7 a0_8 a0_9 a0_10) else (if a0_0 > 6 then (wire_MayReq.j0 k true a0_0 a0_1 a0_2 a0_3 a0_4 a0_5 a0_6 a0_7 a0_8 a0_9 a0_10) else ((wire_num.f a0_1).bind fun t102 => (if t102 = true then ((wire_num.f a0_2).bind fun t103 => (if t103 = true then ((wire_num.f a0_3).bind fun t104 => (if t104 = true then (wire_MayReq.j0 k (decide ((a0_4.size : Int) > 16)) a0_0 a0_1 a0_2 a0_3 a0_4 a0_5 a0_6 a0_7 a0_8 a0_9 a0_10) else (wire_MayReq.j0 k true a0_0 a0_1 a0_2 a0_3 a0_4 a0_5 a0_6 a0_7 a0_8 a0_9 a0_10))) else (wire_MayReq.j0 k true a0_0 a0_1 a0_2 a0_3 a0_4 a0_5 a0_6 a0_7 a0_8 a0_9 a0_10))) else (wire_MayReq.j0 k true a0_0 a0_1 a0_2 a0_3 a0_4 a0_5 a0_6 a0_7 a0_8 a0_9 a0_10))))
set_option maxHeartbeats 8000000 in
set_option maxRecDepth 100000 in
theorem wire_MayReq.calls (k : Nat) (a0_0 : Int) (a0_1 : Int) (a0_2 : Int) (a0_3 : Int) (a0_4 : ByteArray) (a0_5 : Int) (a0_6 : ByteArray) (a0_7 : ByteArray) (a0_8 : ByteArray) (a0_9 : ByteArray) (a0_10 : Int) (r : Bool) (w : World) (h : wire_MayReq.f k a0_0 a0_1 a0_2 a0_3 a0_4 a0_5 a0_6 a0_7 a0_8 a0_9 a0_10 = some r) :
    Calls Tryd.prog 13 #[.agg #[.int .i64 a0_0, .int .i64 a0_1, .int .i64 a0_2, .int .i64 a0_3, .string a0_4, .int .i64 a0_5, .string a0_6, .string a0_7, .string a0_8, .string a0_9, .int .i64 a0_10]] w fun e w' => e = .returned (.bool r) ∧ Below w.heap.size w w' := by
  have hu25 := Tryd.underlying25
  have hu23 := Tryd.underlying23
  have HB := Aside0.mk (Below.refl w.heap.size w)
  have H : (if a0_0 < 1 then (wire_MayReq.j0 k true a0_0 a0_1 a0_2 a0_3 a0_4 a0_5 a0_6 a0_7 a0_8 a0_9 a0_10) else (if a0_0 > 6 then (wire_MayReq.j0 k true a0_0 a0_1 a0_2 a0_3 a0_4 a0_5 a0_6 a0_7 a0_8 a0_9 a0_10) else ((wire_num.f a0_1).bind fun t102 => (if t102 = true then ((wire_num.f a0_2).bind fun t103 => (if t103 = true then ((wire_num.f a0_3).bind fun t104 => (if t104 = true then (wire_MayReq.j0 k (decide ((a0_4.size : Int) > 16)) a0_0 a0_1 a0_2 a0_3 a0_4 a0_5 a0_6 a0_7 a0_8 a0_9 a0_10) else (wire_MayReq.j0 k true a0_0 a0_1 a0_2 a0_3 a0_4 a0_5 a0_6 a0_7 a0_8 a0_9 a0_10))) else (wire_MayReq.j0 k true a0_0 a0_1 a0_2 a0_3 a0_4 a0_5 a0_6 a0_7 a0_8 a0_9 a0_10))) else (wire_MayReq.j0 k true a0_0 a0_1 a0_2 a0_3 a0_4 a0_5 a0_6 a0_7 a0_8 a0_9 a0_10))))) = some r := h
  clear h
  have HC2 := Aside0.mk H
  clear H
  go_enter Tryd.func13, Tryd.ntmps13
  go_upto_region 1 with (first | ((with_reducible refine gate_dst (N := 1) rfl ?_); (try (refine gate_guard (by rfl) ?_; dsimp only)); refine box_event ?hg (N := 1) ?hd (cs := #[.int .i64 a0_0, .int .i64 a0_1, .int .i64 a0_2, .int .i64 a0_3, .string a0_4, .int .i64 a0_5, .string a0_6, .string a0_7, .string a0_8, .string a0_9, .int .i64 a0_10]) (t := 25) ?hr ?_; (case hd => rfl); (case hg => rfl); (case hr => first | (go_simp; done) | (go_simp; rfl)); intro gb101 hg w3 hbox hb; have n0_ := Aside0.mk (below_step (by repeat (first | (with_reducible first | exact HB.out | apply below_alloc | apply pw_below_drewN | apply below_drew1) | exact HB.out)) hb); have n1_ := Aside0.mk (hbox); have n2_ := Aside0.mk ((by rw [hg]; exact (below_size (by repeat (first | (with_reducible first | exact HB.out | apply below_alloc | apply pw_below_drewN | apply below_drew1) | exact HB.out))) : w.heap.size ≤ gb101)); have n3_ := Aside0.mk ((by rw [hg]; exact (below_size (by repeat (first | (with_reducible first | exact HB.out | apply below_alloc | apply pw_below_drewN | apply below_drew1) | exact HB.out))) : w.heap.size ≤ gb101)); clear HB; have HB := n0_; have BK101 := n1_; have GW101 := n2_; have GE101 := n3_; clear n0_ n1_ n2_ n3_; clear hb hbox hg))
  (try simp only [Act.put, List.setIfInBounds_toArray, List.set_cons_zero, List.set_cons_succ])
  go_cut [35] (fun v35 wc => ∃ (kq : Nat) (x35_1 : Bool), v35 = .bool x35_1 ∧ Aside0 (wire_MayReq.j0 kq x35_1 a0_0 a0_1 a0_2 a0_3 a0_4 a0_5 a0_6 a0_7 a0_8 a0_9 a0_10 = some r) ∧ Aside0 (kq ≤ k) ∧ Aside0 (wc.heap[gb101]? = some (.cells #[.int .i64 a0_0, .int .i64 a0_1, .int .i64 a0_2, .int .i64 a0_3, .string a0_4, .int .i64 a0_5, .string a0_6, .string a0_7, .string a0_8, .string a0_9, .int .i64 a0_10] 25 (0, 0))) ∧ Aside0 (Below w.heap.size w wc))
  case first =>
    have H := HC2.out
    clear HC2
    by_cases c4 : a0_0 < 1
    · rw [if_pos c4] at H
      have c4b0 : decide (a0_0 < 1) = true := decide_eq_true c4
      clear c4
      (first | rw [c4b0] | (simp only [i64_w, i32_w]; rw [c4b0]) | skip)
      have H' := Aside0.mk H
      clear H
      have hcz5_0 : w3.cell? ⟨gb101, 0, none⟩ = some (.int .i64 a0_0) := (blk_cell BK101.out 0).trans rfl
      have hcz5_1 : w3.cell? ⟨gb101, 1, none⟩ = some (.int .i64 a0_1) := (blk_cell BK101.out 1).trans rfl
      have hcz5_2 : w3.cell? ⟨gb101, 2, none⟩ = some (.int .i64 a0_2) := (blk_cell BK101.out 2).trans rfl
      have hcz5_3 : w3.cell? ⟨gb101, 3, none⟩ = some (.int .i64 a0_3) := (blk_cell BK101.out 3).trans rfl
      have hcz5_4 : w3.cell? ⟨gb101, 4, none⟩ = some (.string a0_4) := (blk_cell BK101.out 4).trans rfl
      have hcz5_5 : w3.cell? ⟨gb101, 5, none⟩ = some (.int .i64 a0_5) := (blk_cell BK101.out 5).trans rfl
      have hcz5_6 : w3.cell? ⟨gb101, 6, none⟩ = some (.string a0_6) := (blk_cell BK101.out 6).trans rfl
      have hcz5_7 : w3.cell? ⟨gb101, 7, none⟩ = some (.string a0_7) := (blk_cell BK101.out 7).trans rfl
      have hcz5_8 : w3.cell? ⟨gb101, 8, none⟩ = some (.string a0_8) := (blk_cell BK101.out 8).trans rfl
      have hcz5_9 : w3.cell? ⟨gb101, 9, none⟩ = some (.string a0_9) := (blk_cell BK101.out 9).trans rfl
      have hcz5_10 : w3.cell? ⟨gb101, 10, none⟩ = some (.int .i64 a0_10) := (blk_cell BK101.out 10).trans rfl
      have hfz5_0 := blk_frozen BK101.out 0
      have hfz5_1 := blk_frozen BK101.out 1
      have hfz5_2 := blk_frozen BK101.out 2
      have hfz5_3 := blk_frozen BK101.out 3
      have hfz5_4 := blk_frozen BK101.out 4
      have hfz5_5 := blk_frozen BK101.out 5
      have hfz5_6 := blk_frozen BK101.out 6
      have hfz5_7 := blk_frozen BK101.out 7
      have hfz5_8 := blk_frozen BK101.out 8
      have hfz5_9 := blk_frozen BK101.out 9
      have hfz5_10 := blk_frozen BK101.out 10
      go_wp2
      go_meet
      case rel => exact ⟨_, (true), (by first | rfl | (simp; done) | (simp [*]; done)), H', ⟨by first | omega | exact Nat.le_refl _⟩, ⟨by (with_reducible repeat (first | refine blk_drewN ?_ _ | refine blk_drew ?_ | refine blk_alloc ?_ _)); exact BK101.out⟩, ⟨by repeat (first | (with_reducible first | exact HB.out | apply below_alloc | apply pw_below_drewN | apply below_drew1 | refine below_set ?_ GE101.out) | exact HB.out)⟩⟩
    · rw [if_neg c4] at H
      have c4b0 : decide (a0_0 < 1) = false := decide_eq_false c4
      clear c4
      (first | rw [c4b0] | (simp only [i64_w, i32_w]; rw [c4b0]) | skip)
      by_cases c6 : a0_0 > 6
      · rw [if_pos c6] at H
        have c6b0 : decide (6 < a0_0) = true := decide_eq_true c6
        clear c6
        have H' := Aside0.mk H
        clear H
        have hcz7_0 : w3.cell? ⟨gb101, 0, none⟩ = some (.int .i64 a0_0) := (blk_cell BK101.out 0).trans rfl
        have hcz7_1 : w3.cell? ⟨gb101, 1, none⟩ = some (.int .i64 a0_1) := (blk_cell BK101.out 1).trans rfl
        have hcz7_2 : w3.cell? ⟨gb101, 2, none⟩ = some (.int .i64 a0_2) := (blk_cell BK101.out 2).trans rfl
        have hcz7_3 : w3.cell? ⟨gb101, 3, none⟩ = some (.int .i64 a0_3) := (blk_cell BK101.out 3).trans rfl
        have hcz7_4 : w3.cell? ⟨gb101, 4, none⟩ = some (.string a0_4) := (blk_cell BK101.out 4).trans rfl
        have hcz7_5 : w3.cell? ⟨gb101, 5, none⟩ = some (.int .i64 a0_5) := (blk_cell BK101.out 5).trans rfl
        have hcz7_6 : w3.cell? ⟨gb101, 6, none⟩ = some (.string a0_6) := (blk_cell BK101.out 6).trans rfl
        have hcz7_7 : w3.cell? ⟨gb101, 7, none⟩ = some (.string a0_7) := (blk_cell BK101.out 7).trans rfl
        have hcz7_8 : w3.cell? ⟨gb101, 8, none⟩ = some (.string a0_8) := (blk_cell BK101.out 8).trans rfl
        have hcz7_9 : w3.cell? ⟨gb101, 9, none⟩ = some (.string a0_9) := (blk_cell BK101.out 9).trans rfl
        have hcz7_10 : w3.cell? ⟨gb101, 10, none⟩ = some (.int .i64 a0_10) := (blk_cell BK101.out 10).trans rfl
        have hfz7_0 := blk_frozen BK101.out 0
        have hfz7_1 := blk_frozen BK101.out 1
        have hfz7_2 := blk_frozen BK101.out 2
        have hfz7_3 := blk_frozen BK101.out 3
        have hfz7_4 := blk_frozen BK101.out 4
        have hfz7_5 := blk_frozen BK101.out 5
        have hfz7_6 := blk_frozen BK101.out 6
        have hfz7_7 := blk_frozen BK101.out 7
        have hfz7_8 := blk_frozen BK101.out 8
        have hfz7_9 := blk_frozen BK101.out 9
        have hfz7_10 := blk_frozen BK101.out 10
        go_wp2
        go_meet
        case rel => exact ⟨_, (true), (by first | rfl | (simp; done) | (simp [*]; done)), H', ⟨by first | omega | exact Nat.le_refl _⟩, ⟨by (with_reducible repeat (first | refine blk_drewN ?_ _ | refine blk_drew ?_ | refine blk_alloc ?_ _)); exact BK101.out⟩, ⟨by repeat (first | (with_reducible first | exact HB.out | apply below_alloc | apply pw_below_drewN | apply below_drew1 | refine below_set ?_ GE101.out) | exact HB.out)⟩⟩
      · rw [if_neg c6] at H
        have c6b0 : decide (6 < a0_0) = false := decide_eq_false c6
        clear c6
        replace H := Option.bind_eq_some_iff.mp H
        obtain ⟨t102, A80, H⟩ := H
        replace H : (if t102 = true then ((wire_num.f a0_2).bind fun t103 => (if t103 = true then ((wire_num.f a0_3).bind fun t104 => (if t104 = true then (wire_MayReq.j0 k (decide ((a0_4.size : Int) > 16)) a0_0 a0_1 a0_2 a0_3 a0_4 a0_5 a0_6 a0_7 a0_8 a0_9 a0_10) else (wire_MayReq.j0 k true a0_0 a0_1 a0_2 a0_3 a0_4 a0_5 a0_6 a0_7 a0_8 a0_9 a0_10))) else (wire_MayReq.j0 k true a0_0 a0_1 a0_2 a0_3 a0_4 a0_5 a0_6 a0_7 a0_8 a0_9 a0_10))) else (wire_MayReq.j0 k true a0_0 a0_1 a0_2 a0_3 a0_4 a0_5 a0_6 a0_7 a0_8 a0_9 a0_10)) = some r := H
        have A8 := Aside0.mk A80
        clear A80
        by_cases c9 : t102 = true
        · subst c9
          have H1 : ((wire_num.f a0_2).bind fun t103 => (if t103 = true then ((wire_num.f a0_3).bind fun t104 => (if t104 = true then (wire_MayReq.j0 k (decide ((a0_4.size : Int) > 16)) a0_0 a0_1 a0_2 a0_3 a0_4 a0_5 a0_6 a0_7 a0_8 a0_9 a0_10) else (wire_MayReq.j0 k true a0_0 a0_1 a0_2 a0_3 a0_4 a0_5 a0_6 a0_7 a0_8 a0_9 a0_10))) else (wire_MayReq.j0 k true a0_0 a0_1 a0_2 a0_3 a0_4 a0_5 a0_6 a0_7 a0_8 a0_9 a0_10))) = some r := by rw [if_pos rfl] at H; exact H
          clear H
          have H := H1
          clear H1
          replace H := Option.bind_eq_some_iff.mp H
          obtain ⟨t103, A100, H⟩ := H
          replace H : (if t103 = true then ((wire_num.f a0_3).bind fun t104 => (if t104 = true then (wire_MayReq.j0 k (decide ((a0_4.size : Int) > 16)) a0_0 a0_1 a0_2 a0_3 a0_4 a0_5 a0_6 a0_7 a0_8 a0_9 a0_10) else (wire_MayReq.j0 k true a0_0 a0_1 a0_2 a0_3 a0_4 a0_5 a0_6 a0_7 a0_8 a0_9 a0_10))) else (wire_MayReq.j0 k true a0_0 a0_1 a0_2 a0_3 a0_4 a0_5 a0_6 a0_7 a0_8 a0_9 a0_10)) = some r := H
          have A10 := Aside0.mk A100
          clear A100
          by_cases c11 : t103 = true
          · subst c11
            have H1 : ((wire_num.f a0_3).bind fun t104 => (if t104 = true then (wire_MayReq.j0 k (decide ((a0_4.size : Int) > 16)) a0_0 a0_1 a0_2 a0_3 a0_4 a0_5 a0_6 a0_7 a0_8 a0_9 a0_10) else (wire_MayReq.j0 k true a0_0 a0_1 a0_2 a0_3 a0_4 a0_5 a0_6 a0_7 a0_8 a0_9 a0_10))) = some r := by rw [if_pos rfl] at H; exact H
            clear H
            have H := H1
            clear H1
            replace H := Option.bind_eq_some_iff.mp H
            obtain ⟨t104, A120, H⟩ := H
            replace H : (if t104 = true then (wire_MayReq.j0 k (decide ((a0_4.size : Int) > 16)) a0_0 a0_1 a0_2 a0_3 a0_4 a0_5 a0_6 a0_7 a0_8 a0_9 a0_10) else (wire_MayReq.j0 k true a0_0 a0_1 a0_2 a0_3 a0_4 a0_5 a0_6 a0_7 a0_8 a0_9 a0_10)) = some r := H
            have A12 := Aside0.mk A120
            clear A120
            by_cases c13 : t104 = true
            · subst c13
              have H1 : (wire_MayReq.j0 k (decide ((a0_4.size : Int) > 16)) a0_0 a0_1 a0_2 a0_3 a0_4 a0_5 a0_6 a0_7 a0_8 a0_9 a0_10) = some r := by rw [if_pos rfl] at H; exact H
              clear H
              have H := H1
              clear H1
              have H' := Aside0.mk H
              clear H
              have hcz14_0 : w3.cell? ⟨gb101, 0, none⟩ = some (.int .i64 a0_0) := (blk_cell BK101.out 0).trans rfl
              have hcz14_1 : w3.cell? ⟨gb101, 1, none⟩ = some (.int .i64 a0_1) := (blk_cell BK101.out 1).trans rfl
              have hcz14_2 : w3.cell? ⟨gb101, 2, none⟩ = some (.int .i64 a0_2) := (blk_cell BK101.out 2).trans rfl
              have hcz14_3 : w3.cell? ⟨gb101, 3, none⟩ = some (.int .i64 a0_3) := (blk_cell BK101.out 3).trans rfl
              have hcz14_4 : w3.cell? ⟨gb101, 4, none⟩ = some (.string a0_4) := (blk_cell BK101.out 4).trans rfl
              have hcz14_5 : w3.cell? ⟨gb101, 5, none⟩ = some (.int .i64 a0_5) := (blk_cell BK101.out 5).trans rfl
              have hcz14_6 : w3.cell? ⟨gb101, 6, none⟩ = some (.string a0_6) := (blk_cell BK101.out 6).trans rfl
              have hcz14_7 : w3.cell? ⟨gb101, 7, none⟩ = some (.string a0_7) := (blk_cell BK101.out 7).trans rfl
              have hcz14_8 : w3.cell? ⟨gb101, 8, none⟩ = some (.string a0_8) := (blk_cell BK101.out 8).trans rfl
              have hcz14_9 : w3.cell? ⟨gb101, 9, none⟩ = some (.string a0_9) := (blk_cell BK101.out 9).trans rfl
              have hcz14_10 : w3.cell? ⟨gb101, 10, none⟩ = some (.int .i64 a0_10) := (blk_cell BK101.out 10).trans rfl
              have hfz14_0 := blk_frozen BK101.out 0
              have hfz14_1 := blk_frozen BK101.out 1
              have hfz14_2 := blk_frozen BK101.out 2
              have hfz14_3 := blk_frozen BK101.out 3
              have hfz14_4 := blk_frozen BK101.out 4
              have hfz14_5 := blk_frozen BK101.out 5
              have hfz14_6 := blk_frozen BK101.out 6
              have hfz14_7 := blk_frozen BK101.out 7
              have hfz14_8 := blk_frozen BK101.out 8
              have hfz14_9 := blk_frozen BK101.out 9
              have hfz14_10 := blk_frozen BK101.out 10
              go_wp2_with (first | (go_at_call 30; (with_reducible refine (wire_num.calls a0_1 true _ A8.out).mono ?_); rintro e w' ⟨rfl, ⟨nd, rfl⟩⟩) | (go_at_call 30; (with_reducible refine (wire_num.calls a0_2 true _ A10.out).mono ?_); rintro e w' ⟨rfl, ⟨nd, rfl⟩⟩) | (go_at_call 30; (with_reducible refine (wire_num.calls a0_3 true _ A12.out).mono ?_); rintro e w' ⟨rfl, ⟨nd, rfl⟩⟩))
              go_meet
              case rel => exact ⟨_, (decide ((a0_4.size : Int) > 16)), (by first | rfl | (simp; done) | (simp [*]; done)), H', ⟨by first | omega | exact Nat.le_refl _⟩, ⟨by (with_reducible repeat (first | refine blk_drewN ?_ _ | refine blk_drew ?_ | refine blk_alloc ?_ _)); exact BK101.out⟩, ⟨by repeat (first | (with_reducible first | exact HB.out | apply below_alloc | apply pw_below_drewN | apply below_drew1 | refine below_set ?_ GE101.out) | exact HB.out)⟩⟩
            · replace c13 := Bool.eq_false_iff.mpr c13
              subst c13
              have H1 : (wire_MayReq.j0 k true a0_0 a0_1 a0_2 a0_3 a0_4 a0_5 a0_6 a0_7 a0_8 a0_9 a0_10) = some r := by rw [if_neg (show ¬ (false = true) by decide)] at H; exact H
              clear H
              have H := H1
              clear H1
              have H' := Aside0.mk H
              clear H
              have hcz15_0 : w3.cell? ⟨gb101, 0, none⟩ = some (.int .i64 a0_0) := (blk_cell BK101.out 0).trans rfl
              have hcz15_1 : w3.cell? ⟨gb101, 1, none⟩ = some (.int .i64 a0_1) := (blk_cell BK101.out 1).trans rfl
              have hcz15_2 : w3.cell? ⟨gb101, 2, none⟩ = some (.int .i64 a0_2) := (blk_cell BK101.out 2).trans rfl
              have hcz15_3 : w3.cell? ⟨gb101, 3, none⟩ = some (.int .i64 a0_3) := (blk_cell BK101.out 3).trans rfl
              have hcz15_4 : w3.cell? ⟨gb101, 4, none⟩ = some (.string a0_4) := (blk_cell BK101.out 4).trans rfl
              have hcz15_5 : w3.cell? ⟨gb101, 5, none⟩ = some (.int .i64 a0_5) := (blk_cell BK101.out 5).trans rfl
              have hcz15_6 : w3.cell? ⟨gb101, 6, none⟩ = some (.string a0_6) := (blk_cell BK101.out 6).trans rfl
              have hcz15_7 : w3.cell? ⟨gb101, 7, none⟩ = some (.string a0_7) := (blk_cell BK101.out 7).trans rfl
              have hcz15_8 : w3.cell? ⟨gb101, 8, none⟩ = some (.string a0_8) := (blk_cell BK101.out 8).trans rfl
              have hcz15_9 : w3.cell? ⟨gb101, 9, none⟩ = some (.string a0_9) := (blk_cell BK101.out 9).trans rfl
              have hcz15_10 : w3.cell? ⟨gb101, 10, none⟩ = some (.int .i64 a0_10) := (blk_cell BK101.out 10).trans rfl
              have hfz15_0 := blk_frozen BK101.out 0
              have hfz15_1 := blk_frozen BK101.out 1
              have hfz15_2 := blk_frozen BK101.out 2
              have hfz15_3 := blk_frozen BK101.out 3
              have hfz15_4 := blk_frozen BK101.out 4
              have hfz15_5 := blk_frozen BK101.out 5
              have hfz15_6 := blk_frozen BK101.out 6
              have hfz15_7 := blk_frozen BK101.out 7
              have hfz15_8 := blk_frozen BK101.out 8
              have hfz15_9 := blk_frozen BK101.out 9
              have hfz15_10 := blk_frozen BK101.out 10
              go_wp2_with (first | (go_at_call 30; (with_reducible refine (wire_num.calls a0_1 true _ A8.out).mono ?_); rintro e w' ⟨rfl, ⟨nd, rfl⟩⟩) | (go_at_call 30; (with_reducible refine (wire_num.calls a0_2 true _ A10.out).mono ?_); rintro e w' ⟨rfl, ⟨nd, rfl⟩⟩) | (go_at_call 30; (with_reducible refine (wire_num.calls a0_3 false _ A12.out).mono ?_); rintro e w' ⟨rfl, ⟨nd, rfl⟩⟩))
              go_meet
              case rel => exact ⟨_, (true), (by first | rfl | (simp; done) | (simp [*]; done)), H', ⟨by first | omega | exact Nat.le_refl _⟩, ⟨by (with_reducible repeat (first | refine blk_drewN ?_ _ | refine blk_drew ?_ | refine blk_alloc ?_ _)); exact BK101.out⟩, ⟨by repeat (first | (with_reducible first | exact HB.out | apply below_alloc | apply pw_below_drewN | apply below_drew1 | refine below_set ?_ GE101.out) | exact HB.out)⟩⟩
          · replace c11 := Bool.eq_false_iff.mpr c11
            subst c11
            have H1 : (wire_MayReq.j0 k true a0_0 a0_1 a0_2 a0_3 a0_4 a0_5 a0_6 a0_7 a0_8 a0_9 a0_10) = some r := by rw [if_neg (show ¬ (false = true) by decide)] at H; exact H
            clear H
            have H := H1
            clear H1
            have H' := Aside0.mk H
            clear H
            have hcz16_0 : w3.cell? ⟨gb101, 0, none⟩ = some (.int .i64 a0_0) := (blk_cell BK101.out 0).trans rfl
            have hcz16_1 : w3.cell? ⟨gb101, 1, none⟩ = some (.int .i64 a0_1) := (blk_cell BK101.out 1).trans rfl
            have hcz16_2 : w3.cell? ⟨gb101, 2, none⟩ = some (.int .i64 a0_2) := (blk_cell BK101.out 2).trans rfl
            have hcz16_3 : w3.cell? ⟨gb101, 3, none⟩ = some (.int .i64 a0_3) := (blk_cell BK101.out 3).trans rfl
            have hcz16_4 : w3.cell? ⟨gb101, 4, none⟩ = some (.string a0_4) := (blk_cell BK101.out 4).trans rfl
            have hcz16_5 : w3.cell? ⟨gb101, 5, none⟩ = some (.int .i64 a0_5) := (blk_cell BK101.out 5).trans rfl
            have hcz16_6 : w3.cell? ⟨gb101, 6, none⟩ = some (.string a0_6) := (blk_cell BK101.out 6).trans rfl
            have hcz16_7 : w3.cell? ⟨gb101, 7, none⟩ = some (.string a0_7) := (blk_cell BK101.out 7).trans rfl
            have hcz16_8 : w3.cell? ⟨gb101, 8, none⟩ = some (.string a0_8) := (blk_cell BK101.out 8).trans rfl
            have hcz16_9 : w3.cell? ⟨gb101, 9, none⟩ = some (.string a0_9) := (blk_cell BK101.out 9).trans rfl
            have hcz16_10 : w3.cell? ⟨gb101, 10, none⟩ = some (.int .i64 a0_10) := (blk_cell BK101.out 10).trans rfl
            have hfz16_0 := blk_frozen BK101.out 0
            have hfz16_1 := blk_frozen BK101.out 1
            have hfz16_2 := blk_frozen BK101.out 2
            have hfz16_3 := blk_frozen BK101.out 3
            have hfz16_4 := blk_frozen BK101.out 4
            have hfz16_5 := blk_frozen BK101.out 5
            have hfz16_6 := blk_frozen BK101.out 6
            have hfz16_7 := blk_frozen BK101.out 7
            have hfz16_8 := blk_frozen BK101.out 8
            have hfz16_9 := blk_frozen BK101.out 9
            have hfz16_10 := blk_frozen BK101.out 10
            go_wp2_with (first | (go_at_call 30; (with_reducible refine (wire_num.calls a0_1 true _ A8.out).mono ?_); rintro e w' ⟨rfl, ⟨nd, rfl⟩⟩) | (go_at_call 30; (with_reducible refine (wire_num.calls a0_2 false _ A10.out).mono ?_); rintro e w' ⟨rfl, ⟨nd, rfl⟩⟩))
            go_meet
            case rel => exact ⟨_, (true), (by first | rfl | (simp; done) | (simp [*]; done)), H', ⟨by first | omega | exact Nat.le_refl _⟩, ⟨by (with_reducible repeat (first | refine blk_drewN ?_ _ | refine blk_drew ?_ | refine blk_alloc ?_ _)); exact BK101.out⟩, ⟨by repeat (first | (with_reducible first | exact HB.out | apply below_alloc | apply pw_below_drewN | apply below_drew1 | refine below_set ?_ GE101.out) | exact HB.out)⟩⟩
        · replace c9 := Bool.eq_false_iff.mpr c9
          subst c9
          have H1 : (wire_MayReq.j0 k true a0_0 a0_1 a0_2 a0_3 a0_4 a0_5 a0_6 a0_7 a0_8 a0_9 a0_10) = some r := by rw [if_neg (show ¬ (false = true) by decide)] at H; exact H
          clear H
          have H := H1
          clear H1
          have H' := Aside0.mk H
          clear H
          have hcz17_0 : w3.cell? ⟨gb101, 0, none⟩ = some (.int .i64 a0_0) := (blk_cell BK101.out 0).trans rfl
          have hcz17_1 : w3.cell? ⟨gb101, 1, none⟩ = some (.int .i64 a0_1) := (blk_cell BK101.out 1).trans rfl
          have hcz17_2 : w3.cell? ⟨gb101, 2, none⟩ = some (.int .i64 a0_2) := (blk_cell BK101.out 2).trans rfl
          have hcz17_3 : w3.cell? ⟨gb101, 3, none⟩ = some (.int .i64 a0_3) := (blk_cell BK101.out 3).trans rfl
          have hcz17_4 : w3.cell? ⟨gb101, 4, none⟩ = some (.string a0_4) := (blk_cell BK101.out 4).trans rfl
          have hcz17_5 : w3.cell? ⟨gb101, 5, none⟩ = some (.int .i64 a0_5) := (blk_cell BK101.out 5).trans rfl
          have hcz17_6 : w3.cell? ⟨gb101, 6, none⟩ = some (.string a0_6) := (blk_cell BK101.out 6).trans rfl
          have hcz17_7 : w3.cell? ⟨gb101, 7, none⟩ = some (.string a0_7) := (blk_cell BK101.out 7).trans rfl
          have hcz17_8 : w3.cell? ⟨gb101, 8, none⟩ = some (.string a0_8) := (blk_cell BK101.out 8).trans rfl
          have hcz17_9 : w3.cell? ⟨gb101, 9, none⟩ = some (.string a0_9) := (blk_cell BK101.out 9).trans rfl
          have hcz17_10 : w3.cell? ⟨gb101, 10, none⟩ = some (.int .i64 a0_10) := (blk_cell BK101.out 10).trans rfl
          have hfz17_0 := blk_frozen BK101.out 0
          have hfz17_1 := blk_frozen BK101.out 1
          have hfz17_2 := blk_frozen BK101.out 2
          have hfz17_3 := blk_frozen BK101.out 3
          have hfz17_4 := blk_frozen BK101.out 4
          have hfz17_5 := blk_frozen BK101.out 5
          have hfz17_6 := blk_frozen BK101.out 6
          have hfz17_7 := blk_frozen BK101.out 7
          have hfz17_8 := blk_frozen BK101.out 8
          have hfz17_9 := blk_frozen BK101.out 9
          have hfz17_10 := blk_frozen BK101.out 10
          go_wp2_with (first | (go_at_call 30; (with_reducible refine (wire_num.calls a0_1 false _ A8.out).mono ?_); rintro e w' ⟨rfl, ⟨nd, rfl⟩⟩))
          go_meet
          case rel => exact ⟨_, (true), (by first | rfl | (simp; done) | (simp [*]; done)), H', ⟨by first | omega | exact Nat.le_refl _⟩, ⟨by (with_reducible repeat (first | refine blk_drewN ?_ _ | refine blk_drew ?_ | refine blk_alloc ?_ _)); exact BK101.out⟩, ⟨by repeat (first | (with_reducible first | exact HB.out | apply below_alloc | apply pw_below_drewN | apply below_drew1 | refine below_set ?_ GE101.out) | exact HB.out)⟩⟩
  case rest =>
    clear HC2
    try clear c1
    try clear p2
    try clear c4
    try clear c4b0
    try clear c6
    try clear c6b0
    try clear c9
    try clear c11
    try clear c13
    try clear hcz14_0
    try clear hcz14_1
    try clear hcz14_10
    try clear hcz14_2
    try clear hcz14_3
    try clear hcz14_4
    try clear hcz14_5
    try clear hcz14_6
    try clear hcz14_7
    try clear hcz14_8
    try clear hcz14_9
    try clear hcz15_0
    try clear hcz15_1
    try clear hcz15_10
    try clear hcz15_2
    try clear hcz15_3
    try clear hcz15_4
    try clear hcz15_5
    try clear hcz15_6
    try clear hcz15_7
    try clear hcz15_8
    try clear hcz15_9
    try clear hcz16_0
    try clear hcz16_1
    try clear hcz16_10
    try clear hcz16_2
    try clear hcz16_3
    try clear hcz16_4
    try clear hcz16_5
    try clear hcz16_6
    try clear hcz16_7
    try clear hcz16_8
    try clear hcz16_9
    try clear hcz17_0
    try clear hcz17_1
    try clear hcz17_10
    try clear hcz17_2
    try clear hcz17_3
    try clear hcz17_4
    try clear hcz17_5
    try clear hcz17_6
    try clear hcz17_7
    try clear hcz17_8
    try clear hcz17_9
    try clear hcz5_0
    try clear hcz5_1
    try clear hcz5_10
    try clear hcz5_2
    try clear hcz5_3
    try clear hcz5_4
    try clear hcz5_5
    try clear hcz5_6
    try clear hcz5_7
    try clear hcz5_8
    try clear hcz5_9
    try clear hcz7_0
    try clear hcz7_1
    try clear hcz7_10
    try clear hcz7_2
    try clear hcz7_3
    try clear hcz7_4
    try clear hcz7_5
    try clear hcz7_6
    try clear hcz7_7
    try clear hcz7_8
    try clear hcz7_9
    try clear hfz14_0
    try clear hfz14_1
    try clear hfz14_10
    try clear hfz14_2
    try clear hfz14_3
    try clear hfz14_4
    try clear hfz14_5
    try clear hfz14_6
    try clear hfz14_7
    try clear hfz14_8
    try clear hfz14_9
    try clear hfz15_0
    try clear hfz15_1
    try clear hfz15_10
    try clear hfz15_2
    try clear hfz15_3
    try clear hfz15_4
    try clear hfz15_5
    try clear hfz15_6
    try clear hfz15_7
    try clear hfz15_8
    try clear hfz15_9
    try clear hfz16_0
    try clear hfz16_1
    try clear hfz16_10
    try clear hfz16_2
    try clear hfz16_3
    try clear hfz16_4
    try clear hfz16_5
    try clear hfz16_6
    try clear hfz16_7
    try clear hfz16_8
    try clear hfz16_9
    try clear hfz17_0
    try clear hfz17_1
    try clear hfz17_10
    try clear hfz17_2
    try clear hfz17_3
    try clear hfz17_4
    try clear hfz17_5
    try clear hfz17_6
    try clear hfz17_7
    try clear hfz17_8
    try clear hfz17_9
    try clear hfz5_0
    try clear hfz5_1
    try clear hfz5_10
    try clear hfz5_2
    try clear hfz5_3
    try clear hfz5_4
    try clear hfz5_5
    try clear hfz5_6
    try clear hfz5_7
    try clear hfz5_8
    try clear hfz5_9
    try clear hfz7_0
    try clear hfz7_1
    try clear hfz7_10
    try clear hfz7_2
    try clear hfz7_3
    try clear hfz7_4
    try clear hfz7_5
    try clear hfz7_6
    try clear hfz7_7
    try clear hfz7_8
    try clear hfz7_9
    obtain ⟨kq, x35_1, rfl, HA, HJ1, BK101, HB⟩ := hcut
    cases kq with
    | zero => exact absurd HA.out (by simp [wire_MayReq.j0])
    | succ kj1 =>
      have H := HA.out
      clear HA
      simp only [wire_MayReq.j0] at H
      by_cases c18 : x35_1 = true
      · subst c18
        have H1 : (some false) = some r := by rw [if_pos rfl] at H; exact H
        clear H
        have H := H1
        clear H1
        obtain rfl := Option.some.inj H
        go_wp2
        go_ret
        exact ⟨by first | rfl | (simp [errW_none, errW_some] <;> rfl) | (simp [*, errW_none, errW_some] <;> rfl), by repeat (first | (with_reducible first | exact HB.out | apply below_alloc | apply pw_below_drewN | apply below_drew1 | refine below_set ?_ GE101.out) | exact HB.out)⟩
      · replace c18 := Bool.eq_false_iff.mpr c18
        subst c18
        have H1 : (if a0_0 = 5 then (if a0_4.toList = ([] : List UInt8) then (if a0_5 ≥ 1 then (if a0_5 ≤ 6 then (if (a0_6.size : Int) ≤ 32 then (if (a0_8.size : Int) ≤ 32 then (if (a0_9.size : Int) ≤ 32 then (if (a0_7.size : Int) ≤ 64 then ((wire_num.f a0_10).bind fun t106 => (some t106)) else (some false)) else (some false)) else (some false)) else (some false)) else (some false)) else (some false)) else (some false)) else (if (a0_5 == 0 && (a0_6.toList.isEmpty && (a0_7.toList.isEmpty && (a0_8.toList.isEmpty && (a0_9.toList.isEmpty && (a0_10 == 0)))))) = true then (if a0_4.toList = ([] : List UInt8) then (some true) else (if a0_0 = 4 then (some true) else (some (a0_0 == 6)))) else (some false))) = some r := by rw [if_neg (show ¬ (false = true) by decide)] at H; exact H
        clear H
        have H := H1
        clear H1
        by_cases c19 : a0_0 = 5
        · rw [if_pos c19] at H
          have c19b0 : (a0_0 == 5) = true := beq_iff_eq.mpr c19
          have c19b1 : (a0_0 != 5) = false := bne_eq_false_iff_eq.mpr c19
          clear c19
          by_cases c20 : a0_4.toList = ([] : List UInt8)
          · rw [if_pos c20] at H
            have c20b0 : (a0_4.toList == ([] : List UInt8)) = true := beq_iff_eq.mpr c20
            have c20b1 : (a0_4.toList != ([] : List UInt8)) = false := bne_eq_false_iff_eq.mpr c20
            clear c20
            by_cases c21 : a0_5 ≥ 1
            · rw [if_pos c21] at H
              have c21b0 : decide (1 ≤ a0_5) = true := decide_eq_true c21
              clear c21
              by_cases c22 : a0_5 ≤ 6
              · rw [if_pos c22] at H
                have c22b0 : decide (a0_5 ≤ 6) = true := decide_eq_true c22
                clear c22
                by_cases c23 : (a0_6.size : Int) ≤ 32
                · rw [if_pos c23] at H
                  have c23b0 : decide ((a0_6.size : Int) ≤ 32) = true := decide_eq_true c23
                  have c23b1 : decide (a0_6.size ≤ 32) = true := decide_eq_true (by omega)
                  clear c23
                  by_cases c24 : (a0_8.size : Int) ≤ 32
                  · rw [if_pos c24] at H
                    have c24b0 : decide ((a0_8.size : Int) ≤ 32) = true := decide_eq_true c24
                    have c24b1 : decide (a0_8.size ≤ 32) = true := decide_eq_true (by omega)
                    clear c24
                    by_cases c25 : (a0_9.size : Int) ≤ 32
                    · rw [if_pos c25] at H
                      have c25b0 : decide ((a0_9.size : Int) ≤ 32) = true := decide_eq_true c25
                      have c25b1 : decide (a0_9.size ≤ 32) = true := decide_eq_true (by omega)
                      clear c25
                      by_cases c26 : (a0_7.size : Int) ≤ 64
                      · rw [if_pos c26] at H
                        have c26b0 : decide ((a0_7.size : Int) ≤ 64) = true := decide_eq_true c26
                        have c26b1 : decide (a0_7.size ≤ 64) = true := decide_eq_true (by omega)
                        clear c26
                        replace H := Option.bind_eq_some_iff.mp H
                        obtain ⟨t106, A270, H⟩ := H
                        replace H : (some t106) = some r := H
                        have A27 := Aside0.mk A270
                        clear A270
                        obtain rfl := Option.some.inj H
                        have hcz28_0 : wc.cell? ⟨gb101, 0, none⟩ = some (.int .i64 a0_0) := (blk_cell BK101.out 0).trans rfl
                        have hcz28_1 : wc.cell? ⟨gb101, 1, none⟩ = some (.int .i64 a0_1) := (blk_cell BK101.out 1).trans rfl
                        have hcz28_2 : wc.cell? ⟨gb101, 2, none⟩ = some (.int .i64 a0_2) := (blk_cell BK101.out 2).trans rfl
                        have hcz28_3 : wc.cell? ⟨gb101, 3, none⟩ = some (.int .i64 a0_3) := (blk_cell BK101.out 3).trans rfl
                        have hcz28_4 : wc.cell? ⟨gb101, 4, none⟩ = some (.string a0_4) := (blk_cell BK101.out 4).trans rfl
                        have hcz28_5 : wc.cell? ⟨gb101, 5, none⟩ = some (.int .i64 a0_5) := (blk_cell BK101.out 5).trans rfl
                        have hcz28_6 : wc.cell? ⟨gb101, 6, none⟩ = some (.string a0_6) := (blk_cell BK101.out 6).trans rfl
                        have hcz28_7 : wc.cell? ⟨gb101, 7, none⟩ = some (.string a0_7) := (blk_cell BK101.out 7).trans rfl
                        have hcz28_8 : wc.cell? ⟨gb101, 8, none⟩ = some (.string a0_8) := (blk_cell BK101.out 8).trans rfl
                        have hcz28_9 : wc.cell? ⟨gb101, 9, none⟩ = some (.string a0_9) := (blk_cell BK101.out 9).trans rfl
                        have hcz28_10 : wc.cell? ⟨gb101, 10, none⟩ = some (.int .i64 a0_10) := (blk_cell BK101.out 10).trans rfl
                        have hfz28_0 := blk_frozen BK101.out 0
                        have hfz28_1 := blk_frozen BK101.out 1
                        have hfz28_2 := blk_frozen BK101.out 2
                        have hfz28_3 := blk_frozen BK101.out 3
                        have hfz28_4 := blk_frozen BK101.out 4
                        have hfz28_5 := blk_frozen BK101.out 5
                        have hfz28_6 := blk_frozen BK101.out 6
                        have hfz28_7 := blk_frozen BK101.out 7
                        have hfz28_8 := blk_frozen BK101.out 8
                        have hfz28_9 := blk_frozen BK101.out 9
                        have hfz28_10 := blk_frozen BK101.out 10
                        go_wp2_with (first | ((with_reducible refine gate_dst (N := 3) rfl ?_); (try (refine gate_guard (by rfl) ?_; dsimp only)); refine box_event ?hg (N := 3) ?hd (cs := #[.int .i64 0, .string (⟨#[]⟩ : ByteArray), .string (⟨#[]⟩ : ByteArray), .string (⟨#[]⟩ : ByteArray), .string (⟨#[]⟩ : ByteArray), .int .i64 0]) (t := 23) ?hr ?_; (case hd => rfl); (case hg => rfl); (case hr => first | (go_simp; done) | (go_simp; rfl)); intro gb105 hg w29 hbox hb; have n0_ := Aside0.mk (blk_below (g := gb101) (o := .cells #[.int .i64 a0_0, .int .i64 a0_1, .int .i64 a0_2, .int .i64 a0_3, .string a0_4, .int .i64 a0_5, .string a0_6, .string a0_7, .string a0_8, .string a0_9, .int .i64 a0_10] 25 (0, 0)) (by (with_reducible repeat (first | refine blk_drewN ?_ _ | refine blk_drew ?_ | refine blk_alloc ?_ _)); exact BK101.out) hb); have n1_ := Aside0.mk (below_step (by repeat (first | (with_reducible first | exact HB.out | apply below_alloc | apply pw_below_drewN | apply below_drew1 | refine below_set ?_ GE101.out) | exact HB.out)) hb); have n2_ := Aside0.mk (hbox); have n3_ := Aside0.mk ((by rw [hg]; exact (below_size (by repeat (first | (with_reducible first | exact HB.out | apply below_alloc | apply pw_below_drewN | apply below_drew1 | refine below_set ?_ GE101.out) | exact HB.out))) : w.heap.size ≤ gb105)); have n4_ := Aside0.mk ((by rw [hg]; exact (below_size (by repeat (first | (with_reducible first | exact HB.out | apply below_alloc | apply pw_below_drewN | apply below_drew1 | refine below_set ?_ GE101.out) | exact HB.out))) : w.heap.size ≤ gb105)); have n5_ := Aside0.mk ((by rw [hg]; exact Nat.ne_of_lt (blk_lt (g := gb101) (o := .cells #[.int .i64 a0_0, .int .i64 a0_1, .int .i64 a0_2, .int .i64 a0_3, .string a0_4, .int .i64 a0_5, .string a0_6, .string a0_7, .string a0_8, .string a0_9, .int .i64 a0_10] 25 (0, 0)) (by (with_reducible repeat (first | refine blk_drewN ?_ _ | refine blk_drew ?_ | refine blk_alloc ?_ _)); exact BK101.out)) : gb101 ≠ gb105)); have n6_ := Aside0.mk ((by rw [hg]; exact Nat.ne_of_gt (blk_lt (g := gb101) (o := .cells #[.int .i64 a0_0, .int .i64 a0_1, .int .i64 a0_2, .int .i64 a0_3, .string a0_4, .int .i64 a0_5, .string a0_6, .string a0_7, .string a0_8, .string a0_9, .int .i64 a0_10] 25 (0, 0)) (by (with_reducible repeat (first | refine blk_drewN ?_ _ | refine blk_drew ?_ | refine blk_alloc ?_ _)); exact BK101.out)) : gb105 ≠ gb101)); clear BK101; clear HB; have BK101 := n0_; have HB := n1_; have BK105 := n2_; have GW105 := n3_; have GE105 := n4_; have NB101_105 := n5_; have NB105_101 := n6_; clear n0_ n1_ n2_ n3_ n4_ n5_ n6_; clear hb hbox hg; have hnb30 := NB105_101.out; have hnc30 := NB101_105.out; have hcz31_0 : w29.cell? ⟨gb105, 0, none⟩ = some (.int .i64 0) := (blk_cell BK105.out 0).trans rfl; have hcz31_1 : w29.cell? ⟨gb105, 1, none⟩ = some (.string (⟨#[]⟩ : ByteArray)) := (blk_cell BK105.out 1).trans rfl; have hcz31_2 : w29.cell? ⟨gb105, 2, none⟩ = some (.string (⟨#[]⟩ : ByteArray)) := (blk_cell BK105.out 2).trans rfl; have hcz31_3 : w29.cell? ⟨gb105, 3, none⟩ = some (.string (⟨#[]⟩ : ByteArray)) := (blk_cell BK105.out 3).trans rfl; have hcz31_4 : w29.cell? ⟨gb105, 4, none⟩ = some (.string (⟨#[]⟩ : ByteArray)) := (blk_cell BK105.out 4).trans rfl; have hcz31_5 : w29.cell? ⟨gb105, 5, none⟩ = some (.int .i64 0) := (blk_cell BK105.out 5).trans rfl; have hfz31_0 := blk_frozen BK105.out 0; have hfz31_1 := blk_frozen BK105.out 1; have hfz31_2 := blk_frozen BK105.out 2; have hfz31_3 := blk_frozen BK105.out 3; have hfz31_4 := blk_frozen BK105.out 4; have hfz31_5 := blk_frozen BK105.out 5; have hcz32_0 : w29.cell? ⟨gb101, 0, none⟩ = some (.int .i64 a0_0) := (blk_cell BK101.out 0).trans rfl; have hcz32_1 : w29.cell? ⟨gb101, 1, none⟩ = some (.int .i64 a0_1) := (blk_cell BK101.out 1).trans rfl; have hcz32_2 : w29.cell? ⟨gb101, 2, none⟩ = some (.int .i64 a0_2) := (blk_cell BK101.out 2).trans rfl; have hcz32_3 : w29.cell? ⟨gb101, 3, none⟩ = some (.int .i64 a0_3) := (blk_cell BK101.out 3).trans rfl; have hcz32_4 : w29.cell? ⟨gb101, 4, none⟩ = some (.string a0_4) := (blk_cell BK101.out 4).trans rfl; have hcz32_5 : w29.cell? ⟨gb101, 5, none⟩ = some (.int .i64 a0_5) := (blk_cell BK101.out 5).trans rfl; have hcz32_6 : w29.cell? ⟨gb101, 6, none⟩ = some (.string a0_6) := (blk_cell BK101.out 6).trans rfl; have hcz32_7 : w29.cell? ⟨gb101, 7, none⟩ = some (.string a0_7) := (blk_cell BK101.out 7).trans rfl; have hcz32_8 : w29.cell? ⟨gb101, 8, none⟩ = some (.string a0_8) := (blk_cell BK101.out 8).trans rfl; have hcz32_9 : w29.cell? ⟨gb101, 9, none⟩ = some (.string a0_9) := (blk_cell BK101.out 9).trans rfl; have hcz32_10 : w29.cell? ⟨gb101, 10, none⟩ = some (.int .i64 a0_10) := (blk_cell BK101.out 10).trans rfl; have hfz32_0 := blk_frozen BK101.out 0; have hfz32_1 := blk_frozen BK101.out 1; have hfz32_2 := blk_frozen BK101.out 2; have hfz32_3 := blk_frozen BK101.out 3; have hfz32_4 := blk_frozen BK101.out 4; have hfz32_5 := blk_frozen BK101.out 5; have hfz32_6 := blk_frozen BK101.out 6; have hfz32_7 := blk_frozen BK101.out 7; have hfz32_8 := blk_frozen BK101.out 8; have hfz32_9 := blk_frozen BK101.out 9; have hfz32_10 := blk_frozen BK101.out 10) | (go_at_call 30; (with_reducible refine (wire_num.calls a0_10 t106 _ A27.out).mono ?_); rintro e w' ⟨rfl, ⟨nd, rfl⟩⟩))
                        go_ret
                        exact ⟨by first | rfl | (simp [errW_none, errW_some] <;> rfl) | (simp [*, errW_none, errW_some] <;> rfl), by repeat (first | (with_reducible first | exact HB.out | apply below_alloc | apply pw_below_drewN | apply below_drew1 | refine below_set ?_ GE101.out | refine below_set ?_ GE105.out) | exact HB.out)⟩
                      · rw [if_neg c26] at H
                        have c26b0 : decide ((a0_7.size : Int) ≤ 64) = false := decide_eq_false c26
                        have c26b1 : decide (a0_7.size ≤ 64) = false := decide_eq_false (by omega)
                        clear c26
                        obtain rfl := Option.some.inj H
                        have hcz33_0 : wc.cell? ⟨gb101, 0, none⟩ = some (.int .i64 a0_0) := (blk_cell BK101.out 0).trans rfl
                        have hcz33_1 : wc.cell? ⟨gb101, 1, none⟩ = some (.int .i64 a0_1) := (blk_cell BK101.out 1).trans rfl
                        have hcz33_2 : wc.cell? ⟨gb101, 2, none⟩ = some (.int .i64 a0_2) := (blk_cell BK101.out 2).trans rfl
                        have hcz33_3 : wc.cell? ⟨gb101, 3, none⟩ = some (.int .i64 a0_3) := (blk_cell BK101.out 3).trans rfl
                        have hcz33_4 : wc.cell? ⟨gb101, 4, none⟩ = some (.string a0_4) := (blk_cell BK101.out 4).trans rfl
                        have hcz33_5 : wc.cell? ⟨gb101, 5, none⟩ = some (.int .i64 a0_5) := (blk_cell BK101.out 5).trans rfl
                        have hcz33_6 : wc.cell? ⟨gb101, 6, none⟩ = some (.string a0_6) := (blk_cell BK101.out 6).trans rfl
                        have hcz33_7 : wc.cell? ⟨gb101, 7, none⟩ = some (.string a0_7) := (blk_cell BK101.out 7).trans rfl
                        have hcz33_8 : wc.cell? ⟨gb101, 8, none⟩ = some (.string a0_8) := (blk_cell BK101.out 8).trans rfl
                        have hcz33_9 : wc.cell? ⟨gb101, 9, none⟩ = some (.string a0_9) := (blk_cell BK101.out 9).trans rfl
                        have hcz33_10 : wc.cell? ⟨gb101, 10, none⟩ = some (.int .i64 a0_10) := (blk_cell BK101.out 10).trans rfl
                        have hfz33_0 := blk_frozen BK101.out 0
                        have hfz33_1 := blk_frozen BK101.out 1
                        have hfz33_2 := blk_frozen BK101.out 2
                        have hfz33_3 := blk_frozen BK101.out 3
                        have hfz33_4 := blk_frozen BK101.out 4
                        have hfz33_5 := blk_frozen BK101.out 5
                        have hfz33_6 := blk_frozen BK101.out 6
                        have hfz33_7 := blk_frozen BK101.out 7
                        have hfz33_8 := blk_frozen BK101.out 8
                        have hfz33_9 := blk_frozen BK101.out 9
                        have hfz33_10 := blk_frozen BK101.out 10
                        go_wp2_with (first | ((with_reducible refine gate_dst (N := 3) rfl ?_); (try (refine gate_guard (by rfl) ?_; dsimp only)); refine box_event ?hg (N := 3) ?hd (cs := #[.int .i64 0, .string (⟨#[]⟩ : ByteArray), .string (⟨#[]⟩ : ByteArray), .string (⟨#[]⟩ : ByteArray), .string (⟨#[]⟩ : ByteArray), .int .i64 0]) (t := 23) ?hr ?_; (case hd => rfl); (case hg => rfl); (case hr => first | (go_simp; done) | (go_simp; rfl)); intro gb105 hg w34 hbox hb; have n0_ := Aside0.mk (blk_below (g := gb101) (o := .cells #[.int .i64 a0_0, .int .i64 a0_1, .int .i64 a0_2, .int .i64 a0_3, .string a0_4, .int .i64 a0_5, .string a0_6, .string a0_7, .string a0_8, .string a0_9, .int .i64 a0_10] 25 (0, 0)) (by (with_reducible repeat (first | refine blk_drewN ?_ _ | refine blk_drew ?_ | refine blk_alloc ?_ _)); exact BK101.out) hb); have n1_ := Aside0.mk (below_step (by repeat (first | (with_reducible first | exact HB.out | apply below_alloc | apply pw_below_drewN | apply below_drew1 | refine below_set ?_ GE101.out) | exact HB.out)) hb); have n2_ := Aside0.mk (hbox); have n3_ := Aside0.mk ((by rw [hg]; exact (below_size (by repeat (first | (with_reducible first | exact HB.out | apply below_alloc | apply pw_below_drewN | apply below_drew1 | refine below_set ?_ GE101.out) | exact HB.out))) : w.heap.size ≤ gb105)); have n4_ := Aside0.mk ((by rw [hg]; exact (below_size (by repeat (first | (with_reducible first | exact HB.out | apply below_alloc | apply pw_below_drewN | apply below_drew1 | refine below_set ?_ GE101.out) | exact HB.out))) : w.heap.size ≤ gb105)); have n5_ := Aside0.mk ((by rw [hg]; exact Nat.ne_of_lt (blk_lt (g := gb101) (o := .cells #[.int .i64 a0_0, .int .i64 a0_1, .int .i64 a0_2, .int .i64 a0_3, .string a0_4, .int .i64 a0_5, .string a0_6, .string a0_7, .string a0_8, .string a0_9, .int .i64 a0_10] 25 (0, 0)) (by (with_reducible repeat (first | refine blk_drewN ?_ _ | refine blk_drew ?_ | refine blk_alloc ?_ _)); exact BK101.out)) : gb101 ≠ gb105)); have n6_ := Aside0.mk ((by rw [hg]; exact Nat.ne_of_gt (blk_lt (g := gb101) (o := .cells #[.int .i64 a0_0, .int .i64 a0_1, .int .i64 a0_2, .int .i64 a0_3, .string a0_4, .int .i64 a0_5, .string a0_6, .string a0_7, .string a0_8, .string a0_9, .int .i64 a0_10] 25 (0, 0)) (by (with_reducible repeat (first | refine blk_drewN ?_ _ | refine blk_drew ?_ | refine blk_alloc ?_ _)); exact BK101.out)) : gb105 ≠ gb101)); clear BK101; clear HB; have BK101 := n0_; have HB := n1_; have BK105 := n2_; have GW105 := n3_; have GE105 := n4_; have NB101_105 := n5_; have NB105_101 := n6_; clear n0_ n1_ n2_ n3_ n4_ n5_ n6_; clear hb hbox hg; have hnb35 := NB105_101.out; have hnc35 := NB101_105.out; have hcz36_0 : w34.cell? ⟨gb105, 0, none⟩ = some (.int .i64 0) := (blk_cell BK105.out 0).trans rfl; have hcz36_1 : w34.cell? ⟨gb105, 1, none⟩ = some (.string (⟨#[]⟩ : ByteArray)) := (blk_cell BK105.out 1).trans rfl; have hcz36_2 : w34.cell? ⟨gb105, 2, none⟩ = some (.string (⟨#[]⟩ : ByteArray)) := (blk_cell BK105.out 2).trans rfl; have hcz36_3 : w34.cell? ⟨gb105, 3, none⟩ = some (.string (⟨#[]⟩ : ByteArray)) := (blk_cell BK105.out 3).trans rfl; have hcz36_4 : w34.cell? ⟨gb105, 4, none⟩ = some (.string (⟨#[]⟩ : ByteArray)) := (blk_cell BK105.out 4).trans rfl; have hcz36_5 : w34.cell? ⟨gb105, 5, none⟩ = some (.int .i64 0) := (blk_cell BK105.out 5).trans rfl; have hfz36_0 := blk_frozen BK105.out 0; have hfz36_1 := blk_frozen BK105.out 1; have hfz36_2 := blk_frozen BK105.out 2; have hfz36_3 := blk_frozen BK105.out 3; have hfz36_4 := blk_frozen BK105.out 4; have hfz36_5 := blk_frozen BK105.out 5; have hcz37_0 : w34.cell? ⟨gb101, 0, none⟩ = some (.int .i64 a0_0) := (blk_cell BK101.out 0).trans rfl; have hcz37_1 : w34.cell? ⟨gb101, 1, none⟩ = some (.int .i64 a0_1) := (blk_cell BK101.out 1).trans rfl; have hcz37_2 : w34.cell? ⟨gb101, 2, none⟩ = some (.int .i64 a0_2) := (blk_cell BK101.out 2).trans rfl; have hcz37_3 : w34.cell? ⟨gb101, 3, none⟩ = some (.int .i64 a0_3) := (blk_cell BK101.out 3).trans rfl; have hcz37_4 : w34.cell? ⟨gb101, 4, none⟩ = some (.string a0_4) := (blk_cell BK101.out 4).trans rfl; have hcz37_5 : w34.cell? ⟨gb101, 5, none⟩ = some (.int .i64 a0_5) := (blk_cell BK101.out 5).trans rfl; have hcz37_6 : w34.cell? ⟨gb101, 6, none⟩ = some (.string a0_6) := (blk_cell BK101.out 6).trans rfl; have hcz37_7 : w34.cell? ⟨gb101, 7, none⟩ = some (.string a0_7) := (blk_cell BK101.out 7).trans rfl; have hcz37_8 : w34.cell? ⟨gb101, 8, none⟩ = some (.string a0_8) := (blk_cell BK101.out 8).trans rfl; have hcz37_9 : w34.cell? ⟨gb101, 9, none⟩ = some (.string a0_9) := (blk_cell BK101.out 9).trans rfl; have hcz37_10 : w34.cell? ⟨gb101, 10, none⟩ = some (.int .i64 a0_10) := (blk_cell BK101.out 10).trans rfl; have hfz37_0 := blk_frozen BK101.out 0; have hfz37_1 := blk_frozen BK101.out 1; have hfz37_2 := blk_frozen BK101.out 2; have hfz37_3 := blk_frozen BK101.out 3; have hfz37_4 := blk_frozen BK101.out 4; have hfz37_5 := blk_frozen BK101.out 5; have hfz37_6 := blk_frozen BK101.out 6; have hfz37_7 := blk_frozen BK101.out 7; have hfz37_8 := blk_frozen BK101.out 8; have hfz37_9 := blk_frozen BK101.out 9; have hfz37_10 := blk_frozen BK101.out 10))
                        go_ret
                        exact ⟨by first | rfl | (simp [errW_none, errW_some] <;> rfl) | (simp [*, errW_none, errW_some] <;> rfl), by repeat (first | (with_reducible first | exact HB.out | apply below_alloc | apply pw_below_drewN | apply below_drew1 | refine below_set ?_ GE101.out | refine below_set ?_ GE105.out) | exact HB.out)⟩
                    · rw [if_neg c25] at H
                      have c25b0 : decide ((a0_9.size : Int) ≤ 32) = false := decide_eq_false c25
                      have c25b1 : decide (a0_9.size ≤ 32) = false := decide_eq_false (by omega)
                      clear c25
                      obtain rfl := Option.some.inj H
                      have hcz38_0 : wc.cell? ⟨gb101, 0, none⟩ = some (.int .i64 a0_0) := (blk_cell BK101.out 0).trans rfl
                      have hcz38_1 : wc.cell? ⟨gb101, 1, none⟩ = some (.int .i64 a0_1) := (blk_cell BK101.out 1).trans rfl
                      have hcz38_2 : wc.cell? ⟨gb101, 2, none⟩ = some (.int .i64 a0_2) := (blk_cell BK101.out 2).trans rfl
                      have hcz38_3 : wc.cell? ⟨gb101, 3, none⟩ = some (.int .i64 a0_3) := (blk_cell BK101.out 3).trans rfl
                      have hcz38_4 : wc.cell? ⟨gb101, 4, none⟩ = some (.string a0_4) := (blk_cell BK101.out 4).trans rfl
                      have hcz38_5 : wc.cell? ⟨gb101, 5, none⟩ = some (.int .i64 a0_5) := (blk_cell BK101.out 5).trans rfl
                      have hcz38_6 : wc.cell? ⟨gb101, 6, none⟩ = some (.string a0_6) := (blk_cell BK101.out 6).trans rfl
                      have hcz38_7 : wc.cell? ⟨gb101, 7, none⟩ = some (.string a0_7) := (blk_cell BK101.out 7).trans rfl
                      have hcz38_8 : wc.cell? ⟨gb101, 8, none⟩ = some (.string a0_8) := (blk_cell BK101.out 8).trans rfl
                      have hcz38_9 : wc.cell? ⟨gb101, 9, none⟩ = some (.string a0_9) := (blk_cell BK101.out 9).trans rfl
                      have hcz38_10 : wc.cell? ⟨gb101, 10, none⟩ = some (.int .i64 a0_10) := (blk_cell BK101.out 10).trans rfl
                      have hfz38_0 := blk_frozen BK101.out 0
                      have hfz38_1 := blk_frozen BK101.out 1
                      have hfz38_2 := blk_frozen BK101.out 2
                      have hfz38_3 := blk_frozen BK101.out 3
                      have hfz38_4 := blk_frozen BK101.out 4
                      have hfz38_5 := blk_frozen BK101.out 5
                      have hfz38_6 := blk_frozen BK101.out 6
                      have hfz38_7 := blk_frozen BK101.out 7
                      have hfz38_8 := blk_frozen BK101.out 8
                      have hfz38_9 := blk_frozen BK101.out 9
                      have hfz38_10 := blk_frozen BK101.out 10
                      go_wp2_with (first | ((with_reducible refine gate_dst (N := 3) rfl ?_); (try (refine gate_guard (by rfl) ?_; dsimp only)); refine box_event ?hg (N := 3) ?hd (cs := #[.int .i64 0, .string (⟨#[]⟩ : ByteArray), .string (⟨#[]⟩ : ByteArray), .string (⟨#[]⟩ : ByteArray), .string (⟨#[]⟩ : ByteArray), .int .i64 0]) (t := 23) ?hr ?_; (case hd => rfl); (case hg => rfl); (case hr => first | (go_simp; done) | (go_simp; rfl)); intro gb105 hg w39 hbox hb; have n0_ := Aside0.mk (blk_below (g := gb101) (o := .cells #[.int .i64 a0_0, .int .i64 a0_1, .int .i64 a0_2, .int .i64 a0_3, .string a0_4, .int .i64 a0_5, .string a0_6, .string a0_7, .string a0_8, .string a0_9, .int .i64 a0_10] 25 (0, 0)) (by (with_reducible repeat (first | refine blk_drewN ?_ _ | refine blk_drew ?_ | refine blk_alloc ?_ _)); exact BK101.out) hb); have n1_ := Aside0.mk (below_step (by repeat (first | (with_reducible first | exact HB.out | apply below_alloc | apply pw_below_drewN | apply below_drew1 | refine below_set ?_ GE101.out) | exact HB.out)) hb); have n2_ := Aside0.mk (hbox); have n3_ := Aside0.mk ((by rw [hg]; exact (below_size (by repeat (first | (with_reducible first | exact HB.out | apply below_alloc | apply pw_below_drewN | apply below_drew1 | refine below_set ?_ GE101.out) | exact HB.out))) : w.heap.size ≤ gb105)); have n4_ := Aside0.mk ((by rw [hg]; exact (below_size (by repeat (first | (with_reducible first | exact HB.out | apply below_alloc | apply pw_below_drewN | apply below_drew1 | refine below_set ?_ GE101.out) | exact HB.out))) : w.heap.size ≤ gb105)); have n5_ := Aside0.mk ((by rw [hg]; exact Nat.ne_of_lt (blk_lt (g := gb101) (o := .cells #[.int .i64 a0_0, .int .i64 a0_1, .int .i64 a0_2, .int .i64 a0_3, .string a0_4, .int .i64 a0_5, .string a0_6, .string a0_7, .string a0_8, .string a0_9, .int .i64 a0_10] 25 (0, 0)) (by (with_reducible repeat (first | refine blk_drewN ?_ _ | refine blk_drew ?_ | refine blk_alloc ?_ _)); exact BK101.out)) : gb101 ≠ gb105)); have n6_ := Aside0.mk ((by rw [hg]; exact Nat.ne_of_gt (blk_lt (g := gb101) (o := .cells #[.int .i64 a0_0, .int .i64 a0_1, .int .i64 a0_2, .int .i64 a0_3, .string a0_4, .int .i64 a0_5, .string a0_6, .string a0_7, .string a0_8, .string a0_9, .int .i64 a0_10] 25 (0, 0)) (by (with_reducible repeat (first | refine blk_drewN ?_ _ | refine blk_drew ?_ | refine blk_alloc ?_ _)); exact BK101.out)) : gb105 ≠ gb101)); clear BK101; clear HB; have BK101 := n0_; have HB := n1_; have BK105 := n2_; have GW105 := n3_; have GE105 := n4_; have NB101_105 := n5_; have NB105_101 := n6_; clear n0_ n1_ n2_ n3_ n4_ n5_ n6_; clear hb hbox hg; have hnb40 := NB105_101.out; have hnc40 := NB101_105.out; have hcz41_0 : w39.cell? ⟨gb105, 0, none⟩ = some (.int .i64 0) := (blk_cell BK105.out 0).trans rfl; have hcz41_1 : w39.cell? ⟨gb105, 1, none⟩ = some (.string (⟨#[]⟩ : ByteArray)) := (blk_cell BK105.out 1).trans rfl; have hcz41_2 : w39.cell? ⟨gb105, 2, none⟩ = some (.string (⟨#[]⟩ : ByteArray)) := (blk_cell BK105.out 2).trans rfl; have hcz41_3 : w39.cell? ⟨gb105, 3, none⟩ = some (.string (⟨#[]⟩ : ByteArray)) := (blk_cell BK105.out 3).trans rfl; have hcz41_4 : w39.cell? ⟨gb105, 4, none⟩ = some (.string (⟨#[]⟩ : ByteArray)) := (blk_cell BK105.out 4).trans rfl; have hcz41_5 : w39.cell? ⟨gb105, 5, none⟩ = some (.int .i64 0) := (blk_cell BK105.out 5).trans rfl; have hfz41_0 := blk_frozen BK105.out 0; have hfz41_1 := blk_frozen BK105.out 1; have hfz41_2 := blk_frozen BK105.out 2; have hfz41_3 := blk_frozen BK105.out 3; have hfz41_4 := blk_frozen BK105.out 4; have hfz41_5 := blk_frozen BK105.out 5; have hcz42_0 : w39.cell? ⟨gb101, 0, none⟩ = some (.int .i64 a0_0) := (blk_cell BK101.out 0).trans rfl; have hcz42_1 : w39.cell? ⟨gb101, 1, none⟩ = some (.int .i64 a0_1) := (blk_cell BK101.out 1).trans rfl; have hcz42_2 : w39.cell? ⟨gb101, 2, none⟩ = some (.int .i64 a0_2) := (blk_cell BK101.out 2).trans rfl; have hcz42_3 : w39.cell? ⟨gb101, 3, none⟩ = some (.int .i64 a0_3) := (blk_cell BK101.out 3).trans rfl; have hcz42_4 : w39.cell? ⟨gb101, 4, none⟩ = some (.string a0_4) := (blk_cell BK101.out 4).trans rfl; have hcz42_5 : w39.cell? ⟨gb101, 5, none⟩ = some (.int .i64 a0_5) := (blk_cell BK101.out 5).trans rfl; have hcz42_6 : w39.cell? ⟨gb101, 6, none⟩ = some (.string a0_6) := (blk_cell BK101.out 6).trans rfl; have hcz42_7 : w39.cell? ⟨gb101, 7, none⟩ = some (.string a0_7) := (blk_cell BK101.out 7).trans rfl; have hcz42_8 : w39.cell? ⟨gb101, 8, none⟩ = some (.string a0_8) := (blk_cell BK101.out 8).trans rfl; have hcz42_9 : w39.cell? ⟨gb101, 9, none⟩ = some (.string a0_9) := (blk_cell BK101.out 9).trans rfl; have hcz42_10 : w39.cell? ⟨gb101, 10, none⟩ = some (.int .i64 a0_10) := (blk_cell BK101.out 10).trans rfl; have hfz42_0 := blk_frozen BK101.out 0; have hfz42_1 := blk_frozen BK101.out 1; have hfz42_2 := blk_frozen BK101.out 2; have hfz42_3 := blk_frozen BK101.out 3; have hfz42_4 := blk_frozen BK101.out 4; have hfz42_5 := blk_frozen BK101.out 5; have hfz42_6 := blk_frozen BK101.out 6; have hfz42_7 := blk_frozen BK101.out 7; have hfz42_8 := blk_frozen BK101.out 8; have hfz42_9 := blk_frozen BK101.out 9; have hfz42_10 := blk_frozen BK101.out 10))
                      go_ret
                      exact ⟨by first | rfl | (simp [errW_none, errW_some] <;> rfl) | (simp [*, errW_none, errW_some] <;> rfl), by repeat (first | (with_reducible first | exact HB.out | apply below_alloc | apply pw_below_drewN | apply below_drew1 | refine below_set ?_ GE101.out | refine below_set ?_ GE105.out) | exact HB.out)⟩
                  · rw [if_neg c24] at H
                    have c24b0 : decide ((a0_8.size : Int) ≤ 32) = false := decide_eq_false c24
                    have c24b1 : decide (a0_8.size ≤ 32) = false := decide_eq_false (by omega)
                    clear c24
                    obtain rfl := Option.some.inj H
                    have hcz43_0 : wc.cell? ⟨gb101, 0, none⟩ = some (.int .i64 a0_0) := (blk_cell BK101.out 0).trans rfl
                    have hcz43_1 : wc.cell? ⟨gb101, 1, none⟩ = some (.int .i64 a0_1) := (blk_cell BK101.out 1).trans rfl
                    have hcz43_2 : wc.cell? ⟨gb101, 2, none⟩ = some (.int .i64 a0_2) := (blk_cell BK101.out 2).trans rfl
                    have hcz43_3 : wc.cell? ⟨gb101, 3, none⟩ = some (.int .i64 a0_3) := (blk_cell BK101.out 3).trans rfl
                    have hcz43_4 : wc.cell? ⟨gb101, 4, none⟩ = some (.string a0_4) := (blk_cell BK101.out 4).trans rfl
                    have hcz43_5 : wc.cell? ⟨gb101, 5, none⟩ = some (.int .i64 a0_5) := (blk_cell BK101.out 5).trans rfl
                    have hcz43_6 : wc.cell? ⟨gb101, 6, none⟩ = some (.string a0_6) := (blk_cell BK101.out 6).trans rfl
                    have hcz43_7 : wc.cell? ⟨gb101, 7, none⟩ = some (.string a0_7) := (blk_cell BK101.out 7).trans rfl
                    have hcz43_8 : wc.cell? ⟨gb101, 8, none⟩ = some (.string a0_8) := (blk_cell BK101.out 8).trans rfl
                    have hcz43_9 : wc.cell? ⟨gb101, 9, none⟩ = some (.string a0_9) := (blk_cell BK101.out 9).trans rfl
                    have hcz43_10 : wc.cell? ⟨gb101, 10, none⟩ = some (.int .i64 a0_10) := (blk_cell BK101.out 10).trans rfl
                    have hfz43_0 := blk_frozen BK101.out 0
                    have hfz43_1 := blk_frozen BK101.out 1
                    have hfz43_2 := blk_frozen BK101.out 2
                    have hfz43_3 := blk_frozen BK101.out 3
                    have hfz43_4 := blk_frozen BK101.out 4
                    have hfz43_5 := blk_frozen BK101.out 5
                    have hfz43_6 := blk_frozen BK101.out 6
                    have hfz43_7 := blk_frozen BK101.out 7
                    have hfz43_8 := blk_frozen BK101.out 8
                    have hfz43_9 := blk_frozen BK101.out 9
                    have hfz43_10 := blk_frozen BK101.out 10
                    go_wp2_with (first | ((with_reducible refine gate_dst (N := 3) rfl ?_); (try (refine gate_guard (by rfl) ?_; dsimp only)); refine box_event ?hg (N := 3) ?hd (cs := #[.int .i64 0, .string (⟨#[]⟩ : ByteArray), .string (⟨#[]⟩ : ByteArray), .string (⟨#[]⟩ : ByteArray), .string (⟨#[]⟩ : ByteArray), .int .i64 0]) (t := 23) ?hr ?_; (case hd => rfl); (case hg => rfl); (case hr => first | (go_simp; done) | (go_simp; rfl)); intro gb105 hg w44 hbox hb; have n0_ := Aside0.mk (blk_below (g := gb101) (o := .cells #[.int .i64 a0_0, .int .i64 a0_1, .int .i64 a0_2, .int .i64 a0_3, .string a0_4, .int .i64 a0_5, .string a0_6, .string a0_7, .string a0_8, .string a0_9, .int .i64 a0_10] 25 (0, 0)) (by (with_reducible repeat (first | refine blk_drewN ?_ _ | refine blk_drew ?_ | refine blk_alloc ?_ _)); exact BK101.out) hb); have n1_ := Aside0.mk (below_step (by repeat (first | (with_reducible first | exact HB.out | apply below_alloc | apply pw_below_drewN | apply below_drew1 | refine below_set ?_ GE101.out) | exact HB.out)) hb); have n2_ := Aside0.mk (hbox); have n3_ := Aside0.mk ((by rw [hg]; exact (below_size (by repeat (first | (with_reducible first | exact HB.out | apply below_alloc | apply pw_below_drewN | apply below_drew1 | refine below_set ?_ GE101.out) | exact HB.out))) : w.heap.size ≤ gb105)); have n4_ := Aside0.mk ((by rw [hg]; exact (below_size (by repeat (first | (with_reducible first | exact HB.out | apply below_alloc | apply pw_below_drewN | apply below_drew1 | refine below_set ?_ GE101.out) | exact HB.out))) : w.heap.size ≤ gb105)); have n5_ := Aside0.mk ((by rw [hg]; exact Nat.ne_of_lt (blk_lt (g := gb101) (o := .cells #[.int .i64 a0_0, .int .i64 a0_1, .int .i64 a0_2, .int .i64 a0_3, .string a0_4, .int .i64 a0_5, .string a0_6, .string a0_7, .string a0_8, .string a0_9, .int .i64 a0_10] 25 (0, 0)) (by (with_reducible repeat (first | refine blk_drewN ?_ _ | refine blk_drew ?_ | refine blk_alloc ?_ _)); exact BK101.out)) : gb101 ≠ gb105)); have n6_ := Aside0.mk ((by rw [hg]; exact Nat.ne_of_gt (blk_lt (g := gb101) (o := .cells #[.int .i64 a0_0, .int .i64 a0_1, .int .i64 a0_2, .int .i64 a0_3, .string a0_4, .int .i64 a0_5, .string a0_6, .string a0_7, .string a0_8, .string a0_9, .int .i64 a0_10] 25 (0, 0)) (by (with_reducible repeat (first | refine blk_drewN ?_ _ | refine blk_drew ?_ | refine blk_alloc ?_ _)); exact BK101.out)) : gb105 ≠ gb101)); clear BK101; clear HB; have BK101 := n0_; have HB := n1_; have BK105 := n2_; have GW105 := n3_; have GE105 := n4_; have NB101_105 := n5_; have NB105_101 := n6_; clear n0_ n1_ n2_ n3_ n4_ n5_ n6_; clear hb hbox hg; have hnb45 := NB105_101.out; have hnc45 := NB101_105.out; have hcz46_0 : w44.cell? ⟨gb105, 0, none⟩ = some (.int .i64 0) := (blk_cell BK105.out 0).trans rfl; have hcz46_1 : w44.cell? ⟨gb105, 1, none⟩ = some (.string (⟨#[]⟩ : ByteArray)) := (blk_cell BK105.out 1).trans rfl; have hcz46_2 : w44.cell? ⟨gb105, 2, none⟩ = some (.string (⟨#[]⟩ : ByteArray)) := (blk_cell BK105.out 2).trans rfl; have hcz46_3 : w44.cell? ⟨gb105, 3, none⟩ = some (.string (⟨#[]⟩ : ByteArray)) := (blk_cell BK105.out 3).trans rfl; have hcz46_4 : w44.cell? ⟨gb105, 4, none⟩ = some (.string (⟨#[]⟩ : ByteArray)) := (blk_cell BK105.out 4).trans rfl; have hcz46_5 : w44.cell? ⟨gb105, 5, none⟩ = some (.int .i64 0) := (blk_cell BK105.out 5).trans rfl; have hfz46_0 := blk_frozen BK105.out 0; have hfz46_1 := blk_frozen BK105.out 1; have hfz46_2 := blk_frozen BK105.out 2; have hfz46_3 := blk_frozen BK105.out 3; have hfz46_4 := blk_frozen BK105.out 4; have hfz46_5 := blk_frozen BK105.out 5; have hcz47_0 : w44.cell? ⟨gb101, 0, none⟩ = some (.int .i64 a0_0) := (blk_cell BK101.out 0).trans rfl; have hcz47_1 : w44.cell? ⟨gb101, 1, none⟩ = some (.int .i64 a0_1) := (blk_cell BK101.out 1).trans rfl; have hcz47_2 : w44.cell? ⟨gb101, 2, none⟩ = some (.int .i64 a0_2) := (blk_cell BK101.out 2).trans rfl; have hcz47_3 : w44.cell? ⟨gb101, 3, none⟩ = some (.int .i64 a0_3) := (blk_cell BK101.out 3).trans rfl; have hcz47_4 : w44.cell? ⟨gb101, 4, none⟩ = some (.string a0_4) := (blk_cell BK101.out 4).trans rfl; have hcz47_5 : w44.cell? ⟨gb101, 5, none⟩ = some (.int .i64 a0_5) := (blk_cell BK101.out 5).trans rfl; have hcz47_6 : w44.cell? ⟨gb101, 6, none⟩ = some (.string a0_6) := (blk_cell BK101.out 6).trans rfl; have hcz47_7 : w44.cell? ⟨gb101, 7, none⟩ = some (.string a0_7) := (blk_cell BK101.out 7).trans rfl; have hcz47_8 : w44.cell? ⟨gb101, 8, none⟩ = some (.string a0_8) := (blk_cell BK101.out 8).trans rfl; have hcz47_9 : w44.cell? ⟨gb101, 9, none⟩ = some (.string a0_9) := (blk_cell BK101.out 9).trans rfl; have hcz47_10 : w44.cell? ⟨gb101, 10, none⟩ = some (.int .i64 a0_10) := (blk_cell BK101.out 10).trans rfl; have hfz47_0 := blk_frozen BK101.out 0; have hfz47_1 := blk_frozen BK101.out 1; have hfz47_2 := blk_frozen BK101.out 2; have hfz47_3 := blk_frozen BK101.out 3; have hfz47_4 := blk_frozen BK101.out 4; have hfz47_5 := blk_frozen BK101.out 5; have hfz47_6 := blk_frozen BK101.out 6; have hfz47_7 := blk_frozen BK101.out 7; have hfz47_8 := blk_frozen BK101.out 8; have hfz47_9 := blk_frozen BK101.out 9; have hfz47_10 := blk_frozen BK101.out 10))
                    go_ret
                    exact ⟨by first | rfl | (simp [errW_none, errW_some] <;> rfl) | (simp [*, errW_none, errW_some] <;> rfl), by repeat (first | (with_reducible first | exact HB.out | apply below_alloc | apply pw_below_drewN | apply below_drew1 | refine below_set ?_ GE101.out | refine below_set ?_ GE105.out) | exact HB.out)⟩
                · rw [if_neg c23] at H
                  have c23b0 : decide ((a0_6.size : Int) ≤ 32) = false := decide_eq_false c23
                  have c23b1 : decide (a0_6.size ≤ 32) = false := decide_eq_false (by omega)
                  clear c23
                  obtain rfl := Option.some.inj H
                  have hcz48_0 : wc.cell? ⟨gb101, 0, none⟩ = some (.int .i64 a0_0) := (blk_cell BK101.out 0).trans rfl
                  have hcz48_1 : wc.cell? ⟨gb101, 1, none⟩ = some (.int .i64 a0_1) := (blk_cell BK101.out 1).trans rfl
                  have hcz48_2 : wc.cell? ⟨gb101, 2, none⟩ = some (.int .i64 a0_2) := (blk_cell BK101.out 2).trans rfl
                  have hcz48_3 : wc.cell? ⟨gb101, 3, none⟩ = some (.int .i64 a0_3) := (blk_cell BK101.out 3).trans rfl
                  have hcz48_4 : wc.cell? ⟨gb101, 4, none⟩ = some (.string a0_4) := (blk_cell BK101.out 4).trans rfl
                  have hcz48_5 : wc.cell? ⟨gb101, 5, none⟩ = some (.int .i64 a0_5) := (blk_cell BK101.out 5).trans rfl
                  have hcz48_6 : wc.cell? ⟨gb101, 6, none⟩ = some (.string a0_6) := (blk_cell BK101.out 6).trans rfl
                  have hcz48_7 : wc.cell? ⟨gb101, 7, none⟩ = some (.string a0_7) := (blk_cell BK101.out 7).trans rfl
                  have hcz48_8 : wc.cell? ⟨gb101, 8, none⟩ = some (.string a0_8) := (blk_cell BK101.out 8).trans rfl
                  have hcz48_9 : wc.cell? ⟨gb101, 9, none⟩ = some (.string a0_9) := (blk_cell BK101.out 9).trans rfl
                  have hcz48_10 : wc.cell? ⟨gb101, 10, none⟩ = some (.int .i64 a0_10) := (blk_cell BK101.out 10).trans rfl
                  have hfz48_0 := blk_frozen BK101.out 0
                  have hfz48_1 := blk_frozen BK101.out 1
                  have hfz48_2 := blk_frozen BK101.out 2
                  have hfz48_3 := blk_frozen BK101.out 3
                  have hfz48_4 := blk_frozen BK101.out 4
                  have hfz48_5 := blk_frozen BK101.out 5
                  have hfz48_6 := blk_frozen BK101.out 6
                  have hfz48_7 := blk_frozen BK101.out 7
                  have hfz48_8 := blk_frozen BK101.out 8
                  have hfz48_9 := blk_frozen BK101.out 9
                  have hfz48_10 := blk_frozen BK101.out 10
                  go_wp2_with (first | ((with_reducible refine gate_dst (N := 3) rfl ?_); (try (refine gate_guard (by rfl) ?_; dsimp only)); refine box_event ?hg (N := 3) ?hd (cs := #[.int .i64 0, .string (⟨#[]⟩ : ByteArray), .string (⟨#[]⟩ : ByteArray), .string (⟨#[]⟩ : ByteArray), .string (⟨#[]⟩ : ByteArray), .int .i64 0]) (t := 23) ?hr ?_; (case hd => rfl); (case hg => rfl); (case hr => first | (go_simp; done) | (go_simp; rfl)); intro gb105 hg w49 hbox hb; have n0_ := Aside0.mk (blk_below (g := gb101) (o := .cells #[.int .i64 a0_0, .int .i64 a0_1, .int .i64 a0_2, .int .i64 a0_3, .string a0_4, .int .i64 a0_5, .string a0_6, .string a0_7, .string a0_8, .string a0_9, .int .i64 a0_10] 25 (0, 0)) (by (with_reducible repeat (first | refine blk_drewN ?_ _ | refine blk_drew ?_ | refine blk_alloc ?_ _)); exact BK101.out) hb); have n1_ := Aside0.mk (below_step (by repeat (first | (with_reducible first | exact HB.out | apply below_alloc | apply pw_below_drewN | apply below_drew1 | refine below_set ?_ GE101.out) | exact HB.out)) hb); have n2_ := Aside0.mk (hbox); have n3_ := Aside0.mk ((by rw [hg]; exact (below_size (by repeat (first | (with_reducible first | exact HB.out | apply below_alloc | apply pw_below_drewN | apply below_drew1 | refine below_set ?_ GE101.out) | exact HB.out))) : w.heap.size ≤ gb105)); have n4_ := Aside0.mk ((by rw [hg]; exact (below_size (by repeat (first | (with_reducible first | exact HB.out | apply below_alloc | apply pw_below_drewN | apply below_drew1 | refine below_set ?_ GE101.out) | exact HB.out))) : w.heap.size ≤ gb105)); have n5_ := Aside0.mk ((by rw [hg]; exact Nat.ne_of_lt (blk_lt (g := gb101) (o := .cells #[.int .i64 a0_0, .int .i64 a0_1, .int .i64 a0_2, .int .i64 a0_3, .string a0_4, .int .i64 a0_5, .string a0_6, .string a0_7, .string a0_8, .string a0_9, .int .i64 a0_10] 25 (0, 0)) (by (with_reducible repeat (first | refine blk_drewN ?_ _ | refine blk_drew ?_ | refine blk_alloc ?_ _)); exact BK101.out)) : gb101 ≠ gb105)); have n6_ := Aside0.mk ((by rw [hg]; exact Nat.ne_of_gt (blk_lt (g := gb101) (o := .cells #[.int .i64 a0_0, .int .i64 a0_1, .int .i64 a0_2, .int .i64 a0_3, .string a0_4, .int .i64 a0_5, .string a0_6, .string a0_7, .string a0_8, .string a0_9, .int .i64 a0_10] 25 (0, 0)) (by (with_reducible repeat (first | refine blk_drewN ?_ _ | refine blk_drew ?_ | refine blk_alloc ?_ _)); exact BK101.out)) : gb105 ≠ gb101)); clear BK101; clear HB; have BK101 := n0_; have HB := n1_; have BK105 := n2_; have GW105 := n3_; have GE105 := n4_; have NB101_105 := n5_; have NB105_101 := n6_; clear n0_ n1_ n2_ n3_ n4_ n5_ n6_; clear hb hbox hg; have hnb50 := NB105_101.out; have hnc50 := NB101_105.out; have hcz51_0 : w49.cell? ⟨gb105, 0, none⟩ = some (.int .i64 0) := (blk_cell BK105.out 0).trans rfl; have hcz51_1 : w49.cell? ⟨gb105, 1, none⟩ = some (.string (⟨#[]⟩ : ByteArray)) := (blk_cell BK105.out 1).trans rfl; have hcz51_2 : w49.cell? ⟨gb105, 2, none⟩ = some (.string (⟨#[]⟩ : ByteArray)) := (blk_cell BK105.out 2).trans rfl; have hcz51_3 : w49.cell? ⟨gb105, 3, none⟩ = some (.string (⟨#[]⟩ : ByteArray)) := (blk_cell BK105.out 3).trans rfl; have hcz51_4 : w49.cell? ⟨gb105, 4, none⟩ = some (.string (⟨#[]⟩ : ByteArray)) := (blk_cell BK105.out 4).trans rfl; have hcz51_5 : w49.cell? ⟨gb105, 5, none⟩ = some (.int .i64 0) := (blk_cell BK105.out 5).trans rfl; have hfz51_0 := blk_frozen BK105.out 0; have hfz51_1 := blk_frozen BK105.out 1; have hfz51_2 := blk_frozen BK105.out 2; have hfz51_3 := blk_frozen BK105.out 3; have hfz51_4 := blk_frozen BK105.out 4; have hfz51_5 := blk_frozen BK105.out 5; have hcz52_0 : w49.cell? ⟨gb101, 0, none⟩ = some (.int .i64 a0_0) := (blk_cell BK101.out 0).trans rfl; have hcz52_1 : w49.cell? ⟨gb101, 1, none⟩ = some (.int .i64 a0_1) := (blk_cell BK101.out 1).trans rfl; have hcz52_2 : w49.cell? ⟨gb101, 2, none⟩ = some (.int .i64 a0_2) := (blk_cell BK101.out 2).trans rfl; have hcz52_3 : w49.cell? ⟨gb101, 3, none⟩ = some (.int .i64 a0_3) := (blk_cell BK101.out 3).trans rfl; have hcz52_4 : w49.cell? ⟨gb101, 4, none⟩ = some (.string a0_4) := (blk_cell BK101.out 4).trans rfl; have hcz52_5 : w49.cell? ⟨gb101, 5, none⟩ = some (.int .i64 a0_5) := (blk_cell BK101.out 5).trans rfl; have hcz52_6 : w49.cell? ⟨gb101, 6, none⟩ = some (.string a0_6) := (blk_cell BK101.out 6).trans rfl; have hcz52_7 : w49.cell? ⟨gb101, 7, none⟩ = some (.string a0_7) := (blk_cell BK101.out 7).trans rfl; have hcz52_8 : w49.cell? ⟨gb101, 8, none⟩ = some (.string a0_8) := (blk_cell BK101.out 8).trans rfl; have hcz52_9 : w49.cell? ⟨gb101, 9, none⟩ = some (.string a0_9) := (blk_cell BK101.out 9).trans rfl; have hcz52_10 : w49.cell? ⟨gb101, 10, none⟩ = some (.int .i64 a0_10) := (blk_cell BK101.out 10).trans rfl; have hfz52_0 := blk_frozen BK101.out 0; have hfz52_1 := blk_frozen BK101.out 1; have hfz52_2 := blk_frozen BK101.out 2; have hfz52_3 := blk_frozen BK101.out 3; have hfz52_4 := blk_frozen BK101.out 4; have hfz52_5 := blk_frozen BK101.out 5; have hfz52_6 := blk_frozen BK101.out 6; have hfz52_7 := blk_frozen BK101.out 7; have hfz52_8 := blk_frozen BK101.out 8; have hfz52_9 := blk_frozen BK101.out 9; have hfz52_10 := blk_frozen BK101.out 10))
                  go_ret
                  exact ⟨by first | rfl | (simp [errW_none, errW_some] <;> rfl) | (simp [*, errW_none, errW_some] <;> rfl), by repeat (first | (with_reducible first | exact HB.out | apply below_alloc | apply pw_below_drewN | apply below_drew1 | refine below_set ?_ GE101.out | refine below_set ?_ GE105.out) | exact HB.out)⟩
              · rw [if_neg c22] at H
                have c22b0 : decide (a0_5 ≤ 6) = false := decide_eq_false c22
                clear c22
                obtain rfl := Option.some.inj H
                have hcz53_0 : wc.cell? ⟨gb101, 0, none⟩ = some (.int .i64 a0_0) := (blk_cell BK101.out 0).trans rfl
                have hcz53_1 : wc.cell? ⟨gb101, 1, none⟩ = some (.int .i64 a0_1) := (blk_cell BK101.out 1).trans rfl
                have hcz53_2 : wc.cell? ⟨gb101, 2, none⟩ = some (.int .i64 a0_2) := (blk_cell BK101.out 2).trans rfl
                have hcz53_3 : wc.cell? ⟨gb101, 3, none⟩ = some (.int .i64 a0_3) := (blk_cell BK101.out 3).trans rfl
                have hcz53_4 : wc.cell? ⟨gb101, 4, none⟩ = some (.string a0_4) := (blk_cell BK101.out 4).trans rfl
                have hcz53_5 : wc.cell? ⟨gb101, 5, none⟩ = some (.int .i64 a0_5) := (blk_cell BK101.out 5).trans rfl
                have hcz53_6 : wc.cell? ⟨gb101, 6, none⟩ = some (.string a0_6) := (blk_cell BK101.out 6).trans rfl
                have hcz53_7 : wc.cell? ⟨gb101, 7, none⟩ = some (.string a0_7) := (blk_cell BK101.out 7).trans rfl
                have hcz53_8 : wc.cell? ⟨gb101, 8, none⟩ = some (.string a0_8) := (blk_cell BK101.out 8).trans rfl
                have hcz53_9 : wc.cell? ⟨gb101, 9, none⟩ = some (.string a0_9) := (blk_cell BK101.out 9).trans rfl
                have hcz53_10 : wc.cell? ⟨gb101, 10, none⟩ = some (.int .i64 a0_10) := (blk_cell BK101.out 10).trans rfl
                have hfz53_0 := blk_frozen BK101.out 0
                have hfz53_1 := blk_frozen BK101.out 1
                have hfz53_2 := blk_frozen BK101.out 2
                have hfz53_3 := blk_frozen BK101.out 3
                have hfz53_4 := blk_frozen BK101.out 4
                have hfz53_5 := blk_frozen BK101.out 5
                have hfz53_6 := blk_frozen BK101.out 6
                have hfz53_7 := blk_frozen BK101.out 7
                have hfz53_8 := blk_frozen BK101.out 8
                have hfz53_9 := blk_frozen BK101.out 9
                have hfz53_10 := blk_frozen BK101.out 10
                go_wp2_with (first | ((with_reducible refine gate_dst (N := 3) rfl ?_); (try (refine gate_guard (by rfl) ?_; dsimp only)); refine box_event ?hg (N := 3) ?hd (cs := #[.int .i64 0, .string (⟨#[]⟩ : ByteArray), .string (⟨#[]⟩ : ByteArray), .string (⟨#[]⟩ : ByteArray), .string (⟨#[]⟩ : ByteArray), .int .i64 0]) (t := 23) ?hr ?_; (case hd => rfl); (case hg => rfl); (case hr => first | (go_simp; done) | (go_simp; rfl)); intro gb105 hg w54 hbox hb; have n0_ := Aside0.mk (blk_below (g := gb101) (o := .cells #[.int .i64 a0_0, .int .i64 a0_1, .int .i64 a0_2, .int .i64 a0_3, .string a0_4, .int .i64 a0_5, .string a0_6, .string a0_7, .string a0_8, .string a0_9, .int .i64 a0_10] 25 (0, 0)) (by (with_reducible repeat (first | refine blk_drewN ?_ _ | refine blk_drew ?_ | refine blk_alloc ?_ _)); exact BK101.out) hb); have n1_ := Aside0.mk (below_step (by repeat (first | (with_reducible first | exact HB.out | apply below_alloc | apply pw_below_drewN | apply below_drew1 | refine below_set ?_ GE101.out) | exact HB.out)) hb); have n2_ := Aside0.mk (hbox); have n3_ := Aside0.mk ((by rw [hg]; exact (below_size (by repeat (first | (with_reducible first | exact HB.out | apply below_alloc | apply pw_below_drewN | apply below_drew1 | refine below_set ?_ GE101.out) | exact HB.out))) : w.heap.size ≤ gb105)); have n4_ := Aside0.mk ((by rw [hg]; exact (below_size (by repeat (first | (with_reducible first | exact HB.out | apply below_alloc | apply pw_below_drewN | apply below_drew1 | refine below_set ?_ GE101.out) | exact HB.out))) : w.heap.size ≤ gb105)); have n5_ := Aside0.mk ((by rw [hg]; exact Nat.ne_of_lt (blk_lt (g := gb101) (o := .cells #[.int .i64 a0_0, .int .i64 a0_1, .int .i64 a0_2, .int .i64 a0_3, .string a0_4, .int .i64 a0_5, .string a0_6, .string a0_7, .string a0_8, .string a0_9, .int .i64 a0_10] 25 (0, 0)) (by (with_reducible repeat (first | refine blk_drewN ?_ _ | refine blk_drew ?_ | refine blk_alloc ?_ _)); exact BK101.out)) : gb101 ≠ gb105)); have n6_ := Aside0.mk ((by rw [hg]; exact Nat.ne_of_gt (blk_lt (g := gb101) (o := .cells #[.int .i64 a0_0, .int .i64 a0_1, .int .i64 a0_2, .int .i64 a0_3, .string a0_4, .int .i64 a0_5, .string a0_6, .string a0_7, .string a0_8, .string a0_9, .int .i64 a0_10] 25 (0, 0)) (by (with_reducible repeat (first | refine blk_drewN ?_ _ | refine blk_drew ?_ | refine blk_alloc ?_ _)); exact BK101.out)) : gb105 ≠ gb101)); clear BK101; clear HB; have BK101 := n0_; have HB := n1_; have BK105 := n2_; have GW105 := n3_; have GE105 := n4_; have NB101_105 := n5_; have NB105_101 := n6_; clear n0_ n1_ n2_ n3_ n4_ n5_ n6_; clear hb hbox hg; have hnb55 := NB105_101.out; have hnc55 := NB101_105.out; have hcz56_0 : w54.cell? ⟨gb105, 0, none⟩ = some (.int .i64 0) := (blk_cell BK105.out 0).trans rfl; have hcz56_1 : w54.cell? ⟨gb105, 1, none⟩ = some (.string (⟨#[]⟩ : ByteArray)) := (blk_cell BK105.out 1).trans rfl; have hcz56_2 : w54.cell? ⟨gb105, 2, none⟩ = some (.string (⟨#[]⟩ : ByteArray)) := (blk_cell BK105.out 2).trans rfl; have hcz56_3 : w54.cell? ⟨gb105, 3, none⟩ = some (.string (⟨#[]⟩ : ByteArray)) := (blk_cell BK105.out 3).trans rfl; have hcz56_4 : w54.cell? ⟨gb105, 4, none⟩ = some (.string (⟨#[]⟩ : ByteArray)) := (blk_cell BK105.out 4).trans rfl; have hcz56_5 : w54.cell? ⟨gb105, 5, none⟩ = some (.int .i64 0) := (blk_cell BK105.out 5).trans rfl; have hfz56_0 := blk_frozen BK105.out 0; have hfz56_1 := blk_frozen BK105.out 1; have hfz56_2 := blk_frozen BK105.out 2; have hfz56_3 := blk_frozen BK105.out 3; have hfz56_4 := blk_frozen BK105.out 4; have hfz56_5 := blk_frozen BK105.out 5; have hcz57_0 : w54.cell? ⟨gb101, 0, none⟩ = some (.int .i64 a0_0) := (blk_cell BK101.out 0).trans rfl; have hcz57_1 : w54.cell? ⟨gb101, 1, none⟩ = some (.int .i64 a0_1) := (blk_cell BK101.out 1).trans rfl; have hcz57_2 : w54.cell? ⟨gb101, 2, none⟩ = some (.int .i64 a0_2) := (blk_cell BK101.out 2).trans rfl; have hcz57_3 : w54.cell? ⟨gb101, 3, none⟩ = some (.int .i64 a0_3) := (blk_cell BK101.out 3).trans rfl; have hcz57_4 : w54.cell? ⟨gb101, 4, none⟩ = some (.string a0_4) := (blk_cell BK101.out 4).trans rfl; have hcz57_5 : w54.cell? ⟨gb101, 5, none⟩ = some (.int .i64 a0_5) := (blk_cell BK101.out 5).trans rfl; have hcz57_6 : w54.cell? ⟨gb101, 6, none⟩ = some (.string a0_6) := (blk_cell BK101.out 6).trans rfl; have hcz57_7 : w54.cell? ⟨gb101, 7, none⟩ = some (.string a0_7) := (blk_cell BK101.out 7).trans rfl; have hcz57_8 : w54.cell? ⟨gb101, 8, none⟩ = some (.string a0_8) := (blk_cell BK101.out 8).trans rfl; have hcz57_9 : w54.cell? ⟨gb101, 9, none⟩ = some (.string a0_9) := (blk_cell BK101.out 9).trans rfl; have hcz57_10 : w54.cell? ⟨gb101, 10, none⟩ = some (.int .i64 a0_10) := (blk_cell BK101.out 10).trans rfl; have hfz57_0 := blk_frozen BK101.out 0; have hfz57_1 := blk_frozen BK101.out 1; have hfz57_2 := blk_frozen BK101.out 2; have hfz57_3 := blk_frozen BK101.out 3; have hfz57_4 := blk_frozen BK101.out 4; have hfz57_5 := blk_frozen BK101.out 5; have hfz57_6 := blk_frozen BK101.out 6; have hfz57_7 := blk_frozen BK101.out 7; have hfz57_8 := blk_frozen BK101.out 8; have hfz57_9 := blk_frozen BK101.out 9; have hfz57_10 := blk_frozen BK101.out 10))
                go_ret
                exact ⟨by first | rfl | (simp [errW_none, errW_some] <;> rfl) | (simp [*, errW_none, errW_some] <;> rfl), by repeat (first | (with_reducible first | exact HB.out | apply below_alloc | apply pw_below_drewN | apply below_drew1 | refine below_set ?_ GE101.out | refine below_set ?_ GE105.out) | exact HB.out)⟩
            · rw [if_neg c21] at H
              have c21b0 : decide (1 ≤ a0_5) = false := decide_eq_false c21
              clear c21
              obtain rfl := Option.some.inj H
              have hcz58_0 : wc.cell? ⟨gb101, 0, none⟩ = some (.int .i64 a0_0) := (blk_cell BK101.out 0).trans rfl
              have hcz58_1 : wc.cell? ⟨gb101, 1, none⟩ = some (.int .i64 a0_1) := (blk_cell BK101.out 1).trans rfl
              have hcz58_2 : wc.cell? ⟨gb101, 2, none⟩ = some (.int .i64 a0_2) := (blk_cell BK101.out 2).trans rfl
              have hcz58_3 : wc.cell? ⟨gb101, 3, none⟩ = some (.int .i64 a0_3) := (blk_cell BK101.out 3).trans rfl
              have hcz58_4 : wc.cell? ⟨gb101, 4, none⟩ = some (.string a0_4) := (blk_cell BK101.out 4).trans rfl
              have hcz58_5 : wc.cell? ⟨gb101, 5, none⟩ = some (.int .i64 a0_5) := (blk_cell BK101.out 5).trans rfl
              have hcz58_6 : wc.cell? ⟨gb101, 6, none⟩ = some (.string a0_6) := (blk_cell BK101.out 6).trans rfl
              have hcz58_7 : wc.cell? ⟨gb101, 7, none⟩ = some (.string a0_7) := (blk_cell BK101.out 7).trans rfl
              have hcz58_8 : wc.cell? ⟨gb101, 8, none⟩ = some (.string a0_8) := (blk_cell BK101.out 8).trans rfl
              have hcz58_9 : wc.cell? ⟨gb101, 9, none⟩ = some (.string a0_9) := (blk_cell BK101.out 9).trans rfl
              have hcz58_10 : wc.cell? ⟨gb101, 10, none⟩ = some (.int .i64 a0_10) := (blk_cell BK101.out 10).trans rfl
              have hfz58_0 := blk_frozen BK101.out 0
              have hfz58_1 := blk_frozen BK101.out 1
              have hfz58_2 := blk_frozen BK101.out 2
              have hfz58_3 := blk_frozen BK101.out 3
              have hfz58_4 := blk_frozen BK101.out 4
              have hfz58_5 := blk_frozen BK101.out 5
              have hfz58_6 := blk_frozen BK101.out 6
              have hfz58_7 := blk_frozen BK101.out 7
              have hfz58_8 := blk_frozen BK101.out 8
              have hfz58_9 := blk_frozen BK101.out 9
              have hfz58_10 := blk_frozen BK101.out 10
              go_wp2_with (first | ((with_reducible refine gate_dst (N := 3) rfl ?_); (try (refine gate_guard (by rfl) ?_; dsimp only)); refine box_event ?hg (N := 3) ?hd (cs := #[.int .i64 0, .string (⟨#[]⟩ : ByteArray), .string (⟨#[]⟩ : ByteArray), .string (⟨#[]⟩ : ByteArray), .string (⟨#[]⟩ : ByteArray), .int .i64 0]) (t := 23) ?hr ?_; (case hd => rfl); (case hg => rfl); (case hr => first | (go_simp; done) | (go_simp; rfl)); intro gb105 hg w59 hbox hb; have n0_ := Aside0.mk (blk_below (g := gb101) (o := .cells #[.int .i64 a0_0, .int .i64 a0_1, .int .i64 a0_2, .int .i64 a0_3, .string a0_4, .int .i64 a0_5, .string a0_6, .string a0_7, .string a0_8, .string a0_9, .int .i64 a0_10] 25 (0, 0)) (by (with_reducible repeat (first | refine blk_drewN ?_ _ | refine blk_drew ?_ | refine blk_alloc ?_ _)); exact BK101.out) hb); have n1_ := Aside0.mk (below_step (by repeat (first | (with_reducible first | exact HB.out | apply below_alloc | apply pw_below_drewN | apply below_drew1 | refine below_set ?_ GE101.out) | exact HB.out)) hb); have n2_ := Aside0.mk (hbox); have n3_ := Aside0.mk ((by rw [hg]; exact (below_size (by repeat (first | (with_reducible first | exact HB.out | apply below_alloc | apply pw_below_drewN | apply below_drew1 | refine below_set ?_ GE101.out) | exact HB.out))) : w.heap.size ≤ gb105)); have n4_ := Aside0.mk ((by rw [hg]; exact (below_size (by repeat (first | (with_reducible first | exact HB.out | apply below_alloc | apply pw_below_drewN | apply below_drew1 | refine below_set ?_ GE101.out) | exact HB.out))) : w.heap.size ≤ gb105)); have n5_ := Aside0.mk ((by rw [hg]; exact Nat.ne_of_lt (blk_lt (g := gb101) (o := .cells #[.int .i64 a0_0, .int .i64 a0_1, .int .i64 a0_2, .int .i64 a0_3, .string a0_4, .int .i64 a0_5, .string a0_6, .string a0_7, .string a0_8, .string a0_9, .int .i64 a0_10] 25 (0, 0)) (by (with_reducible repeat (first | refine blk_drewN ?_ _ | refine blk_drew ?_ | refine blk_alloc ?_ _)); exact BK101.out)) : gb101 ≠ gb105)); have n6_ := Aside0.mk ((by rw [hg]; exact Nat.ne_of_gt (blk_lt (g := gb101) (o := .cells #[.int .i64 a0_0, .int .i64 a0_1, .int .i64 a0_2, .int .i64 a0_3, .string a0_4, .int .i64 a0_5, .string a0_6, .string a0_7, .string a0_8, .string a0_9, .int .i64 a0_10] 25 (0, 0)) (by (with_reducible repeat (first | refine blk_drewN ?_ _ | refine blk_drew ?_ | refine blk_alloc ?_ _)); exact BK101.out)) : gb105 ≠ gb101)); clear BK101; clear HB; have BK101 := n0_; have HB := n1_; have BK105 := n2_; have GW105 := n3_; have GE105 := n4_; have NB101_105 := n5_; have NB105_101 := n6_; clear n0_ n1_ n2_ n3_ n4_ n5_ n6_; clear hb hbox hg; have hnb60 := NB105_101.out; have hnc60 := NB101_105.out; have hcz61_0 : w59.cell? ⟨gb105, 0, none⟩ = some (.int .i64 0) := (blk_cell BK105.out 0).trans rfl; have hcz61_1 : w59.cell? ⟨gb105, 1, none⟩ = some (.string (⟨#[]⟩ : ByteArray)) := (blk_cell BK105.out 1).trans rfl; have hcz61_2 : w59.cell? ⟨gb105, 2, none⟩ = some (.string (⟨#[]⟩ : ByteArray)) := (blk_cell BK105.out 2).trans rfl; have hcz61_3 : w59.cell? ⟨gb105, 3, none⟩ = some (.string (⟨#[]⟩ : ByteArray)) := (blk_cell BK105.out 3).trans rfl; have hcz61_4 : w59.cell? ⟨gb105, 4, none⟩ = some (.string (⟨#[]⟩ : ByteArray)) := (blk_cell BK105.out 4).trans rfl; have hcz61_5 : w59.cell? ⟨gb105, 5, none⟩ = some (.int .i64 0) := (blk_cell BK105.out 5).trans rfl; have hfz61_0 := blk_frozen BK105.out 0; have hfz61_1 := blk_frozen BK105.out 1; have hfz61_2 := blk_frozen BK105.out 2; have hfz61_3 := blk_frozen BK105.out 3; have hfz61_4 := blk_frozen BK105.out 4; have hfz61_5 := blk_frozen BK105.out 5; have hcz62_0 : w59.cell? ⟨gb101, 0, none⟩ = some (.int .i64 a0_0) := (blk_cell BK101.out 0).trans rfl; have hcz62_1 : w59.cell? ⟨gb101, 1, none⟩ = some (.int .i64 a0_1) := (blk_cell BK101.out 1).trans rfl; have hcz62_2 : w59.cell? ⟨gb101, 2, none⟩ = some (.int .i64 a0_2) := (blk_cell BK101.out 2).trans rfl; have hcz62_3 : w59.cell? ⟨gb101, 3, none⟩ = some (.int .i64 a0_3) := (blk_cell BK101.out 3).trans rfl; have hcz62_4 : w59.cell? ⟨gb101, 4, none⟩ = some (.string a0_4) := (blk_cell BK101.out 4).trans rfl; have hcz62_5 : w59.cell? ⟨gb101, 5, none⟩ = some (.int .i64 a0_5) := (blk_cell BK101.out 5).trans rfl; have hcz62_6 : w59.cell? ⟨gb101, 6, none⟩ = some (.string a0_6) := (blk_cell BK101.out 6).trans rfl; have hcz62_7 : w59.cell? ⟨gb101, 7, none⟩ = some (.string a0_7) := (blk_cell BK101.out 7).trans rfl; have hcz62_8 : w59.cell? ⟨gb101, 8, none⟩ = some (.string a0_8) := (blk_cell BK101.out 8).trans rfl; have hcz62_9 : w59.cell? ⟨gb101, 9, none⟩ = some (.string a0_9) := (blk_cell BK101.out 9).trans rfl; have hcz62_10 : w59.cell? ⟨gb101, 10, none⟩ = some (.int .i64 a0_10) := (blk_cell BK101.out 10).trans rfl; have hfz62_0 := blk_frozen BK101.out 0; have hfz62_1 := blk_frozen BK101.out 1; have hfz62_2 := blk_frozen BK101.out 2; have hfz62_3 := blk_frozen BK101.out 3; have hfz62_4 := blk_frozen BK101.out 4; have hfz62_5 := blk_frozen BK101.out 5; have hfz62_6 := blk_frozen BK101.out 6; have hfz62_7 := blk_frozen BK101.out 7; have hfz62_8 := blk_frozen BK101.out 8; have hfz62_9 := blk_frozen BK101.out 9; have hfz62_10 := blk_frozen BK101.out 10))
              go_ret
              exact ⟨by first | rfl | (simp [errW_none, errW_some] <;> rfl) | (simp [*, errW_none, errW_some] <;> rfl), by repeat (first | (with_reducible first | exact HB.out | apply below_alloc | apply pw_below_drewN | apply below_drew1 | refine below_set ?_ GE101.out | refine below_set ?_ GE105.out) | exact HB.out)⟩
          · rw [if_neg c20] at H
            have c20b0 : (a0_4.toList == ([] : List UInt8)) = false := beq_eq_false_iff_ne.mpr c20
            have c20b1 : (a0_4.toList != ([] : List UInt8)) = true := bne_iff_ne.mpr c20
            obtain rfl := Option.some.inj H
            have hcz63_0 : wc.cell? ⟨gb101, 0, none⟩ = some (.int .i64 a0_0) := (blk_cell BK101.out 0).trans rfl
            have hcz63_1 : wc.cell? ⟨gb101, 1, none⟩ = some (.int .i64 a0_1) := (blk_cell BK101.out 1).trans rfl
            have hcz63_2 : wc.cell? ⟨gb101, 2, none⟩ = some (.int .i64 a0_2) := (blk_cell BK101.out 2).trans rfl
            have hcz63_3 : wc.cell? ⟨gb101, 3, none⟩ = some (.int .i64 a0_3) := (blk_cell BK101.out 3).trans rfl
            have hcz63_4 : wc.cell? ⟨gb101, 4, none⟩ = some (.string a0_4) := (blk_cell BK101.out 4).trans rfl
            have hcz63_5 : wc.cell? ⟨gb101, 5, none⟩ = some (.int .i64 a0_5) := (blk_cell BK101.out 5).trans rfl
            have hcz63_6 : wc.cell? ⟨gb101, 6, none⟩ = some (.string a0_6) := (blk_cell BK101.out 6).trans rfl
            have hcz63_7 : wc.cell? ⟨gb101, 7, none⟩ = some (.string a0_7) := (blk_cell BK101.out 7).trans rfl
            have hcz63_8 : wc.cell? ⟨gb101, 8, none⟩ = some (.string a0_8) := (blk_cell BK101.out 8).trans rfl
            have hcz63_9 : wc.cell? ⟨gb101, 9, none⟩ = some (.string a0_9) := (blk_cell BK101.out 9).trans rfl
            have hcz63_10 : wc.cell? ⟨gb101, 10, none⟩ = some (.int .i64 a0_10) := (blk_cell BK101.out 10).trans rfl
            have hfz63_0 := blk_frozen BK101.out 0
            have hfz63_1 := blk_frozen BK101.out 1
            have hfz63_2 := blk_frozen BK101.out 2
            have hfz63_3 := blk_frozen BK101.out 3
            have hfz63_4 := blk_frozen BK101.out 4
            have hfz63_5 := blk_frozen BK101.out 5
            have hfz63_6 := blk_frozen BK101.out 6
            have hfz63_7 := blk_frozen BK101.out 7
            have hfz63_8 := blk_frozen BK101.out 8
            have hfz63_9 := blk_frozen BK101.out 9
            have hfz63_10 := blk_frozen BK101.out 10
            go_wp2_with (first | ((with_reducible refine gate_dst (N := 3) rfl ?_); (try (refine gate_guard (by rfl) ?_; dsimp only)); refine box_event ?hg (N := 3) ?hd (cs := #[.int .i64 0, .string (⟨#[]⟩ : ByteArray), .string (⟨#[]⟩ : ByteArray), .string (⟨#[]⟩ : ByteArray), .string (⟨#[]⟩ : ByteArray), .int .i64 0]) (t := 23) ?hr ?_; (case hd => rfl); (case hg => rfl); (case hr => first | (go_simp; done) | (go_simp; rfl)); intro gb105 hg w64 hbox hb; have n0_ := Aside0.mk (blk_below (g := gb101) (o := .cells #[.int .i64 a0_0, .int .i64 a0_1, .int .i64 a0_2, .int .i64 a0_3, .string a0_4, .int .i64 a0_5, .string a0_6, .string a0_7, .string a0_8, .string a0_9, .int .i64 a0_10] 25 (0, 0)) (by (with_reducible repeat (first | refine blk_drewN ?_ _ | refine blk_drew ?_ | refine blk_alloc ?_ _)); exact BK101.out) hb); have n1_ := Aside0.mk (below_step (by repeat (first | (with_reducible first | exact HB.out | apply below_alloc | apply pw_below_drewN | apply below_drew1 | refine below_set ?_ GE101.out) | exact HB.out)) hb); have n2_ := Aside0.mk (hbox); have n3_ := Aside0.mk ((by rw [hg]; exact (below_size (by repeat (first | (with_reducible first | exact HB.out | apply below_alloc | apply pw_below_drewN | apply below_drew1 | refine below_set ?_ GE101.out) | exact HB.out))) : w.heap.size ≤ gb105)); have n4_ := Aside0.mk ((by rw [hg]; exact (below_size (by repeat (first | (with_reducible first | exact HB.out | apply below_alloc | apply pw_below_drewN | apply below_drew1 | refine below_set ?_ GE101.out) | exact HB.out))) : w.heap.size ≤ gb105)); have n5_ := Aside0.mk ((by rw [hg]; exact Nat.ne_of_lt (blk_lt (g := gb101) (o := .cells #[.int .i64 a0_0, .int .i64 a0_1, .int .i64 a0_2, .int .i64 a0_3, .string a0_4, .int .i64 a0_5, .string a0_6, .string a0_7, .string a0_8, .string a0_9, .int .i64 a0_10] 25 (0, 0)) (by (with_reducible repeat (first | refine blk_drewN ?_ _ | refine blk_drew ?_ | refine blk_alloc ?_ _)); exact BK101.out)) : gb101 ≠ gb105)); have n6_ := Aside0.mk ((by rw [hg]; exact Nat.ne_of_gt (blk_lt (g := gb101) (o := .cells #[.int .i64 a0_0, .int .i64 a0_1, .int .i64 a0_2, .int .i64 a0_3, .string a0_4, .int .i64 a0_5, .string a0_6, .string a0_7, .string a0_8, .string a0_9, .int .i64 a0_10] 25 (0, 0)) (by (with_reducible repeat (first | refine blk_drewN ?_ _ | refine blk_drew ?_ | refine blk_alloc ?_ _)); exact BK101.out)) : gb105 ≠ gb101)); clear BK101; clear HB; have BK101 := n0_; have HB := n1_; have BK105 := n2_; have GW105 := n3_; have GE105 := n4_; have NB101_105 := n5_; have NB105_101 := n6_; clear n0_ n1_ n2_ n3_ n4_ n5_ n6_; clear hb hbox hg; have hnb65 := NB105_101.out; have hnc65 := NB101_105.out; have hcz66_0 : w64.cell? ⟨gb105, 0, none⟩ = some (.int .i64 0) := (blk_cell BK105.out 0).trans rfl; have hcz66_1 : w64.cell? ⟨gb105, 1, none⟩ = some (.string (⟨#[]⟩ : ByteArray)) := (blk_cell BK105.out 1).trans rfl; have hcz66_2 : w64.cell? ⟨gb105, 2, none⟩ = some (.string (⟨#[]⟩ : ByteArray)) := (blk_cell BK105.out 2).trans rfl; have hcz66_3 : w64.cell? ⟨gb105, 3, none⟩ = some (.string (⟨#[]⟩ : ByteArray)) := (blk_cell BK105.out 3).trans rfl; have hcz66_4 : w64.cell? ⟨gb105, 4, none⟩ = some (.string (⟨#[]⟩ : ByteArray)) := (blk_cell BK105.out 4).trans rfl; have hcz66_5 : w64.cell? ⟨gb105, 5, none⟩ = some (.int .i64 0) := (blk_cell BK105.out 5).trans rfl; have hfz66_0 := blk_frozen BK105.out 0; have hfz66_1 := blk_frozen BK105.out 1; have hfz66_2 := blk_frozen BK105.out 2; have hfz66_3 := blk_frozen BK105.out 3; have hfz66_4 := blk_frozen BK105.out 4; have hfz66_5 := blk_frozen BK105.out 5; have hcz67_0 : w64.cell? ⟨gb101, 0, none⟩ = some (.int .i64 a0_0) := (blk_cell BK101.out 0).trans rfl; have hcz67_1 : w64.cell? ⟨gb101, 1, none⟩ = some (.int .i64 a0_1) := (blk_cell BK101.out 1).trans rfl; have hcz67_2 : w64.cell? ⟨gb101, 2, none⟩ = some (.int .i64 a0_2) := (blk_cell BK101.out 2).trans rfl; have hcz67_3 : w64.cell? ⟨gb101, 3, none⟩ = some (.int .i64 a0_3) := (blk_cell BK101.out 3).trans rfl; have hcz67_4 : w64.cell? ⟨gb101, 4, none⟩ = some (.string a0_4) := (blk_cell BK101.out 4).trans rfl; have hcz67_5 : w64.cell? ⟨gb101, 5, none⟩ = some (.int .i64 a0_5) := (blk_cell BK101.out 5).trans rfl; have hcz67_6 : w64.cell? ⟨gb101, 6, none⟩ = some (.string a0_6) := (blk_cell BK101.out 6).trans rfl; have hcz67_7 : w64.cell? ⟨gb101, 7, none⟩ = some (.string a0_7) := (blk_cell BK101.out 7).trans rfl; have hcz67_8 : w64.cell? ⟨gb101, 8, none⟩ = some (.string a0_8) := (blk_cell BK101.out 8).trans rfl; have hcz67_9 : w64.cell? ⟨gb101, 9, none⟩ = some (.string a0_9) := (blk_cell BK101.out 9).trans rfl; have hcz67_10 : w64.cell? ⟨gb101, 10, none⟩ = some (.int .i64 a0_10) := (blk_cell BK101.out 10).trans rfl; have hfz67_0 := blk_frozen BK101.out 0; have hfz67_1 := blk_frozen BK101.out 1; have hfz67_2 := blk_frozen BK101.out 2; have hfz67_3 := blk_frozen BK101.out 3; have hfz67_4 := blk_frozen BK101.out 4; have hfz67_5 := blk_frozen BK101.out 5; have hfz67_6 := blk_frozen BK101.out 6; have hfz67_7 := blk_frozen BK101.out 7; have hfz67_8 := blk_frozen BK101.out 8; have hfz67_9 := blk_frozen BK101.out 9; have hfz67_10 := blk_frozen BK101.out 10))
            go_ret
            exact ⟨by first | rfl | (simp [errW_none, errW_some] <;> rfl) | (simp [*, errW_none, errW_some] <;> rfl), by repeat (first | (with_reducible first | exact HB.out | apply below_alloc | apply pw_below_drewN | apply below_drew1 | refine below_set ?_ GE101.out | refine below_set ?_ GE105.out) | exact HB.out)⟩
        · rw [if_neg c19] at H
          have c19b0 : (a0_0 == 5) = false := beq_eq_false_iff_ne.mpr c19
          have c19b1 : (a0_0 != 5) = true := bne_iff_ne.mpr c19
          by_cases c68 : (a0_5 == 0 && (a0_6.toList.isEmpty && (a0_7.toList.isEmpty && (a0_8.toList.isEmpty && (a0_9.toList.isEmpty && (a0_10 == 0)))))) = true
          · rw [if_pos c68] at H
            have c68b0 : (a0_5 == 0 && (a0_6.toList.isEmpty && (a0_7.toList.isEmpty && (a0_8.toList.isEmpty && (a0_9.toList.isEmpty && (a0_10 == 0)))))) = true := c68
            (try (have c68b1 : decide (a0_5 = 0 && (a0_6.toList.isEmpty && (a0_7.toList.isEmpty && (a0_8.toList.isEmpty && (a0_9.toList.isEmpty && (a0_10 == 0)))))) = true := by simpa using c68))
            (try (have c68b2 : (a0_5 == 0 && (a0_6.toList.isEmpty && (a0_7.toList.isEmpty && (a0_8.toList.isEmpty && (a0_9.toList.isEmpty && (a0_10 == 0)))))) = true := by simpa using c68))
            clear c68
            by_cases c69 : a0_4.toList = ([] : List UInt8)
            · rw [if_pos c69] at H
              have c69b0 : (a0_4.toList == ([] : List UInt8)) = true := beq_iff_eq.mpr c69
              have c69b1 : (a0_4.toList != ([] : List UInt8)) = false := bne_eq_false_iff_eq.mpr c69
              clear c69
              obtain rfl := Option.some.inj H
              have hcz70_0 : wc.cell? ⟨gb101, 0, none⟩ = some (.int .i64 a0_0) := (blk_cell BK101.out 0).trans rfl
              have hcz70_1 : wc.cell? ⟨gb101, 1, none⟩ = some (.int .i64 a0_1) := (blk_cell BK101.out 1).trans rfl
              have hcz70_2 : wc.cell? ⟨gb101, 2, none⟩ = some (.int .i64 a0_2) := (blk_cell BK101.out 2).trans rfl
              have hcz70_3 : wc.cell? ⟨gb101, 3, none⟩ = some (.int .i64 a0_3) := (blk_cell BK101.out 3).trans rfl
              have hcz70_4 : wc.cell? ⟨gb101, 4, none⟩ = some (.string a0_4) := (blk_cell BK101.out 4).trans rfl
              have hcz70_5 : wc.cell? ⟨gb101, 5, none⟩ = some (.int .i64 a0_5) := (blk_cell BK101.out 5).trans rfl
              have hcz70_6 : wc.cell? ⟨gb101, 6, none⟩ = some (.string a0_6) := (blk_cell BK101.out 6).trans rfl
              have hcz70_7 : wc.cell? ⟨gb101, 7, none⟩ = some (.string a0_7) := (blk_cell BK101.out 7).trans rfl
              have hcz70_8 : wc.cell? ⟨gb101, 8, none⟩ = some (.string a0_8) := (blk_cell BK101.out 8).trans rfl
              have hcz70_9 : wc.cell? ⟨gb101, 9, none⟩ = some (.string a0_9) := (blk_cell BK101.out 9).trans rfl
              have hcz70_10 : wc.cell? ⟨gb101, 10, none⟩ = some (.int .i64 a0_10) := (blk_cell BK101.out 10).trans rfl
              have hfz70_0 := blk_frozen BK101.out 0
              have hfz70_1 := blk_frozen BK101.out 1
              have hfz70_2 := blk_frozen BK101.out 2
              have hfz70_3 := blk_frozen BK101.out 3
              have hfz70_4 := blk_frozen BK101.out 4
              have hfz70_5 := blk_frozen BK101.out 5
              have hfz70_6 := blk_frozen BK101.out 6
              have hfz70_7 := blk_frozen BK101.out 7
              have hfz70_8 := blk_frozen BK101.out 8
              have hfz70_9 := blk_frozen BK101.out 9
              have hfz70_10 := blk_frozen BK101.out 10
              go_wp2
              go_ret
              exact ⟨by first | rfl | (simp [errW_none, errW_some] <;> rfl) | (simp [*, errW_none, errW_some] <;> rfl), by repeat (first | (with_reducible first | exact HB.out | apply below_alloc | apply pw_below_drewN | apply below_drew1 | refine below_set ?_ GE101.out) | exact HB.out)⟩
            · rw [if_neg c69] at H
              have c69b0 : (a0_4.toList == ([] : List UInt8)) = false := beq_eq_false_iff_ne.mpr c69
              have c69b1 : (a0_4.toList != ([] : List UInt8)) = true := bne_iff_ne.mpr c69
              by_cases c71 : a0_0 = 4
              · rw [if_pos c71] at H
                have c71b0 : (a0_0 == 4) = true := beq_iff_eq.mpr c71
                have c71b1 : (a0_0 != 4) = false := bne_eq_false_iff_eq.mpr c71
                clear c71
                obtain rfl := Option.some.inj H
                have hcz72_0 : wc.cell? ⟨gb101, 0, none⟩ = some (.int .i64 a0_0) := (blk_cell BK101.out 0).trans rfl
                have hcz72_1 : wc.cell? ⟨gb101, 1, none⟩ = some (.int .i64 a0_1) := (blk_cell BK101.out 1).trans rfl
                have hcz72_2 : wc.cell? ⟨gb101, 2, none⟩ = some (.int .i64 a0_2) := (blk_cell BK101.out 2).trans rfl
                have hcz72_3 : wc.cell? ⟨gb101, 3, none⟩ = some (.int .i64 a0_3) := (blk_cell BK101.out 3).trans rfl
                have hcz72_4 : wc.cell? ⟨gb101, 4, none⟩ = some (.string a0_4) := (blk_cell BK101.out 4).trans rfl
                have hcz72_5 : wc.cell? ⟨gb101, 5, none⟩ = some (.int .i64 a0_5) := (blk_cell BK101.out 5).trans rfl
                have hcz72_6 : wc.cell? ⟨gb101, 6, none⟩ = some (.string a0_6) := (blk_cell BK101.out 6).trans rfl
                have hcz72_7 : wc.cell? ⟨gb101, 7, none⟩ = some (.string a0_7) := (blk_cell BK101.out 7).trans rfl
                have hcz72_8 : wc.cell? ⟨gb101, 8, none⟩ = some (.string a0_8) := (blk_cell BK101.out 8).trans rfl
                have hcz72_9 : wc.cell? ⟨gb101, 9, none⟩ = some (.string a0_9) := (blk_cell BK101.out 9).trans rfl
                have hcz72_10 : wc.cell? ⟨gb101, 10, none⟩ = some (.int .i64 a0_10) := (blk_cell BK101.out 10).trans rfl
                have hfz72_0 := blk_frozen BK101.out 0
                have hfz72_1 := blk_frozen BK101.out 1
                have hfz72_2 := blk_frozen BK101.out 2
                have hfz72_3 := blk_frozen BK101.out 3
                have hfz72_4 := blk_frozen BK101.out 4
                have hfz72_5 := blk_frozen BK101.out 5
                have hfz72_6 := blk_frozen BK101.out 6
                have hfz72_7 := blk_frozen BK101.out 7
                have hfz72_8 := blk_frozen BK101.out 8
                have hfz72_9 := blk_frozen BK101.out 9
                have hfz72_10 := blk_frozen BK101.out 10
                go_wp2
                go_ret
                exact ⟨by first | rfl | (simp [errW_none, errW_some] <;> rfl) | (simp [*, errW_none, errW_some] <;> rfl), by repeat (first | (with_reducible first | exact HB.out | apply below_alloc | apply pw_below_drewN | apply below_drew1 | refine below_set ?_ GE101.out) | exact HB.out)⟩
              · rw [if_neg c71] at H
                have c71b0 : (a0_0 == 4) = false := beq_eq_false_iff_ne.mpr c71
                have c71b1 : (a0_0 != 4) = true := bne_iff_ne.mpr c71
                obtain rfl := Option.some.inj H
                have hcz73_0 : wc.cell? ⟨gb101, 0, none⟩ = some (.int .i64 a0_0) := (blk_cell BK101.out 0).trans rfl
                have hcz73_1 : wc.cell? ⟨gb101, 1, none⟩ = some (.int .i64 a0_1) := (blk_cell BK101.out 1).trans rfl
                have hcz73_2 : wc.cell? ⟨gb101, 2, none⟩ = some (.int .i64 a0_2) := (blk_cell BK101.out 2).trans rfl
                have hcz73_3 : wc.cell? ⟨gb101, 3, none⟩ = some (.int .i64 a0_3) := (blk_cell BK101.out 3).trans rfl
                have hcz73_4 : wc.cell? ⟨gb101, 4, none⟩ = some (.string a0_4) := (blk_cell BK101.out 4).trans rfl
                have hcz73_5 : wc.cell? ⟨gb101, 5, none⟩ = some (.int .i64 a0_5) := (blk_cell BK101.out 5).trans rfl
                have hcz73_6 : wc.cell? ⟨gb101, 6, none⟩ = some (.string a0_6) := (blk_cell BK101.out 6).trans rfl
                have hcz73_7 : wc.cell? ⟨gb101, 7, none⟩ = some (.string a0_7) := (blk_cell BK101.out 7).trans rfl
                have hcz73_8 : wc.cell? ⟨gb101, 8, none⟩ = some (.string a0_8) := (blk_cell BK101.out 8).trans rfl
                have hcz73_9 : wc.cell? ⟨gb101, 9, none⟩ = some (.string a0_9) := (blk_cell BK101.out 9).trans rfl
                have hcz73_10 : wc.cell? ⟨gb101, 10, none⟩ = some (.int .i64 a0_10) := (blk_cell BK101.out 10).trans rfl
                have hfz73_0 := blk_frozen BK101.out 0
                have hfz73_1 := blk_frozen BK101.out 1
                have hfz73_2 := blk_frozen BK101.out 2
                have hfz73_3 := blk_frozen BK101.out 3
                have hfz73_4 := blk_frozen BK101.out 4
                have hfz73_5 := blk_frozen BK101.out 5
                have hfz73_6 := blk_frozen BK101.out 6
                have hfz73_7 := blk_frozen BK101.out 7
                have hfz73_8 := blk_frozen BK101.out 8
                have hfz73_9 := blk_frozen BK101.out 9
                have hfz73_10 := blk_frozen BK101.out 10
                go_wp2
                go_ret
                exact ⟨by first | rfl | (simp [errW_none, errW_some] <;> rfl) | (simp [*, errW_none, errW_some] <;> rfl), by repeat (first | (with_reducible first | exact HB.out | apply below_alloc | apply pw_below_drewN | apply below_drew1 | refine below_set ?_ GE101.out) | exact HB.out)⟩
          · rw [if_neg c68] at H
            have c68b0 : (a0_5 == 0 && (a0_6.toList.isEmpty && (a0_7.toList.isEmpty && (a0_8.toList.isEmpty && (a0_9.toList.isEmpty && (a0_10 == 0)))))) = false := by simpa using c68
            (try (have c68b1 : decide (a0_5 = 0 && (a0_6.toList.isEmpty && (a0_7.toList.isEmpty && (a0_8.toList.isEmpty && (a0_9.toList.isEmpty && (a0_10 == 0)))))) = false := by simpa using c68))
            (try (have c68b2 : (a0_5 == 0 && (a0_6.toList.isEmpty && (a0_7.toList.isEmpty && (a0_8.toList.isEmpty && (a0_9.toList.isEmpty && (a0_10 == 0)))))) = false := by simpa using c68))
            (try (have c68b3 : ¬ (a0_5 = 0 && (a0_6.toList.isEmpty && (a0_7.toList.isEmpty && (a0_8.toList.isEmpty && (a0_9.toList.isEmpty && (a0_10 == 0)))))) := by simpa using c68))
            clear c68
            obtain rfl := Option.some.inj H
            have hcz74_0 : wc.cell? ⟨gb101, 0, none⟩ = some (.int .i64 a0_0) := (blk_cell BK101.out 0).trans rfl
            have hcz74_1 : wc.cell? ⟨gb101, 1, none⟩ = some (.int .i64 a0_1) := (blk_cell BK101.out 1).trans rfl
            have hcz74_2 : wc.cell? ⟨gb101, 2, none⟩ = some (.int .i64 a0_2) := (blk_cell BK101.out 2).trans rfl
            have hcz74_3 : wc.cell? ⟨gb101, 3, none⟩ = some (.int .i64 a0_3) := (blk_cell BK101.out 3).trans rfl
            have hcz74_4 : wc.cell? ⟨gb101, 4, none⟩ = some (.string a0_4) := (blk_cell BK101.out 4).trans rfl
            have hcz74_5 : wc.cell? ⟨gb101, 5, none⟩ = some (.int .i64 a0_5) := (blk_cell BK101.out 5).trans rfl
            have hcz74_6 : wc.cell? ⟨gb101, 6, none⟩ = some (.string a0_6) := (blk_cell BK101.out 6).trans rfl
            have hcz74_7 : wc.cell? ⟨gb101, 7, none⟩ = some (.string a0_7) := (blk_cell BK101.out 7).trans rfl
            have hcz74_8 : wc.cell? ⟨gb101, 8, none⟩ = some (.string a0_8) := (blk_cell BK101.out 8).trans rfl
            have hcz74_9 : wc.cell? ⟨gb101, 9, none⟩ = some (.string a0_9) := (blk_cell BK101.out 9).trans rfl
            have hcz74_10 : wc.cell? ⟨gb101, 10, none⟩ = some (.int .i64 a0_10) := (blk_cell BK101.out 10).trans rfl
            have hfz74_0 := blk_frozen BK101.out 0
            have hfz74_1 := blk_frozen BK101.out 1
            have hfz74_2 := blk_frozen BK101.out 2
            have hfz74_3 := blk_frozen BK101.out 3
            have hfz74_4 := blk_frozen BK101.out 4
            have hfz74_5 := blk_frozen BK101.out 5
            have hfz74_6 := blk_frozen BK101.out 6
            have hfz74_7 := blk_frozen BK101.out 7
            have hfz74_8 := blk_frozen BK101.out 8
            have hfz74_9 := blk_frozen BK101.out 9
            have hfz74_10 := blk_frozen BK101.out 10
            go_wp2
            go_ret
            exact ⟨by first | rfl | (simp [errW_none, errW_some] <;> rfl) | (simp [*, errW_none, errW_some] <;> rfl), by repeat (first | (with_reducible first | exact HB.out | apply below_alloc | apply pw_below_drewN | apply below_drew1 | refine below_set ?_ GE101.out) | exact HB.out)⟩

-- NOT PRINTED: function 65 (abi_NoEscape)

-- NOT PRINTED: function 55 (strings_Builder_copyCheck)

-- NOT PRINTED: function 38 (strings_Builder_WriteString)

-- NOT PRINTED: function 40 (strings_Builder_String)

end Go.Proofs.YtlpcidjmaeicoaaDoor.QWi

/-! TakeReq -/
/- The walk of wire.TakeReq (written by wip/mktake.py). -/
namespace Go.Proofs.YtlpcidjmaeicoaaDoor.Reader
open Go Go.RowKit Go.Proofs.YtlpcidjmaeicoaaDoor.DecM Go.Proofs.YtlpcidjmaeicoaaDoor.Giv Go.Proofs.YtlpcidjmaeicoaaDoor.Err Go.Proofs.YtlpcidjmaeicoaaDoorW.PrintWords Go.Proofs.YtlpcidjmaeicoaaDoorW.PrintLast

set_option maxHeartbeats 2000000 in
set_option maxRecDepth 10000 in
theorem take_bad (s : ByteArray) (w : World) (hg : Handle w) (hs : s.size ≤ 2048) (v1 : Int × ByteArray × Bool) (v2 : Int × ByteArray × Bool) (v3 : Int × ByteArray × Bool) (v4 : Int × ByteArray × Bool) (v5 : ByteArray × ByteArray × Bool) (h1 : numR s false 6 = v1) (h2 : numR v1.2.1 v1.2.2 1073741824 = v2) (h3 : numR v2.2.1 v2.2.2 1073741824 = v3) (h4 : numR v3.2.1 v3.2.2 1073741824 = v4) (h5 : textR v4.2.1 v4.2.2 16 = v5) (hk : ¬ v1.1 = 5) (hb : (v5.2.2 = true ∨ ¬ v5.2.1.size = 0)) :
    Calls Tryd.prog 11 #[.string s] w fun e w' => e = .returned (.tuple #[.agg zeroReq, .int .i64 3]) ∧ Below w.heap.size w w' := by
  have c1 : decide (2048 < (s.size : Int)) = false := decide_eq_false (by omega)
  have z1 : v1.2.1.size ≤ 2048 := by have h := numR_size s false 6; rw [h1] at h; omega
  have z2 : v2.2.1.size ≤ 2048 := by have h := numR_size v1.2.1 v1.2.2 1073741824; rw [h2] at h; omega
  have z3 : v3.2.1.size ≤ 2048 := by have h := numR_size v2.2.1 v2.2.2 1073741824; rw [h3] at h; omega
  have z4 : v4.2.1.size ≤ 2048 := by have h := numR_size v3.2.1 v3.2.2 1073741824; rw [h4] at h; omega
  have z5 : v5.2.1.size ≤ 2048 := by have h := textR_size v4.2.1 v4.2.2 16; rw [h5] at h; omega
  have h00 : 0 < w.heap.size := Nat.lt_of_le_of_lt (Nat.zero_le _) (cell_lt hg)
  have S0 : St w (w.heap.size + 1) w.heap.size [] ((w.alloc (.cells zeroReq 25)).alloc (.cells #[.string s, .int .i64 0, .nilIface] 60)) s 0 false zeroReq.toList := start_st w s zeroReq 25 (by decide) hg
  have Z1 := Lib.hid z1
  have H1 := Lib.hid h1
  have Z2 := Lib.hid z2
  have H2 := Lib.hid h2
  have Z3 := Lib.hid z3
  have H3 := Lib.hid h3
  have Z4 := Lib.hid z4
  have H4 := Lib.hid h4
  have Z5 := Lib.hid z5
  have H5 := Lib.hid h5
  have HS0 := Lib.hid S0
  have HSS := Lib.hid hs
  have HK := Lib.hid hk
  have HBB := Lib.hid hb
  clear S0 hg h00 hs hk hb z1 h1 z2 h2 z3 h3 z4 h4 z5 h5
  have ck : (v1.1 == 5) = false := beq_eq_false_iff_ne.mpr HK.out
  go_enter Tryd.func11, Tryd.ntmps11
  go_wp2_with (go_at_call 25; refine (num_calls (w.heap.size + 1) _ _ 0 _ 6 _ HS0.out.rd (by omega) (by have := HSS.out; omega) (by omega)).mono ?_)
  rintro e w1 ⟨rfl, R1, O1⟩
  have S1 := HS0.out.call R1 O1
  rw [H1.out] at S1 ⊢
  clear R1 O1
  have hQ : w.heap.size ≤ w1.heap.size := S1.bel.size
  have S1q := (S1.push #[.int .i64 v1.1, .int .i64 0, .int .i64 0, .int .i64 0, .string ⟨#[]⟩, .int .i64 0, .string ⟨#[]⟩, .string ⟨#[]⟩, .string ⟨#[]⟩, .string ⟨#[]⟩, .int .i64 0] 25 (by simp)).swap hQ
  have S1p := S1q.push #[.pointer (some ⟨w1.heap.size, 1, none⟩), .pointer (some ⟨w1.heap.size, 2, none⟩), .pointer (some ⟨w1.heap.size, 3, none⟩)] 63 (by simp)
  have hP : (w1.alloc (.cells #[.int .i64 v1.1, .int .i64 0, .int .i64 0, .int .i64 0, .string ⟨#[]⟩, .int .i64 0, .string ⟨#[]⟩, .string ⟨#[]⟩, .string ⟨#[]⟩, .string ⟨#[]⟩, .int .i64 0] 25)).heap.size = w1.heap.size + 1 := by simp
  rw [hP] at S1p
  have HS1b := Lib.hid S1p
  clear hQ S1 S1q S1p hP
  go_wp2
  refine wp_loop_rounds 4 ?_
  rw [rounds_succ]
  go_wp2_with (go_at_call 25; refine (num_calls (w.heap.size + 1) _ _ 1 _ 1073741824 _ HS1b.out.rd (by omega) (by have := Z1.out; omega) (by omega)).mono ?_)
  rintro e w2 ⟨rfl, R2, O2⟩
  have S2 := HS1b.out.call R2 O2
  rw [H2.out] at S2 ⊢
  clear R2 O2
  have q2 := S2.qc.c 1 (by simp)
  have g2 := S2.qc.f 1
  simp only [List.getElem_cons_zero, List.getElem_cons_succ] at q2
  have S2b := S2.store 1 (by simp) (.int .i64 v2.1)
  simp only [List.set_cons_zero, List.set_cons_succ] at S2b
  have HS2b := Lib.hid S2b
  have p2 := (S2b.kc _ (List.mem_cons_self ..)).1.c 1 (by simp)
  simp only [List.getElem_cons_zero, List.getElem_cons_succ] at p2
  clear S2 S2b
  go_wp2
  rw [rounds_succ]
  go_wp2_with (go_at_call 25; refine (num_calls (w.heap.size + 1) _ _ 2 _ 1073741824 _ HS2b.out.rd (by omega) (by have := Z2.out; omega) (by omega)).mono ?_)
  rintro e w3 ⟨rfl, R3, O3⟩
  have S3 := HS2b.out.call R3 O3
  rw [H3.out] at S3 ⊢
  clear R3 O3
  have q3 := S3.qc.c 2 (by simp)
  have g3 := S3.qc.f 2
  simp only [List.getElem_cons_zero, List.getElem_cons_succ] at q3
  have S3b := S3.store 2 (by simp) (.int .i64 v3.1)
  simp only [List.set_cons_zero, List.set_cons_succ] at S3b
  have HS3b := Lib.hid S3b
  have p3 := (S3b.kc _ (List.mem_cons_self ..)).1.c 2 (by simp)
  simp only [List.getElem_cons_zero, List.getElem_cons_succ] at p3
  clear S3 S3b
  go_wp2
  rw [rounds_succ]
  go_wp2_with (go_at_call 25; refine (num_calls (w.heap.size + 1) _ _ 3 _ 1073741824 _ HS3b.out.rd (by omega) (by have := Z3.out; omega) (by omega)).mono ?_)
  rintro e w4 ⟨rfl, R4, O4⟩
  have S4 := HS3b.out.call R4 O4
  rw [H4.out] at S4 ⊢
  clear R4 O4
  have q4 := S4.qc.c 3 (by simp)
  have g4 := S4.qc.f 3
  simp only [List.getElem_cons_zero, List.getElem_cons_succ] at q4
  have S4b := S4.store 3 (by simp) (.int .i64 v4.1)
  simp only [List.set_cons_zero, List.set_cons_succ] at S4b
  have HS4b := Lib.hid S4b
  clear S4 S4b
  go_wp2
  rw [rounds_succ]
  go_wp2_with (go_at_call 26; refine (text_calls (w.heap.size + 1) _ _ 4 _ 16 _ HS4b.out.rd (by omega) (by have := Z4.out; omega) (by omega)).mono ?_)
  rintro e w5 ⟨rfl, R5, O5⟩
  have S5 := HS4b.out.call R5 O5
  rw [H5.out] at S5 ⊢
  clear R5 O5
  have q5 := S5.qc.c 4 (by simp)
  have g5 := S5.qc.f 4
  simp only [List.getElem_cons_zero, List.getElem_cons_succ] at q5
  have S5b := S5.store 4 (by simp) (.string v5.1)
  simp only [List.set_cons_zero, List.set_cons_succ] at S5b
  have HS5b := Lib.hid S5b
  have k0 := S5b.qc.c 0 (by simp)
  simp only [List.getElem_cons_zero] at k0
  clear S5 S5b
  have e0 := Lib.hid (end_calls (w.heap.size + 1) _ _ 5 _ _ HS5b.out.hg (by omega) HS5b.out.rd (by omega))
  rw [if_pos HBB.out] at e0
  go_wp2_with (go_at_call 27; refine e0.out.mono ?_)
  rintro e w90 ⟨rfl, O90⟩
  have B90 := Lib.hid (HS5b.out.bel.trans (O90.below HS5b.out.r0 HS5b.out.bel.size))
  have K90 := (HS5b.out.kc (w.heap.size, zeroReq.toList) (by simp)).1.only (by simp [zeroReq]) O90 (HS5b.out.kc (w.heap.size, zeroReq.toList) (by simp)).2.2.1
  have y0 : w90.cell? ⟨w.heap.size, 0, none⟩ = some (.int .i64 0) := K90.c 0 (by simp [zeroReq])
  have y1 : w90.cell? ⟨w.heap.size, 1, none⟩ = some (.int .i64 0) := K90.c 1 (by simp [zeroReq])
  have y2 : w90.cell? ⟨w.heap.size, 2, none⟩ = some (.int .i64 0) := K90.c 2 (by simp [zeroReq])
  have y3 : w90.cell? ⟨w.heap.size, 3, none⟩ = some (.int .i64 0) := K90.c 3 (by simp [zeroReq])
  have y4 : w90.cell? ⟨w.heap.size, 4, none⟩ = some (.string ⟨#[]⟩) := K90.c 4 (by simp [zeroReq])
  have y5 : w90.cell? ⟨w.heap.size, 5, none⟩ = some (.int .i64 0) := K90.c 5 (by simp [zeroReq])
  have y6 : w90.cell? ⟨w.heap.size, 6, none⟩ = some (.string ⟨#[]⟩) := K90.c 6 (by simp [zeroReq])
  have y7 : w90.cell? ⟨w.heap.size, 7, none⟩ = some (.string ⟨#[]⟩) := K90.c 7 (by simp [zeroReq])
  have y8 : w90.cell? ⟨w.heap.size, 8, none⟩ = some (.string ⟨#[]⟩) := K90.c 8 (by simp [zeroReq])
  have y9 : w90.cell? ⟨w.heap.size, 9, none⟩ = some (.string ⟨#[]⟩) := K90.c 9 (by simp [zeroReq])
  have y10 : w90.cell? ⟨w.heap.size, 10, none⟩ = some (.int .i64 0) := K90.c 10 (by simp [zeroReq])
  have f0 := K90.f 0
  have f1 := K90.f 1
  have f2 := K90.f 2
  have f3 := K90.f 3
  have f4 := K90.f 4
  have f5 := K90.f 5
  have f6 := K90.f 6
  have f7 := K90.f 7
  have f8 := K90.f 8
  have f9 := K90.f 9
  have f10 := K90.f 10
  have HK90 := Lib.hid K90
  clear K90 O90
  go_wp2
  have KF := (((((((((((HK90.out).set 0 (by simp [zeroReq]) (.int .i64 0)).set 1 (by simp [zeroReq]) (.int .i64 0)).set 2 (by simp [zeroReq]) (.int .i64 0)).set 3 (by simp [zeroReq]) (.int .i64 0)).set 4 (by simp [zeroReq]) (.string ⟨#[]⟩)).set 5 (by simp [zeroReq]) (.int .i64 0)).set 6 (by simp [zeroReq]) (.string ⟨#[]⟩)).set 7 (by simp [zeroReq]) (.string ⟨#[]⟩)).set 8 (by simp [zeroReq]) (.string ⟨#[]⟩)).set 9 (by simp [zeroReq]) (.string ⟨#[]⟩)).set 10 (by simp [zeroReq]) (.int .i64 0)
  try simp only [Exit.inBlock, Exit.then]
  have HL := load_req _ _ _ KF (.int .i64 0) (.int .i64 0) (.int .i64 0) (.int .i64 0) (.string ⟨#[]⟩) (.int .i64 0) (.string ⟨#[]⟩) (.string ⟨#[]⟩) (.string ⟨#[]⟩) (.string ⟨#[]⟩) (.int .i64 0) rfl
  refine bodyPost_ret (results_cell_tmp Tryd.results11 _ _ _ ⟨w.heap.size, 0, none⟩ _ rfl HL) rfl ?_
  refine ⟨rfl, ?_⟩
  exact (((((((((((B90.out).setCell (p := ⟨w.heap.size, _, none⟩) (Nat.le_refl _) _).setCell (p := ⟨w.heap.size, _, none⟩) (Nat.le_refl _) _).setCell (p := ⟨w.heap.size, _, none⟩) (Nat.le_refl _) _).setCell (p := ⟨w.heap.size, _, none⟩) (Nat.le_refl _) _).setCell (p := ⟨w.heap.size, _, none⟩) (Nat.le_refl _) _).setCell (p := ⟨w.heap.size, _, none⟩) (Nat.le_refl _) _).setCell (p := ⟨w.heap.size, _, none⟩) (Nat.le_refl _) _).setCell (p := ⟨w.heap.size, _, none⟩) (Nat.le_refl _) _).setCell (p := ⟨w.heap.size, _, none⟩) (Nat.le_refl _) _).setCell (p := ⟨w.heap.size, _, none⟩) (Nat.le_refl _) _).setCell (p := ⟨w.heap.size, _, none⟩) (Nat.le_refl _) _
set_option maxHeartbeats 2000000 in
set_option maxRecDepth 10000 in
theorem take_good (s : ByteArray) (w : World) (hg : Handle w) (hs : s.size ≤ 2048) (v1 : Int × ByteArray × Bool) (v2 : Int × ByteArray × Bool) (v3 : Int × ByteArray × Bool) (v4 : Int × ByteArray × Bool) (v5 : ByteArray × ByteArray × Bool) (h1 : numR s false 6 = v1) (h2 : numR v1.2.1 v1.2.2 1073741824 = v2) (h3 : numR v2.2.1 v2.2.2 1073741824 = v3) (h4 : numR v3.2.1 v3.2.2 1073741824 = v4) (h5 : textR v4.2.1 v4.2.2 16 = v5) (hk : ¬ v1.1 = 5) (hb : ¬ (v5.2.2 = true ∨ ¬ v5.2.1.size = 0)) (mb : Bool) (hmb : QWi.wire_MayReq.f 1 v1.1 v2.1 v3.1 v4.1 v5.1 0 ⟨#[]⟩ ⟨#[]⟩ ⟨#[]⟩ ⟨#[]⟩ 0 = some mb) :
    Calls Tryd.prog 11 #[.string s] w fun e w' => e = .returned (.tuple (if mb = true then #[.agg #[.int .i64 v1.1, .int .i64 v2.1, .int .i64 v3.1, .int .i64 v4.1, .string v5.1, .int .i64 0, .string ⟨#[]⟩, .string ⟨#[]⟩, .string ⟨#[]⟩, .string ⟨#[]⟩, .int .i64 0], .int .i64 0] else #[.agg zeroReq, .int .i64 3])) ∧ Below w.heap.size w w' := by
  have c1 : decide (2048 < (s.size : Int)) = false := decide_eq_false (by omega)
  have z1 : v1.2.1.size ≤ 2048 := by have h := numR_size s false 6; rw [h1] at h; omega
  have z2 : v2.2.1.size ≤ 2048 := by have h := numR_size v1.2.1 v1.2.2 1073741824; rw [h2] at h; omega
  have z3 : v3.2.1.size ≤ 2048 := by have h := numR_size v2.2.1 v2.2.2 1073741824; rw [h3] at h; omega
  have z4 : v4.2.1.size ≤ 2048 := by have h := numR_size v3.2.1 v3.2.2 1073741824; rw [h4] at h; omega
  have z5 : v5.2.1.size ≤ 2048 := by have h := textR_size v4.2.1 v4.2.2 16; rw [h5] at h; omega
  have h00 : 0 < w.heap.size := Nat.lt_of_le_of_lt (Nat.zero_le _) (cell_lt hg)
  have S0 : St w (w.heap.size + 1) w.heap.size [] ((w.alloc (.cells zeroReq 25)).alloc (.cells #[.string s, .int .i64 0, .nilIface] 60)) s 0 false zeroReq.toList := start_st w s zeroReq 25 (by decide) hg
  have Z1 := Lib.hid z1
  have H1 := Lib.hid h1
  have Z2 := Lib.hid z2
  have H2 := Lib.hid h2
  have Z3 := Lib.hid z3
  have H3 := Lib.hid h3
  have Z4 := Lib.hid z4
  have H4 := Lib.hid h4
  have Z5 := Lib.hid z5
  have H5 := Lib.hid h5
  have HS0 := Lib.hid S0
  have HSS := Lib.hid hs
  have HK := Lib.hid hk
  have HBB := Lib.hid hb
  have HMB := Lib.hid hmb
  clear S0 hg h00 hs hk hb z1 h1 z2 h2 z3 h3 z4 h4 z5 h5 hmb
  have ck : (v1.1 == 5) = false := beq_eq_false_iff_ne.mpr HK.out
  go_enter Tryd.func11, Tryd.ntmps11
  go_wp2_with (go_at_call 25; refine (num_calls (w.heap.size + 1) _ _ 0 _ 6 _ HS0.out.rd (by omega) (by have := HSS.out; omega) (by omega)).mono ?_)
  rintro e w1 ⟨rfl, R1, O1⟩
  have S1 := HS0.out.call R1 O1
  rw [H1.out] at S1 ⊢
  clear R1 O1
  have hQ : w.heap.size ≤ w1.heap.size := S1.bel.size
  have S1q := (S1.push #[.int .i64 v1.1, .int .i64 0, .int .i64 0, .int .i64 0, .string ⟨#[]⟩, .int .i64 0, .string ⟨#[]⟩, .string ⟨#[]⟩, .string ⟨#[]⟩, .string ⟨#[]⟩, .int .i64 0] 25 (by simp)).swap hQ
  have S1p := S1q.push #[.pointer (some ⟨w1.heap.size, 1, none⟩), .pointer (some ⟨w1.heap.size, 2, none⟩), .pointer (some ⟨w1.heap.size, 3, none⟩)] 63 (by simp)
  have hP : (w1.alloc (.cells #[.int .i64 v1.1, .int .i64 0, .int .i64 0, .int .i64 0, .string ⟨#[]⟩, .int .i64 0, .string ⟨#[]⟩, .string ⟨#[]⟩, .string ⟨#[]⟩, .string ⟨#[]⟩, .int .i64 0] 25)).heap.size = w1.heap.size + 1 := by simp
  rw [hP] at S1p
  have HS1b := Lib.hid S1p
  clear hQ S1 S1q S1p hP
  go_wp2
  refine wp_loop_rounds 4 ?_
  rw [rounds_succ]
  go_wp2_with (go_at_call 25; refine (num_calls (w.heap.size + 1) _ _ 1 _ 1073741824 _ HS1b.out.rd (by omega) (by have := Z1.out; omega) (by omega)).mono ?_)
  rintro e w2 ⟨rfl, R2, O2⟩
  have S2 := HS1b.out.call R2 O2
  rw [H2.out] at S2 ⊢
  clear R2 O2
  have q2 := S2.qc.c 1 (by simp)
  have g2 := S2.qc.f 1
  simp only [List.getElem_cons_zero, List.getElem_cons_succ] at q2
  have S2b := S2.store 1 (by simp) (.int .i64 v2.1)
  simp only [List.set_cons_zero, List.set_cons_succ] at S2b
  have HS2b := Lib.hid S2b
  have p2 := (S2b.kc _ (List.mem_cons_self ..)).1.c 1 (by simp)
  simp only [List.getElem_cons_zero, List.getElem_cons_succ] at p2
  clear S2 S2b
  go_wp2
  rw [rounds_succ]
  go_wp2_with (go_at_call 25; refine (num_calls (w.heap.size + 1) _ _ 2 _ 1073741824 _ HS2b.out.rd (by omega) (by have := Z2.out; omega) (by omega)).mono ?_)
  rintro e w3 ⟨rfl, R3, O3⟩
  have S3 := HS2b.out.call R3 O3
  rw [H3.out] at S3 ⊢
  clear R3 O3
  have q3 := S3.qc.c 2 (by simp)
  have g3 := S3.qc.f 2
  simp only [List.getElem_cons_zero, List.getElem_cons_succ] at q3
  have S3b := S3.store 2 (by simp) (.int .i64 v3.1)
  simp only [List.set_cons_zero, List.set_cons_succ] at S3b
  have HS3b := Lib.hid S3b
  have p3 := (S3b.kc _ (List.mem_cons_self ..)).1.c 2 (by simp)
  simp only [List.getElem_cons_zero, List.getElem_cons_succ] at p3
  clear S3 S3b
  go_wp2
  rw [rounds_succ]
  go_wp2_with (go_at_call 25; refine (num_calls (w.heap.size + 1) _ _ 3 _ 1073741824 _ HS3b.out.rd (by omega) (by have := Z3.out; omega) (by omega)).mono ?_)
  rintro e w4 ⟨rfl, R4, O4⟩
  have S4 := HS3b.out.call R4 O4
  rw [H4.out] at S4 ⊢
  clear R4 O4
  have q4 := S4.qc.c 3 (by simp)
  have g4 := S4.qc.f 3
  simp only [List.getElem_cons_zero, List.getElem_cons_succ] at q4
  have S4b := S4.store 3 (by simp) (.int .i64 v4.1)
  simp only [List.set_cons_zero, List.set_cons_succ] at S4b
  have HS4b := Lib.hid S4b
  clear S4 S4b
  go_wp2
  rw [rounds_succ]
  go_wp2_with (go_at_call 26; refine (text_calls (w.heap.size + 1) _ _ 4 _ 16 _ HS4b.out.rd (by omega) (by have := Z4.out; omega) (by omega)).mono ?_)
  rintro e w5 ⟨rfl, R5, O5⟩
  have S5 := HS4b.out.call R5 O5
  rw [H5.out] at S5 ⊢
  clear R5 O5
  have q5 := S5.qc.c 4 (by simp)
  have g5 := S5.qc.f 4
  simp only [List.getElem_cons_zero, List.getElem_cons_succ] at q5
  have S5b := S5.store 4 (by simp) (.string v5.1)
  simp only [List.set_cons_zero, List.set_cons_succ] at S5b
  have HS5b := Lib.hid S5b
  have k0 := S5b.qc.c 0 (by simp)
  simp only [List.getElem_cons_zero] at k0
  clear S5 S5b
  have e0 := Lib.hid (end_calls (w.heap.size + 1) _ _ 5 _ _ HS5b.out.hg (by omega) HS5b.out.rd (by omega))
  rw [if_neg HBB.out] at e0
  go_wp2_with (go_at_call 27; refine e0.out.mono ?_)
  rintro e w90 ⟨rfl, O90⟩
  have B90 := Lib.hid (HS5b.out.bel.trans (O90.below HS5b.out.r0 HS5b.out.bel.size))
  have K90 := (HS5b.out.kc (w.heap.size, zeroReq.toList) (by simp)).1.only (by simp [zeroReq]) O90 (HS5b.out.kc (w.heap.size, zeroReq.toList) (by simp)).2.2.1
  have Q90 := HS5b.out.qc.only HS5b.out.hq O90 HS5b.out.qr
  have x0 := Q90.c 0 (by simp)
  have x1 := Q90.c 1 (by simp)
  have x2 := Q90.c 2 (by simp)
  have x3 := Q90.c 3 (by simp)
  have x4 := Q90.c 4 (by simp)
  have x5 := Q90.c 5 (by simp)
  have x6 := Q90.c 6 (by simp)
  have x7 := Q90.c 7 (by simp)
  have x8 := Q90.c 8 (by simp)
  have x9 := Q90.c 9 (by simp)
  have x10 := Q90.c 10 (by simp)
  simp only [List.getElem_cons_zero, List.getElem_cons_succ] at x0 x1 x2 x3 x4 x5 x6 x7 x8 x9 x10
  have HQ90 := Lib.hid Q90
  clear Q90 O90
  have HK90 := Lib.hid K90
  clear K90
  go_wp2_with (go_at_call 13; refine (QWi.wire_MayReq.calls 1 v1.1 v2.1 v3.1 v4.1 v5.1 0 ⟨#[]⟩ ⟨#[]⟩ ⟨#[]⟩ ⟨#[]⟩ 0 mb _ HMB.out).mono ?_)
  rintro e w91 ⟨rfl, b91⟩
  have B91 := Lib.hid (B90.out.trans (b91.mono B90.out.size))
  have K91 := HK90.out.below (by simp [zeroReq]) b91
  have y0 : w91.cell? ⟨w.heap.size, 0, none⟩ = some (.int .i64 0) := K91.c 0 (by simp [zeroReq])
  have y1 : w91.cell? ⟨w.heap.size, 1, none⟩ = some (.int .i64 0) := K91.c 1 (by simp [zeroReq])
  have y2 : w91.cell? ⟨w.heap.size, 2, none⟩ = some (.int .i64 0) := K91.c 2 (by simp [zeroReq])
  have y3 : w91.cell? ⟨w.heap.size, 3, none⟩ = some (.int .i64 0) := K91.c 3 (by simp [zeroReq])
  have y4 : w91.cell? ⟨w.heap.size, 4, none⟩ = some (.string ⟨#[]⟩) := K91.c 4 (by simp [zeroReq])
  have y5 : w91.cell? ⟨w.heap.size, 5, none⟩ = some (.int .i64 0) := K91.c 5 (by simp [zeroReq])
  have y6 : w91.cell? ⟨w.heap.size, 6, none⟩ = some (.string ⟨#[]⟩) := K91.c 6 (by simp [zeroReq])
  have y7 : w91.cell? ⟨w.heap.size, 7, none⟩ = some (.string ⟨#[]⟩) := K91.c 7 (by simp [zeroReq])
  have y8 : w91.cell? ⟨w.heap.size, 8, none⟩ = some (.string ⟨#[]⟩) := K91.c 8 (by simp [zeroReq])
  have y9 : w91.cell? ⟨w.heap.size, 9, none⟩ = some (.string ⟨#[]⟩) := K91.c 9 (by simp [zeroReq])
  have y10 : w91.cell? ⟨w.heap.size, 10, none⟩ = some (.int .i64 0) := K91.c 10 (by simp [zeroReq])
  have f0 := K91.f 0
  have f1 := K91.f 1
  have f2 := K91.f 2
  have f3 := K91.f 3
  have f4 := K91.f 4
  have f5 := K91.f 5
  have f6 := K91.f 6
  have f7 := K91.f 7
  have f8 := K91.f 8
  have f9 := K91.f 9
  have f10 := K91.f 10
  have HK91 := Lib.hid K91
  have Q91 := HQ90.out.below (by simp) b91
  have u0 := Q91.c 0 (by simp)
  have u1 := Q91.c 1 (by simp)
  have u2 := Q91.c 2 (by simp)
  have u3 := Q91.c 3 (by simp)
  have u4 := Q91.c 4 (by simp)
  have u5 := Q91.c 5 (by simp)
  have u6 := Q91.c 6 (by simp)
  have u7 := Q91.c 7 (by simp)
  have u8 := Q91.c 8 (by simp)
  have u9 := Q91.c 9 (by simp)
  have u10 := Q91.c 10 (by simp)
  simp only [List.getElem_cons_zero, List.getElem_cons_succ] at u0 u1 u2 u3 u4 u5 u6 u7 u8 u9 u10
  clear b91 K91 Q91
  cases mb with
  | true =>
    go_wp2
    have KF := (((((((((((HK91.out).set 0 (by simp [zeroReq]) (.int .i64 v1.1)).set 1 (by simp [zeroReq]) (.int .i64 v2.1)).set 2 (by simp [zeroReq]) (.int .i64 v3.1)).set 3 (by simp [zeroReq]) (.int .i64 v4.1)).set 4 (by simp [zeroReq]) (.string v5.1)).set 5 (by simp [zeroReq]) (.int .i64 0)).set 6 (by simp [zeroReq]) (.string ⟨#[]⟩)).set 7 (by simp [zeroReq]) (.string ⟨#[]⟩)).set 8 (by simp [zeroReq]) (.string ⟨#[]⟩)).set 9 (by simp [zeroReq]) (.string ⟨#[]⟩)).set 10 (by simp [zeroReq]) (.int .i64 0)
    try simp only [Exit.inBlock, Exit.then]
    have HL := load_req _ _ _ KF (.int .i64 v1.1) (.int .i64 v2.1) (.int .i64 v3.1) (.int .i64 v4.1) (.string v5.1) (.int .i64 0) (.string ⟨#[]⟩) (.string ⟨#[]⟩) (.string ⟨#[]⟩) (.string ⟨#[]⟩) (.int .i64 0) rfl
    refine bodyPost_ret (results_cell_tmp Tryd.results11 _ _ _ ⟨w.heap.size, 0, none⟩ _ rfl HL) rfl ?_
    refine ⟨rfl, ?_⟩
    exact (((((((((((B91.out).setCell (p := ⟨w.heap.size, _, none⟩) (Nat.le_refl _) _).setCell (p := ⟨w.heap.size, _, none⟩) (Nat.le_refl _) _).setCell (p := ⟨w.heap.size, _, none⟩) (Nat.le_refl _) _).setCell (p := ⟨w.heap.size, _, none⟩) (Nat.le_refl _) _).setCell (p := ⟨w.heap.size, _, none⟩) (Nat.le_refl _) _).setCell (p := ⟨w.heap.size, _, none⟩) (Nat.le_refl _) _).setCell (p := ⟨w.heap.size, _, none⟩) (Nat.le_refl _) _).setCell (p := ⟨w.heap.size, _, none⟩) (Nat.le_refl _) _).setCell (p := ⟨w.heap.size, _, none⟩) (Nat.le_refl _) _).setCell (p := ⟨w.heap.size, _, none⟩) (Nat.le_refl _) _).setCell (p := ⟨w.heap.size, _, none⟩) (Nat.le_refl _) _
  | false =>
    go_wp2
    have KF := (((((((((((HK91.out).set 0 (by simp [zeroReq]) (.int .i64 0)).set 1 (by simp [zeroReq]) (.int .i64 0)).set 2 (by simp [zeroReq]) (.int .i64 0)).set 3 (by simp [zeroReq]) (.int .i64 0)).set 4 (by simp [zeroReq]) (.string ⟨#[]⟩)).set 5 (by simp [zeroReq]) (.int .i64 0)).set 6 (by simp [zeroReq]) (.string ⟨#[]⟩)).set 7 (by simp [zeroReq]) (.string ⟨#[]⟩)).set 8 (by simp [zeroReq]) (.string ⟨#[]⟩)).set 9 (by simp [zeroReq]) (.string ⟨#[]⟩)).set 10 (by simp [zeroReq]) (.int .i64 0)
    try simp only [Exit.inBlock, Exit.then]
    have HL := load_req _ _ _ KF (.int .i64 0) (.int .i64 0) (.int .i64 0) (.int .i64 0) (.string ⟨#[]⟩) (.int .i64 0) (.string ⟨#[]⟩) (.string ⟨#[]⟩) (.string ⟨#[]⟩) (.string ⟨#[]⟩) (.int .i64 0) rfl
    refine bodyPost_ret (results_cell_tmp Tryd.results11 _ _ _ ⟨w.heap.size, 0, none⟩ _ rfl HL) rfl ?_
    refine ⟨rfl, ?_⟩
    exact (((((((((((B91.out).setCell (p := ⟨w.heap.size, _, none⟩) (Nat.le_refl _) _).setCell (p := ⟨w.heap.size, _, none⟩) (Nat.le_refl _) _).setCell (p := ⟨w.heap.size, _, none⟩) (Nat.le_refl _) _).setCell (p := ⟨w.heap.size, _, none⟩) (Nat.le_refl _) _).setCell (p := ⟨w.heap.size, _, none⟩) (Nat.le_refl _) _).setCell (p := ⟨w.heap.size, _, none⟩) (Nat.le_refl _) _).setCell (p := ⟨w.heap.size, _, none⟩) (Nat.le_refl _) _).setCell (p := ⟨w.heap.size, _, none⟩) (Nat.le_refl _) _).setCell (p := ⟨w.heap.size, _, none⟩) (Nat.le_refl _) _).setCell (p := ⟨w.heap.size, _, none⟩) (Nat.le_refl _) _).setCell (p := ⟨w.heap.size, _, none⟩) (Nat.le_refl _) _
set_option maxHeartbeats 2000000 in
set_option maxRecDepth 10000 in
theorem take5_bad (s : ByteArray) (w : World) (hg : Handle w) (hs : s.size ≤ 2048) (v1 : Int × ByteArray × Bool) (v2 : Int × ByteArray × Bool) (v3 : Int × ByteArray × Bool) (v4 : Int × ByteArray × Bool) (v5 : ByteArray × ByteArray × Bool) (v6 : Int × ByteArray × Bool) (v7 : ByteArray × ByteArray × Bool) (v8 : ByteArray × ByteArray × Bool) (v9 : ByteArray × ByteArray × Bool) (v10 : ByteArray × ByteArray × Bool) (v11 : Int × ByteArray × Bool) (h1 : numR s false 6 = v1) (h2 : numR v1.2.1 v1.2.2 1073741824 = v2) (h3 : numR v2.2.1 v2.2.2 1073741824 = v3) (h4 : numR v3.2.1 v3.2.2 1073741824 = v4) (h5 : textR v4.2.1 v4.2.2 16 = v5) (h6 : numR v5.2.1 v5.2.2 6 = v6) (h7 : textR v6.2.1 v6.2.2 32 = v7) (h8 : textR v7.2.1 v7.2.2 64 = v8) (h9 : textR v8.2.1 v8.2.2 32 = v9) (h10 : textR v9.2.1 v9.2.2 32 = v10) (h11 : numR v10.2.1 v10.2.2 1073741824 = v11) (hk : v1.1 = 5) (hb : (v11.2.2 = true ∨ ¬ v11.2.1.size = 0)) :
    Calls Tryd.prog 11 #[.string s] w fun e w' => e = .returned (.tuple #[.agg zeroReq, .int .i64 3]) ∧ Below w.heap.size w w' := by
  have c1 : decide (2048 < (s.size : Int)) = false := decide_eq_false (by omega)
  have z1 : v1.2.1.size ≤ 2048 := by have h := numR_size s false 6; rw [h1] at h; omega
  have z2 : v2.2.1.size ≤ 2048 := by have h := numR_size v1.2.1 v1.2.2 1073741824; rw [h2] at h; omega
  have z3 : v3.2.1.size ≤ 2048 := by have h := numR_size v2.2.1 v2.2.2 1073741824; rw [h3] at h; omega
  have z4 : v4.2.1.size ≤ 2048 := by have h := numR_size v3.2.1 v3.2.2 1073741824; rw [h4] at h; omega
  have z5 : v5.2.1.size ≤ 2048 := by have h := textR_size v4.2.1 v4.2.2 16; rw [h5] at h; omega
  have z6 : v6.2.1.size ≤ 2048 := by have h := numR_size v5.2.1 v5.2.2 6; rw [h6] at h; omega
  have z7 : v7.2.1.size ≤ 2048 := by have h := textR_size v6.2.1 v6.2.2 32; rw [h7] at h; omega
  have z8 : v8.2.1.size ≤ 2048 := by have h := textR_size v7.2.1 v7.2.2 64; rw [h8] at h; omega
  have z9 : v9.2.1.size ≤ 2048 := by have h := textR_size v8.2.1 v8.2.2 32; rw [h9] at h; omega
  have z10 : v10.2.1.size ≤ 2048 := by have h := textR_size v9.2.1 v9.2.2 32; rw [h10] at h; omega
  have z11 : v11.2.1.size ≤ 2048 := by have h := numR_size v10.2.1 v10.2.2 1073741824; rw [h11] at h; omega
  have h00 : 0 < w.heap.size := Nat.lt_of_le_of_lt (Nat.zero_le _) (cell_lt hg)
  have S0 : St w (w.heap.size + 1) w.heap.size [] ((w.alloc (.cells zeroReq 25)).alloc (.cells #[.string s, .int .i64 0, .nilIface] 60)) s 0 false zeroReq.toList := start_st w s zeroReq 25 (by decide) hg
  have Z1 := Lib.hid z1
  have H1 := Lib.hid h1
  have Z2 := Lib.hid z2
  have H2 := Lib.hid h2
  have Z3 := Lib.hid z3
  have H3 := Lib.hid h3
  have Z4 := Lib.hid z4
  have H4 := Lib.hid h4
  have Z5 := Lib.hid z5
  have H5 := Lib.hid h5
  have Z6 := Lib.hid z6
  have H6 := Lib.hid h6
  have Z7 := Lib.hid z7
  have H7 := Lib.hid h7
  have Z8 := Lib.hid z8
  have H8 := Lib.hid h8
  have Z9 := Lib.hid z9
  have H9 := Lib.hid h9
  have Z10 := Lib.hid z10
  have H10 := Lib.hid h10
  have Z11 := Lib.hid z11
  have H11 := Lib.hid h11
  have HS0 := Lib.hid S0
  have HSS := Lib.hid hs
  have HK := Lib.hid hk
  have HBB := Lib.hid hb
  clear S0 hg h00 hs hk hb z1 h1 z2 h2 z3 h3 z4 h4 z5 h5 z6 h6 z7 h7 z8 h8 z9 h9 z10 h10 z11 h11
  have ck : (v1.1 == 5) = true := beq_iff_eq.mpr HK.out
  go_enter Tryd.func11, Tryd.ntmps11
  go_wp2_with (go_at_call 25; refine (num_calls (w.heap.size + 1) _ _ 0 _ 6 _ HS0.out.rd (by omega) (by have := HSS.out; omega) (by omega)).mono ?_)
  rintro e w1 ⟨rfl, R1, O1⟩
  have S1 := HS0.out.call R1 O1
  rw [H1.out] at S1 ⊢
  clear R1 O1
  have hQ : w.heap.size ≤ w1.heap.size := S1.bel.size
  have S1q := (S1.push #[.int .i64 v1.1, .int .i64 0, .int .i64 0, .int .i64 0, .string ⟨#[]⟩, .int .i64 0, .string ⟨#[]⟩, .string ⟨#[]⟩, .string ⟨#[]⟩, .string ⟨#[]⟩, .int .i64 0] 25 (by simp)).swap hQ
  have S1p := S1q.push #[.pointer (some ⟨w1.heap.size, 1, none⟩), .pointer (some ⟨w1.heap.size, 2, none⟩), .pointer (some ⟨w1.heap.size, 3, none⟩)] 63 (by simp)
  have hP : (w1.alloc (.cells #[.int .i64 v1.1, .int .i64 0, .int .i64 0, .int .i64 0, .string ⟨#[]⟩, .int .i64 0, .string ⟨#[]⟩, .string ⟨#[]⟩, .string ⟨#[]⟩, .string ⟨#[]⟩, .int .i64 0] 25)).heap.size = w1.heap.size + 1 := by simp
  rw [hP] at S1p
  have HS1b := Lib.hid S1p
  clear hQ S1 S1q S1p hP
  go_wp2
  refine wp_loop_rounds 4 ?_
  rw [rounds_succ]
  go_wp2_with (go_at_call 25; refine (num_calls (w.heap.size + 1) _ _ 1 _ 1073741824 _ HS1b.out.rd (by omega) (by have := Z1.out; omega) (by omega)).mono ?_)
  rintro e w2 ⟨rfl, R2, O2⟩
  have S2 := HS1b.out.call R2 O2
  rw [H2.out] at S2 ⊢
  clear R2 O2
  have q2 := S2.qc.c 1 (by simp)
  have g2 := S2.qc.f 1
  simp only [List.getElem_cons_zero, List.getElem_cons_succ] at q2
  have S2b := S2.store 1 (by simp) (.int .i64 v2.1)
  simp only [List.set_cons_zero, List.set_cons_succ] at S2b
  have HS2b := Lib.hid S2b
  have p2 := (S2b.kc _ (List.mem_cons_self ..)).1.c 1 (by simp)
  simp only [List.getElem_cons_zero, List.getElem_cons_succ] at p2
  clear S2 S2b
  go_wp2
  rw [rounds_succ]
  go_wp2_with (go_at_call 25; refine (num_calls (w.heap.size + 1) _ _ 2 _ 1073741824 _ HS2b.out.rd (by omega) (by have := Z2.out; omega) (by omega)).mono ?_)
  rintro e w3 ⟨rfl, R3, O3⟩
  have S3 := HS2b.out.call R3 O3
  rw [H3.out] at S3 ⊢
  clear R3 O3
  have q3 := S3.qc.c 2 (by simp)
  have g3 := S3.qc.f 2
  simp only [List.getElem_cons_zero, List.getElem_cons_succ] at q3
  have S3b := S3.store 2 (by simp) (.int .i64 v3.1)
  simp only [List.set_cons_zero, List.set_cons_succ] at S3b
  have HS3b := Lib.hid S3b
  have p3 := (S3b.kc _ (List.mem_cons_self ..)).1.c 2 (by simp)
  simp only [List.getElem_cons_zero, List.getElem_cons_succ] at p3
  clear S3 S3b
  go_wp2
  rw [rounds_succ]
  go_wp2_with (go_at_call 25; refine (num_calls (w.heap.size + 1) _ _ 3 _ 1073741824 _ HS3b.out.rd (by omega) (by have := Z3.out; omega) (by omega)).mono ?_)
  rintro e w4 ⟨rfl, R4, O4⟩
  have S4 := HS3b.out.call R4 O4
  rw [H4.out] at S4 ⊢
  clear R4 O4
  have q4 := S4.qc.c 3 (by simp)
  have g4 := S4.qc.f 3
  simp only [List.getElem_cons_zero, List.getElem_cons_succ] at q4
  have S4b := S4.store 3 (by simp) (.int .i64 v4.1)
  simp only [List.set_cons_zero, List.set_cons_succ] at S4b
  have HS4b := Lib.hid S4b
  clear S4 S4b
  go_wp2
  rw [rounds_succ]
  go_wp2_with (go_at_call 26; refine (text_calls (w.heap.size + 1) _ _ 4 _ 16 _ HS4b.out.rd (by omega) (by have := Z4.out; omega) (by omega)).mono ?_)
  rintro e w5 ⟨rfl, R5, O5⟩
  have S5 := HS4b.out.call R5 O5
  rw [H5.out] at S5 ⊢
  clear R5 O5
  have q5 := S5.qc.c 4 (by simp)
  have g5 := S5.qc.f 4
  simp only [List.getElem_cons_zero, List.getElem_cons_succ] at q5
  have S5b := S5.store 4 (by simp) (.string v5.1)
  simp only [List.set_cons_zero, List.set_cons_succ] at S5b
  have HS5b := Lib.hid S5b
  have k0 := S5b.qc.c 0 (by simp)
  simp only [List.getElem_cons_zero] at k0
  clear S5 S5b
  go_wp2_with (go_at_call 25; refine (num_calls (w.heap.size + 1) _ _ 5 _ 6 _ HS5b.out.rd (by omega) (by have := Z5.out; omega) (by omega)).mono ?_)
  rintro e w6 ⟨rfl, R6, O6⟩
  have S6 := HS5b.out.call R6 O6
  rw [H6.out] at S6 ⊢
  clear R6 O6
  have q6 := S6.qc.c 5 (by simp)
  have g6 := S6.qc.f 5
  simp only [List.getElem_cons_zero, List.getElem_cons_succ] at q6
  have S6b := S6.store 5 (by simp) (.int .i64 v6.1)
  simp only [List.set_cons_zero, List.set_cons_succ] at S6b
  have HS6b := Lib.hid S6b
  clear S6 S6b
  go_wp2_with (go_at_call 26; refine (text_calls (w.heap.size + 1) _ _ 6 _ 32 _ HS6b.out.rd (by omega) (by have := Z6.out; omega) (by omega)).mono ?_)
  rintro e w7 ⟨rfl, R7, O7⟩
  have S7 := HS6b.out.call R7 O7
  rw [H7.out] at S7 ⊢
  clear R7 O7
  have q7 := S7.qc.c 6 (by simp)
  have g7 := S7.qc.f 6
  simp only [List.getElem_cons_zero, List.getElem_cons_succ] at q7
  have S7b := S7.store 6 (by simp) (.string v7.1)
  simp only [List.set_cons_zero, List.set_cons_succ] at S7b
  have HS7b := Lib.hid S7b
  clear S7 S7b
  go_wp2_with (go_at_call 26; refine (text_calls (w.heap.size + 1) _ _ 7 _ 64 _ HS7b.out.rd (by omega) (by have := Z7.out; omega) (by omega)).mono ?_)
  rintro e w8 ⟨rfl, R8, O8⟩
  have S8 := HS7b.out.call R8 O8
  rw [H8.out] at S8 ⊢
  clear R8 O8
  have q8 := S8.qc.c 7 (by simp)
  have g8 := S8.qc.f 7
  simp only [List.getElem_cons_zero, List.getElem_cons_succ] at q8
  have S8b := S8.store 7 (by simp) (.string v8.1)
  simp only [List.set_cons_zero, List.set_cons_succ] at S8b
  have HS8b := Lib.hid S8b
  clear S8 S8b
  go_wp2_with (go_at_call 26; refine (text_calls (w.heap.size + 1) _ _ 8 _ 32 _ HS8b.out.rd (by omega) (by have := Z8.out; omega) (by omega)).mono ?_)
  rintro e w9 ⟨rfl, R9, O9⟩
  have S9 := HS8b.out.call R9 O9
  rw [H9.out] at S9 ⊢
  clear R9 O9
  have q9 := S9.qc.c 8 (by simp)
  have g9 := S9.qc.f 8
  simp only [List.getElem_cons_zero, List.getElem_cons_succ] at q9
  have S9b := S9.store 8 (by simp) (.string v9.1)
  simp only [List.set_cons_zero, List.set_cons_succ] at S9b
  have HS9b := Lib.hid S9b
  clear S9 S9b
  go_wp2_with (go_at_call 26; refine (text_calls (w.heap.size + 1) _ _ 9 _ 32 _ HS9b.out.rd (by omega) (by have := Z9.out; omega) (by omega)).mono ?_)
  rintro e w10 ⟨rfl, R10, O10⟩
  have S10 := HS9b.out.call R10 O10
  rw [H10.out] at S10 ⊢
  clear R10 O10
  have q10 := S10.qc.c 9 (by simp)
  have g10 := S10.qc.f 9
  simp only [List.getElem_cons_zero, List.getElem_cons_succ] at q10
  have S10b := S10.store 9 (by simp) (.string v10.1)
  simp only [List.set_cons_zero, List.set_cons_succ] at S10b
  have HS10b := Lib.hid S10b
  clear S10 S10b
  go_wp2_with (go_at_call 25; refine (num_calls (w.heap.size + 1) _ _ 10 _ 1073741824 _ HS10b.out.rd (by omega) (by have := Z10.out; omega) (by omega)).mono ?_)
  rintro e w11 ⟨rfl, R11, O11⟩
  have S11 := HS10b.out.call R11 O11
  rw [H11.out] at S11 ⊢
  clear R11 O11
  have q11 := S11.qc.c 10 (by simp)
  have g11 := S11.qc.f 10
  simp only [List.getElem_cons_zero, List.getElem_cons_succ] at q11
  have S11b := S11.store 10 (by simp) (.int .i64 v11.1)
  simp only [List.set_cons_zero, List.set_cons_succ] at S11b
  have HS11b := Lib.hid S11b
  clear S11 S11b
  have e0 := Lib.hid (end_calls (w.heap.size + 1) _ _ 11 _ _ HS11b.out.hg (by omega) HS11b.out.rd (by omega))
  rw [if_pos HBB.out] at e0
  go_wp2_with (go_at_call 27; refine e0.out.mono ?_)
  rintro e w90 ⟨rfl, O90⟩
  have B90 := Lib.hid (HS11b.out.bel.trans (O90.below HS11b.out.r0 HS11b.out.bel.size))
  have K90 := (HS11b.out.kc (w.heap.size, zeroReq.toList) (by simp)).1.only (by simp [zeroReq]) O90 (HS11b.out.kc (w.heap.size, zeroReq.toList) (by simp)).2.2.1
  have y0 : w90.cell? ⟨w.heap.size, 0, none⟩ = some (.int .i64 0) := K90.c 0 (by simp [zeroReq])
  have y1 : w90.cell? ⟨w.heap.size, 1, none⟩ = some (.int .i64 0) := K90.c 1 (by simp [zeroReq])
  have y2 : w90.cell? ⟨w.heap.size, 2, none⟩ = some (.int .i64 0) := K90.c 2 (by simp [zeroReq])
  have y3 : w90.cell? ⟨w.heap.size, 3, none⟩ = some (.int .i64 0) := K90.c 3 (by simp [zeroReq])
  have y4 : w90.cell? ⟨w.heap.size, 4, none⟩ = some (.string ⟨#[]⟩) := K90.c 4 (by simp [zeroReq])
  have y5 : w90.cell? ⟨w.heap.size, 5, none⟩ = some (.int .i64 0) := K90.c 5 (by simp [zeroReq])
  have y6 : w90.cell? ⟨w.heap.size, 6, none⟩ = some (.string ⟨#[]⟩) := K90.c 6 (by simp [zeroReq])
  have y7 : w90.cell? ⟨w.heap.size, 7, none⟩ = some (.string ⟨#[]⟩) := K90.c 7 (by simp [zeroReq])
  have y8 : w90.cell? ⟨w.heap.size, 8, none⟩ = some (.string ⟨#[]⟩) := K90.c 8 (by simp [zeroReq])
  have y9 : w90.cell? ⟨w.heap.size, 9, none⟩ = some (.string ⟨#[]⟩) := K90.c 9 (by simp [zeroReq])
  have y10 : w90.cell? ⟨w.heap.size, 10, none⟩ = some (.int .i64 0) := K90.c 10 (by simp [zeroReq])
  have f0 := K90.f 0
  have f1 := K90.f 1
  have f2 := K90.f 2
  have f3 := K90.f 3
  have f4 := K90.f 4
  have f5 := K90.f 5
  have f6 := K90.f 6
  have f7 := K90.f 7
  have f8 := K90.f 8
  have f9 := K90.f 9
  have f10 := K90.f 10
  have HK90 := Lib.hid K90
  clear K90 O90
  go_wp2
  have KF := (((((((((((HK90.out).set 0 (by simp [zeroReq]) (.int .i64 0)).set 1 (by simp [zeroReq]) (.int .i64 0)).set 2 (by simp [zeroReq]) (.int .i64 0)).set 3 (by simp [zeroReq]) (.int .i64 0)).set 4 (by simp [zeroReq]) (.string ⟨#[]⟩)).set 5 (by simp [zeroReq]) (.int .i64 0)).set 6 (by simp [zeroReq]) (.string ⟨#[]⟩)).set 7 (by simp [zeroReq]) (.string ⟨#[]⟩)).set 8 (by simp [zeroReq]) (.string ⟨#[]⟩)).set 9 (by simp [zeroReq]) (.string ⟨#[]⟩)).set 10 (by simp [zeroReq]) (.int .i64 0)
  try simp only [Exit.inBlock, Exit.then]
  have HL := load_req _ _ _ KF (.int .i64 0) (.int .i64 0) (.int .i64 0) (.int .i64 0) (.string ⟨#[]⟩) (.int .i64 0) (.string ⟨#[]⟩) (.string ⟨#[]⟩) (.string ⟨#[]⟩) (.string ⟨#[]⟩) (.int .i64 0) rfl
  refine bodyPost_ret (results_cell_tmp Tryd.results11 _ _ _ ⟨w.heap.size, 0, none⟩ _ rfl HL) rfl ?_
  refine ⟨rfl, ?_⟩
  exact (((((((((((B90.out).setCell (p := ⟨w.heap.size, _, none⟩) (Nat.le_refl _) _).setCell (p := ⟨w.heap.size, _, none⟩) (Nat.le_refl _) _).setCell (p := ⟨w.heap.size, _, none⟩) (Nat.le_refl _) _).setCell (p := ⟨w.heap.size, _, none⟩) (Nat.le_refl _) _).setCell (p := ⟨w.heap.size, _, none⟩) (Nat.le_refl _) _).setCell (p := ⟨w.heap.size, _, none⟩) (Nat.le_refl _) _).setCell (p := ⟨w.heap.size, _, none⟩) (Nat.le_refl _) _).setCell (p := ⟨w.heap.size, _, none⟩) (Nat.le_refl _) _).setCell (p := ⟨w.heap.size, _, none⟩) (Nat.le_refl _) _).setCell (p := ⟨w.heap.size, _, none⟩) (Nat.le_refl _) _).setCell (p := ⟨w.heap.size, _, none⟩) (Nat.le_refl _) _
set_option maxHeartbeats 2000000 in
set_option maxRecDepth 10000 in
theorem take5_good (s : ByteArray) (w : World) (hg : Handle w) (hs : s.size ≤ 2048) (v1 : Int × ByteArray × Bool) (v2 : Int × ByteArray × Bool) (v3 : Int × ByteArray × Bool) (v4 : Int × ByteArray × Bool) (v5 : ByteArray × ByteArray × Bool) (v6 : Int × ByteArray × Bool) (v7 : ByteArray × ByteArray × Bool) (v8 : ByteArray × ByteArray × Bool) (v9 : ByteArray × ByteArray × Bool) (v10 : ByteArray × ByteArray × Bool) (v11 : Int × ByteArray × Bool) (h1 : numR s false 6 = v1) (h2 : numR v1.2.1 v1.2.2 1073741824 = v2) (h3 : numR v2.2.1 v2.2.2 1073741824 = v3) (h4 : numR v3.2.1 v3.2.2 1073741824 = v4) (h5 : textR v4.2.1 v4.2.2 16 = v5) (h6 : numR v5.2.1 v5.2.2 6 = v6) (h7 : textR v6.2.1 v6.2.2 32 = v7) (h8 : textR v7.2.1 v7.2.2 64 = v8) (h9 : textR v8.2.1 v8.2.2 32 = v9) (h10 : textR v9.2.1 v9.2.2 32 = v10) (h11 : numR v10.2.1 v10.2.2 1073741824 = v11) (hk : v1.1 = 5) (hb : ¬ (v11.2.2 = true ∨ ¬ v11.2.1.size = 0)) (mb : Bool) (hmb : QWi.wire_MayReq.f 1 v1.1 v2.1 v3.1 v4.1 v5.1 v6.1 v7.1 v8.1 v9.1 v10.1 v11.1 = some mb) :
    Calls Tryd.prog 11 #[.string s] w fun e w' => e = .returned (.tuple (if mb = true then #[.agg #[.int .i64 v1.1, .int .i64 v2.1, .int .i64 v3.1, .int .i64 v4.1, .string v5.1, .int .i64 v6.1, .string v7.1, .string v8.1, .string v9.1, .string v10.1, .int .i64 v11.1], .int .i64 0] else #[.agg zeroReq, .int .i64 3])) ∧ Below w.heap.size w w' := by
  have c1 : decide (2048 < (s.size : Int)) = false := decide_eq_false (by omega)
  have z1 : v1.2.1.size ≤ 2048 := by have h := numR_size s false 6; rw [h1] at h; omega
  have z2 : v2.2.1.size ≤ 2048 := by have h := numR_size v1.2.1 v1.2.2 1073741824; rw [h2] at h; omega
  have z3 : v3.2.1.size ≤ 2048 := by have h := numR_size v2.2.1 v2.2.2 1073741824; rw [h3] at h; omega
  have z4 : v4.2.1.size ≤ 2048 := by have h := numR_size v3.2.1 v3.2.2 1073741824; rw [h4] at h; omega
  have z5 : v5.2.1.size ≤ 2048 := by have h := textR_size v4.2.1 v4.2.2 16; rw [h5] at h; omega
  have z6 : v6.2.1.size ≤ 2048 := by have h := numR_size v5.2.1 v5.2.2 6; rw [h6] at h; omega
  have z7 : v7.2.1.size ≤ 2048 := by have h := textR_size v6.2.1 v6.2.2 32; rw [h7] at h; omega
  have z8 : v8.2.1.size ≤ 2048 := by have h := textR_size v7.2.1 v7.2.2 64; rw [h8] at h; omega
  have z9 : v9.2.1.size ≤ 2048 := by have h := textR_size v8.2.1 v8.2.2 32; rw [h9] at h; omega
  have z10 : v10.2.1.size ≤ 2048 := by have h := textR_size v9.2.1 v9.2.2 32; rw [h10] at h; omega
  have z11 : v11.2.1.size ≤ 2048 := by have h := numR_size v10.2.1 v10.2.2 1073741824; rw [h11] at h; omega
  have h00 : 0 < w.heap.size := Nat.lt_of_le_of_lt (Nat.zero_le _) (cell_lt hg)
  have S0 : St w (w.heap.size + 1) w.heap.size [] ((w.alloc (.cells zeroReq 25)).alloc (.cells #[.string s, .int .i64 0, .nilIface] 60)) s 0 false zeroReq.toList := start_st w s zeroReq 25 (by decide) hg
  have Z1 := Lib.hid z1
  have H1 := Lib.hid h1
  have Z2 := Lib.hid z2
  have H2 := Lib.hid h2
  have Z3 := Lib.hid z3
  have H3 := Lib.hid h3
  have Z4 := Lib.hid z4
  have H4 := Lib.hid h4
  have Z5 := Lib.hid z5
  have H5 := Lib.hid h5
  have Z6 := Lib.hid z6
  have H6 := Lib.hid h6
  have Z7 := Lib.hid z7
  have H7 := Lib.hid h7
  have Z8 := Lib.hid z8
  have H8 := Lib.hid h8
  have Z9 := Lib.hid z9
  have H9 := Lib.hid h9
  have Z10 := Lib.hid z10
  have H10 := Lib.hid h10
  have Z11 := Lib.hid z11
  have H11 := Lib.hid h11
  have HS0 := Lib.hid S0
  have HSS := Lib.hid hs
  have HK := Lib.hid hk
  have HBB := Lib.hid hb
  have HMB := Lib.hid hmb
  clear S0 hg h00 hs hk hb z1 h1 z2 h2 z3 h3 z4 h4 z5 h5 z6 h6 z7 h7 z8 h8 z9 h9 z10 h10 z11 h11 hmb
  have ck : (v1.1 == 5) = true := beq_iff_eq.mpr HK.out
  go_enter Tryd.func11, Tryd.ntmps11
  go_wp2_with (go_at_call 25; refine (num_calls (w.heap.size + 1) _ _ 0 _ 6 _ HS0.out.rd (by omega) (by have := HSS.out; omega) (by omega)).mono ?_)
  rintro e w1 ⟨rfl, R1, O1⟩
  have S1 := HS0.out.call R1 O1
  rw [H1.out] at S1 ⊢
  clear R1 O1
  have hQ : w.heap.size ≤ w1.heap.size := S1.bel.size
  have S1q := (S1.push #[.int .i64 v1.1, .int .i64 0, .int .i64 0, .int .i64 0, .string ⟨#[]⟩, .int .i64 0, .string ⟨#[]⟩, .string ⟨#[]⟩, .string ⟨#[]⟩, .string ⟨#[]⟩, .int .i64 0] 25 (by simp)).swap hQ
  have S1p := S1q.push #[.pointer (some ⟨w1.heap.size, 1, none⟩), .pointer (some ⟨w1.heap.size, 2, none⟩), .pointer (some ⟨w1.heap.size, 3, none⟩)] 63 (by simp)
  have hP : (w1.alloc (.cells #[.int .i64 v1.1, .int .i64 0, .int .i64 0, .int .i64 0, .string ⟨#[]⟩, .int .i64 0, .string ⟨#[]⟩, .string ⟨#[]⟩, .string ⟨#[]⟩, .string ⟨#[]⟩, .int .i64 0] 25)).heap.size = w1.heap.size + 1 := by simp
  rw [hP] at S1p
  have HS1b := Lib.hid S1p
  clear hQ S1 S1q S1p hP
  go_wp2
  refine wp_loop_rounds 4 ?_
  rw [rounds_succ]
  go_wp2_with (go_at_call 25; refine (num_calls (w.heap.size + 1) _ _ 1 _ 1073741824 _ HS1b.out.rd (by omega) (by have := Z1.out; omega) (by omega)).mono ?_)
  rintro e w2 ⟨rfl, R2, O2⟩
  have S2 := HS1b.out.call R2 O2
  rw [H2.out] at S2 ⊢
  clear R2 O2
  have q2 := S2.qc.c 1 (by simp)
  have g2 := S2.qc.f 1
  simp only [List.getElem_cons_zero, List.getElem_cons_succ] at q2
  have S2b := S2.store 1 (by simp) (.int .i64 v2.1)
  simp only [List.set_cons_zero, List.set_cons_succ] at S2b
  have HS2b := Lib.hid S2b
  have p2 := (S2b.kc _ (List.mem_cons_self ..)).1.c 1 (by simp)
  simp only [List.getElem_cons_zero, List.getElem_cons_succ] at p2
  clear S2 S2b
  go_wp2
  rw [rounds_succ]
  go_wp2_with (go_at_call 25; refine (num_calls (w.heap.size + 1) _ _ 2 _ 1073741824 _ HS2b.out.rd (by omega) (by have := Z2.out; omega) (by omega)).mono ?_)
  rintro e w3 ⟨rfl, R3, O3⟩
  have S3 := HS2b.out.call R3 O3
  rw [H3.out] at S3 ⊢
  clear R3 O3
  have q3 := S3.qc.c 2 (by simp)
  have g3 := S3.qc.f 2
  simp only [List.getElem_cons_zero, List.getElem_cons_succ] at q3
  have S3b := S3.store 2 (by simp) (.int .i64 v3.1)
  simp only [List.set_cons_zero, List.set_cons_succ] at S3b
  have HS3b := Lib.hid S3b
  have p3 := (S3b.kc _ (List.mem_cons_self ..)).1.c 2 (by simp)
  simp only [List.getElem_cons_zero, List.getElem_cons_succ] at p3
  clear S3 S3b
  go_wp2
  rw [rounds_succ]
  go_wp2_with (go_at_call 25; refine (num_calls (w.heap.size + 1) _ _ 3 _ 1073741824 _ HS3b.out.rd (by omega) (by have := Z3.out; omega) (by omega)).mono ?_)
  rintro e w4 ⟨rfl, R4, O4⟩
  have S4 := HS3b.out.call R4 O4
  rw [H4.out] at S4 ⊢
  clear R4 O4
  have q4 := S4.qc.c 3 (by simp)
  have g4 := S4.qc.f 3
  simp only [List.getElem_cons_zero, List.getElem_cons_succ] at q4
  have S4b := S4.store 3 (by simp) (.int .i64 v4.1)
  simp only [List.set_cons_zero, List.set_cons_succ] at S4b
  have HS4b := Lib.hid S4b
  clear S4 S4b
  go_wp2
  rw [rounds_succ]
  go_wp2_with (go_at_call 26; refine (text_calls (w.heap.size + 1) _ _ 4 _ 16 _ HS4b.out.rd (by omega) (by have := Z4.out; omega) (by omega)).mono ?_)
  rintro e w5 ⟨rfl, R5, O5⟩
  have S5 := HS4b.out.call R5 O5
  rw [H5.out] at S5 ⊢
  clear R5 O5
  have q5 := S5.qc.c 4 (by simp)
  have g5 := S5.qc.f 4
  simp only [List.getElem_cons_zero, List.getElem_cons_succ] at q5
  have S5b := S5.store 4 (by simp) (.string v5.1)
  simp only [List.set_cons_zero, List.set_cons_succ] at S5b
  have HS5b := Lib.hid S5b
  have k0 := S5b.qc.c 0 (by simp)
  simp only [List.getElem_cons_zero] at k0
  clear S5 S5b
  go_wp2_with (go_at_call 25; refine (num_calls (w.heap.size + 1) _ _ 5 _ 6 _ HS5b.out.rd (by omega) (by have := Z5.out; omega) (by omega)).mono ?_)
  rintro e w6 ⟨rfl, R6, O6⟩
  have S6 := HS5b.out.call R6 O6
  rw [H6.out] at S6 ⊢
  clear R6 O6
  have q6 := S6.qc.c 5 (by simp)
  have g6 := S6.qc.f 5
  simp only [List.getElem_cons_zero, List.getElem_cons_succ] at q6
  have S6b := S6.store 5 (by simp) (.int .i64 v6.1)
  simp only [List.set_cons_zero, List.set_cons_succ] at S6b
  have HS6b := Lib.hid S6b
  clear S6 S6b
  go_wp2_with (go_at_call 26; refine (text_calls (w.heap.size + 1) _ _ 6 _ 32 _ HS6b.out.rd (by omega) (by have := Z6.out; omega) (by omega)).mono ?_)
  rintro e w7 ⟨rfl, R7, O7⟩
  have S7 := HS6b.out.call R7 O7
  rw [H7.out] at S7 ⊢
  clear R7 O7
  have q7 := S7.qc.c 6 (by simp)
  have g7 := S7.qc.f 6
  simp only [List.getElem_cons_zero, List.getElem_cons_succ] at q7
  have S7b := S7.store 6 (by simp) (.string v7.1)
  simp only [List.set_cons_zero, List.set_cons_succ] at S7b
  have HS7b := Lib.hid S7b
  clear S7 S7b
  go_wp2_with (go_at_call 26; refine (text_calls (w.heap.size + 1) _ _ 7 _ 64 _ HS7b.out.rd (by omega) (by have := Z7.out; omega) (by omega)).mono ?_)
  rintro e w8 ⟨rfl, R8, O8⟩
  have S8 := HS7b.out.call R8 O8
  rw [H8.out] at S8 ⊢
  clear R8 O8
  have q8 := S8.qc.c 7 (by simp)
  have g8 := S8.qc.f 7
  simp only [List.getElem_cons_zero, List.getElem_cons_succ] at q8
  have S8b := S8.store 7 (by simp) (.string v8.1)
  simp only [List.set_cons_zero, List.set_cons_succ] at S8b
  have HS8b := Lib.hid S8b
  clear S8 S8b
  go_wp2_with (go_at_call 26; refine (text_calls (w.heap.size + 1) _ _ 8 _ 32 _ HS8b.out.rd (by omega) (by have := Z8.out; omega) (by omega)).mono ?_)
  rintro e w9 ⟨rfl, R9, O9⟩
  have S9 := HS8b.out.call R9 O9
  rw [H9.out] at S9 ⊢
  clear R9 O9
  have q9 := S9.qc.c 8 (by simp)
  have g9 := S9.qc.f 8
  simp only [List.getElem_cons_zero, List.getElem_cons_succ] at q9
  have S9b := S9.store 8 (by simp) (.string v9.1)
  simp only [List.set_cons_zero, List.set_cons_succ] at S9b
  have HS9b := Lib.hid S9b
  clear S9 S9b
  go_wp2_with (go_at_call 26; refine (text_calls (w.heap.size + 1) _ _ 9 _ 32 _ HS9b.out.rd (by omega) (by have := Z9.out; omega) (by omega)).mono ?_)
  rintro e w10 ⟨rfl, R10, O10⟩
  have S10 := HS9b.out.call R10 O10
  rw [H10.out] at S10 ⊢
  clear R10 O10
  have q10 := S10.qc.c 9 (by simp)
  have g10 := S10.qc.f 9
  simp only [List.getElem_cons_zero, List.getElem_cons_succ] at q10
  have S10b := S10.store 9 (by simp) (.string v10.1)
  simp only [List.set_cons_zero, List.set_cons_succ] at S10b
  have HS10b := Lib.hid S10b
  clear S10 S10b
  go_wp2_with (go_at_call 25; refine (num_calls (w.heap.size + 1) _ _ 10 _ 1073741824 _ HS10b.out.rd (by omega) (by have := Z10.out; omega) (by omega)).mono ?_)
  rintro e w11 ⟨rfl, R11, O11⟩
  have S11 := HS10b.out.call R11 O11
  rw [H11.out] at S11 ⊢
  clear R11 O11
  have q11 := S11.qc.c 10 (by simp)
  have g11 := S11.qc.f 10
  simp only [List.getElem_cons_zero, List.getElem_cons_succ] at q11
  have S11b := S11.store 10 (by simp) (.int .i64 v11.1)
  simp only [List.set_cons_zero, List.set_cons_succ] at S11b
  have HS11b := Lib.hid S11b
  clear S11 S11b
  have e0 := Lib.hid (end_calls (w.heap.size + 1) _ _ 11 _ _ HS11b.out.hg (by omega) HS11b.out.rd (by omega))
  rw [if_neg HBB.out] at e0
  go_wp2_with (go_at_call 27; refine e0.out.mono ?_)
  rintro e w90 ⟨rfl, O90⟩
  have B90 := Lib.hid (HS11b.out.bel.trans (O90.below HS11b.out.r0 HS11b.out.bel.size))
  have K90 := (HS11b.out.kc (w.heap.size, zeroReq.toList) (by simp)).1.only (by simp [zeroReq]) O90 (HS11b.out.kc (w.heap.size, zeroReq.toList) (by simp)).2.2.1
  have Q90 := HS11b.out.qc.only HS11b.out.hq O90 HS11b.out.qr
  have x0 := Q90.c 0 (by simp)
  have x1 := Q90.c 1 (by simp)
  have x2 := Q90.c 2 (by simp)
  have x3 := Q90.c 3 (by simp)
  have x4 := Q90.c 4 (by simp)
  have x5 := Q90.c 5 (by simp)
  have x6 := Q90.c 6 (by simp)
  have x7 := Q90.c 7 (by simp)
  have x8 := Q90.c 8 (by simp)
  have x9 := Q90.c 9 (by simp)
  have x10 := Q90.c 10 (by simp)
  simp only [List.getElem_cons_zero, List.getElem_cons_succ] at x0 x1 x2 x3 x4 x5 x6 x7 x8 x9 x10
  have HQ90 := Lib.hid Q90
  clear Q90 O90
  have HK90 := Lib.hid K90
  clear K90
  go_wp2_with (go_at_call 13; refine (QWi.wire_MayReq.calls 1 v1.1 v2.1 v3.1 v4.1 v5.1 v6.1 v7.1 v8.1 v9.1 v10.1 v11.1 mb _ HMB.out).mono ?_)
  rintro e w91 ⟨rfl, b91⟩
  have B91 := Lib.hid (B90.out.trans (b91.mono B90.out.size))
  have K91 := HK90.out.below (by simp [zeroReq]) b91
  have y0 : w91.cell? ⟨w.heap.size, 0, none⟩ = some (.int .i64 0) := K91.c 0 (by simp [zeroReq])
  have y1 : w91.cell? ⟨w.heap.size, 1, none⟩ = some (.int .i64 0) := K91.c 1 (by simp [zeroReq])
  have y2 : w91.cell? ⟨w.heap.size, 2, none⟩ = some (.int .i64 0) := K91.c 2 (by simp [zeroReq])
  have y3 : w91.cell? ⟨w.heap.size, 3, none⟩ = some (.int .i64 0) := K91.c 3 (by simp [zeroReq])
  have y4 : w91.cell? ⟨w.heap.size, 4, none⟩ = some (.string ⟨#[]⟩) := K91.c 4 (by simp [zeroReq])
  have y5 : w91.cell? ⟨w.heap.size, 5, none⟩ = some (.int .i64 0) := K91.c 5 (by simp [zeroReq])
  have y6 : w91.cell? ⟨w.heap.size, 6, none⟩ = some (.string ⟨#[]⟩) := K91.c 6 (by simp [zeroReq])
  have y7 : w91.cell? ⟨w.heap.size, 7, none⟩ = some (.string ⟨#[]⟩) := K91.c 7 (by simp [zeroReq])
  have y8 : w91.cell? ⟨w.heap.size, 8, none⟩ = some (.string ⟨#[]⟩) := K91.c 8 (by simp [zeroReq])
  have y9 : w91.cell? ⟨w.heap.size, 9, none⟩ = some (.string ⟨#[]⟩) := K91.c 9 (by simp [zeroReq])
  have y10 : w91.cell? ⟨w.heap.size, 10, none⟩ = some (.int .i64 0) := K91.c 10 (by simp [zeroReq])
  have f0 := K91.f 0
  have f1 := K91.f 1
  have f2 := K91.f 2
  have f3 := K91.f 3
  have f4 := K91.f 4
  have f5 := K91.f 5
  have f6 := K91.f 6
  have f7 := K91.f 7
  have f8 := K91.f 8
  have f9 := K91.f 9
  have f10 := K91.f 10
  have HK91 := Lib.hid K91
  have Q91 := HQ90.out.below (by simp) b91
  have u0 := Q91.c 0 (by simp)
  have u1 := Q91.c 1 (by simp)
  have u2 := Q91.c 2 (by simp)
  have u3 := Q91.c 3 (by simp)
  have u4 := Q91.c 4 (by simp)
  have u5 := Q91.c 5 (by simp)
  have u6 := Q91.c 6 (by simp)
  have u7 := Q91.c 7 (by simp)
  have u8 := Q91.c 8 (by simp)
  have u9 := Q91.c 9 (by simp)
  have u10 := Q91.c 10 (by simp)
  simp only [List.getElem_cons_zero, List.getElem_cons_succ] at u0 u1 u2 u3 u4 u5 u6 u7 u8 u9 u10
  clear b91 K91 Q91
  cases mb with
  | true =>
    go_wp2
    have KF := (((((((((((HK91.out).set 0 (by simp [zeroReq]) (.int .i64 v1.1)).set 1 (by simp [zeroReq]) (.int .i64 v2.1)).set 2 (by simp [zeroReq]) (.int .i64 v3.1)).set 3 (by simp [zeroReq]) (.int .i64 v4.1)).set 4 (by simp [zeroReq]) (.string v5.1)).set 5 (by simp [zeroReq]) (.int .i64 v6.1)).set 6 (by simp [zeroReq]) (.string v7.1)).set 7 (by simp [zeroReq]) (.string v8.1)).set 8 (by simp [zeroReq]) (.string v9.1)).set 9 (by simp [zeroReq]) (.string v10.1)).set 10 (by simp [zeroReq]) (.int .i64 v11.1)
    try simp only [Exit.inBlock, Exit.then]
    have HL := load_req _ _ _ KF (.int .i64 v1.1) (.int .i64 v2.1) (.int .i64 v3.1) (.int .i64 v4.1) (.string v5.1) (.int .i64 v6.1) (.string v7.1) (.string v8.1) (.string v9.1) (.string v10.1) (.int .i64 v11.1) rfl
    refine bodyPost_ret (results_cell_tmp Tryd.results11 _ _ _ ⟨w.heap.size, 0, none⟩ _ rfl HL) rfl ?_
    refine ⟨rfl, ?_⟩
    exact (((((((((((B91.out).setCell (p := ⟨w.heap.size, _, none⟩) (Nat.le_refl _) _).setCell (p := ⟨w.heap.size, _, none⟩) (Nat.le_refl _) _).setCell (p := ⟨w.heap.size, _, none⟩) (Nat.le_refl _) _).setCell (p := ⟨w.heap.size, _, none⟩) (Nat.le_refl _) _).setCell (p := ⟨w.heap.size, _, none⟩) (Nat.le_refl _) _).setCell (p := ⟨w.heap.size, _, none⟩) (Nat.le_refl _) _).setCell (p := ⟨w.heap.size, _, none⟩) (Nat.le_refl _) _).setCell (p := ⟨w.heap.size, _, none⟩) (Nat.le_refl _) _).setCell (p := ⟨w.heap.size, _, none⟩) (Nat.le_refl _) _).setCell (p := ⟨w.heap.size, _, none⟩) (Nat.le_refl _) _).setCell (p := ⟨w.heap.size, _, none⟩) (Nat.le_refl _) _
  | false =>
    go_wp2
    have KF := (((((((((((HK91.out).set 0 (by simp [zeroReq]) (.int .i64 0)).set 1 (by simp [zeroReq]) (.int .i64 0)).set 2 (by simp [zeroReq]) (.int .i64 0)).set 3 (by simp [zeroReq]) (.int .i64 0)).set 4 (by simp [zeroReq]) (.string ⟨#[]⟩)).set 5 (by simp [zeroReq]) (.int .i64 0)).set 6 (by simp [zeroReq]) (.string ⟨#[]⟩)).set 7 (by simp [zeroReq]) (.string ⟨#[]⟩)).set 8 (by simp [zeroReq]) (.string ⟨#[]⟩)).set 9 (by simp [zeroReq]) (.string ⟨#[]⟩)).set 10 (by simp [zeroReq]) (.int .i64 0)
    try simp only [Exit.inBlock, Exit.then]
    have HL := load_req _ _ _ KF (.int .i64 0) (.int .i64 0) (.int .i64 0) (.int .i64 0) (.string ⟨#[]⟩) (.int .i64 0) (.string ⟨#[]⟩) (.string ⟨#[]⟩) (.string ⟨#[]⟩) (.string ⟨#[]⟩) (.int .i64 0) rfl
    refine bodyPost_ret (results_cell_tmp Tryd.results11 _ _ _ ⟨w.heap.size, 0, none⟩ _ rfl HL) rfl ?_
    refine ⟨rfl, ?_⟩
    exact (((((((((((B91.out).setCell (p := ⟨w.heap.size, _, none⟩) (Nat.le_refl _) _).setCell (p := ⟨w.heap.size, _, none⟩) (Nat.le_refl _) _).setCell (p := ⟨w.heap.size, _, none⟩) (Nat.le_refl _) _).setCell (p := ⟨w.heap.size, _, none⟩) (Nat.le_refl _) _).setCell (p := ⟨w.heap.size, _, none⟩) (Nat.le_refl _) _).setCell (p := ⟨w.heap.size, _, none⟩) (Nat.le_refl _) _).setCell (p := ⟨w.heap.size, _, none⟩) (Nat.le_refl _) _).setCell (p := ⟨w.heap.size, _, none⟩) (Nat.le_refl _) _).setCell (p := ⟨w.heap.size, _, none⟩) (Nat.le_refl _) _).setCell (p := ⟨w.heap.size, _, none⟩) (Nat.le_refl _) _).setCell (p := ⟨w.heap.size, _, none⟩) (Nat.le_refl _) _
end Go.Proofs.YtlpcidjmaeicoaaDoor.Reader

/-! MayQ -/
/- Which requests may be: the closed form of wire.MayReq. -/
namespace Go.Proofs.YtlpcidjmaeicoaaDoor.QWi
open Go Go.RowKit Go.Proofs.YtlpcidjmaeicoaaDoorW.PrintWords Go.Proofs.YtlpcidjmaeicoaaDoorW.PrintLast Go.Proofs.YtlpcidjmaeicoaaDoorW.PrintMore

theorem bsm {α β : Type} (a : α) (f : α → Option β) : (some a).bind f = f a := Eq.trans (Option.bind_some a f) (Eq.refl _)
/-- May a request be? -/
def mayQ (a0 a1 a2 a3 : Int) (t : ByteArray) (o : Int) (y v l h : ByteArray) (m : Int) : Prop :=
  (1 ≤ a0 ∧ a0 ≤ 6) ∧ (0 ≤ a1 ∧ a1 ≤ 1073741824) ∧ (0 ≤ a2 ∧ a2 ≤ 1073741824) ∧ (0 ≤ a3 ∧ a3 ≤ 1073741824) ∧ t.size ≤ 16 ∧
  ((a0 = 5 ∧ t.size = 0 ∧ (1 ≤ o ∧ o ≤ 6) ∧ y.size ≤ 32 ∧ v.size ≤ 64 ∧ l.size ≤ 32 ∧ h.size ≤ 32 ∧ (0 ≤ m ∧ m ≤ 1073741824)) ∨
    (¬ a0 = 5 ∧ o = 0 ∧ y.size = 0 ∧ v.size = 0 ∧ l.size = 0 ∧ h.size = 0 ∧ m = 0 ∧ (t.size = 0 ∨ a0 = 4 ∨ a0 = 6)))
instance (a0 a1 a2 a3 : Int) (t : ByteArray) (o : Int) (y v l h : ByteArray) (m : Int) : Decidable (mayQ a0 a1 a2 a3 t o y v l h m) := by
  unfold mayQ
  infer_instance
theorem nil_iff (s : ByteArray) : s.toList = ([] : List UInt8) ↔ s.size = 0 := by
  have h := Go.Proofs.YtlpcidjmaeicoaaDoor.Reader.empty_iff s
  constructor
  · intro e
    rw [e] at h
    exact of_decide_eq_true h.symm
  · intro e
    rw [decide_eq_true e] at h
    exact List.isEmpty_iff.1 h
theorem small_f (x : Int) : wire_num.f x = some (decide (0 ≤ x ∧ x ≤ 1073741824)) := by
  unfold wire_num.f
  by_cases h : x ≥ 0
  · rw [if_pos h]
    congr 1
    exact decide_eq_decide.2 (by omega)
  · rw [if_neg h]
    congr 1
    exact (decide_eq_false (by omega)).symm
theorem bq (a b : Int) : (a == b) = decide (a = b) := rfl
theorem emp5 (o m : Int) (y v l h : ByteArray) : (o == 0 && (y.toList.isEmpty && (v.toList.isEmpty && (l.toList.isEmpty && (h.toList.isEmpty && (m == 0)))))) = decide (o = 0 ∧ y.size = 0 ∧ v.size = 0 ∧ l.size = 0 ∧ h.size = 0 ∧ m = 0) := by
  simp only [Go.Proofs.YtlpcidjmaeicoaaDoor.Reader.empty_iff, Bool.decide_and, bq]
theorem may_j0 (k : Nat) (x : Bool) (a0 a1 a2 a3 : Int) (t : ByteArray) (o : Int) (y v l h : ByteArray) (m : Int) :
    wire_MayReq.j0 (k + 1) x a0 a1 a2 a3 t o y v l h m = some (!x && decide ((a0 = 5 ∧ t.size = 0 ∧ (1 ≤ o ∧ o ≤ 6) ∧ y.size ≤ 32 ∧ v.size ≤ 64 ∧ l.size ≤ 32 ∧ h.size ≤ 32 ∧ (0 ≤ m ∧ m ≤ 1073741824)) ∨
    (¬ a0 = 5 ∧ o = 0 ∧ y.size = 0 ∧ v.size = 0 ∧ l.size = 0 ∧ h.size = 0 ∧ m = 0 ∧ (t.size = 0 ∨ a0 = 4 ∨ a0 = 6)))) := by
  rw [wire_MayReq.j0, small_f, bsm, emp5]
  cases x with
  | true => rfl
  | false =>
    simp only [nil_iff, Bool.false_eq_true, if_false, Bool.not_false, Bool.true_and, decide_eq_true_eq, bq]
    repeat' split
    all_goals
      congr 1
      first
        | exact (decide_eq_true (by omega)).symm
        | exact (decide_eq_false (by omega)).symm
        | exact decide_eq_decide.2 (by omega)
theorem wire_may (k : Nat) (a0 a1 a2 a3 : Int) (t : ByteArray) (o : Int) (y v l h : ByteArray) (m : Int) :
    wire_MayReq.f (k + 1) a0 a1 a2 a3 t o y v l h m = some (decide (mayQ a0 a1 a2 a3 t o y v l h m)) := by
  unfold wire_MayReq.f mayQ
  rw [small_f, small_f, small_f, bsm, bsm, bsm]
  simp only [may_j0, decide_eq_true_eq, Bool.not_true, Bool.false_and]
  repeat' split
  · exact congrArg some (decide_eq_false (by omega)).symm
  · exact congrArg some (decide_eq_false (by omega)).symm
  · rw [← decide_not, ← Bool.decide_and]
    exact congrArg some (decide_eq_decide.2 (by omega))
  · exact congrArg some (decide_eq_false (by omega)).symm
  · exact congrArg some (decide_eq_false (by omega)).symm
  · exact congrArg some (decide_eq_false (by omega)).symm
abbrev Q12 : Type := Int × Int × Int × Int × ByteArray × Int × ByteArray × ByteArray × ByteArray × ByteArray × Int × Int
def zq (e : Int) : Q12 := (0, 0, 0, 0, ⟨#[]⟩, 0, ⟨#[]⟩, ⟨#[]⟩, ⟨#[]⟩, ⟨#[]⟩, 0, e)
def outQ (q : Q12) : Value := .tuple #[.agg #[.int .i64 q.1, .int .i64 q.2.1, .int .i64 q.2.2.1, .int .i64 q.2.2.2.1, .string q.2.2.2.2.1, .int .i64 q.2.2.2.2.2.1, .string q.2.2.2.2.2.2.1, .string q.2.2.2.2.2.2.2.1, .string q.2.2.2.2.2.2.2.2.1, .string q.2.2.2.2.2.2.2.2.2.1, .int .i64 q.2.2.2.2.2.2.2.2.2.2.1], .int .i64 q.2.2.2.2.2.2.2.2.2.2.2]
end Go.Proofs.YtlpcidjmaeicoaaDoor.QWi

/-! Next -/
/- What a number and a text are, and what comes behind. -/
namespace Go.Proofs.YtlpcidjmaeicoaaDoor.Reader
open Go Go.RowKit

/-- A number, a text: what it is, and what comes behind. -/
def nx {α : Type} (x : ByteArray × Bool) (m : Int) (f : Int → ByteArray × Bool → α) : α := f (numR x.1 x.2 m).1 (numR x.1 x.2 m).2
def tx {α : Type} (x : ByteArray × Bool) (m : Int) (f : ByteArray → ByteArray × Bool → α) : α := f (textR x.1 x.2 m).1 (textR x.1 x.2 m).2
theorem nx_of {α : Type} {x : ByteArray × Bool} {m : Int} {v : Int × ByteArray × Bool} (f : Int → ByteArray × Bool → α) (h : numR x.1 x.2 m = v) : nx x m f = f v.1 v.2 := by
  subst h
  rfl
theorem tx_of {α : Type} {x : ByteArray × Bool} {m : Int} {v : ByteArray × ByteArray × Bool} (f : ByteArray → ByteArray × Bool → α) (h : textR x.1 x.2 m = v) : tx x m f = f v.1 v.2 := by
  subst h
  rfl
end Go.Proofs.YtlpcidjmaeicoaaDoor.Reader

/-! TakeReqC -/
/- The contract of wire.TakeReq, in a closed form, as the printed texts call it. -/
namespace Go.Proofs.YtlpcidjmaeicoaaDoor.Reader
open Go Go.RowKit Go.Proofs.YtlpcidjmaeicoaaDoor.DecM Go.Proofs.YtlpcidjmaeicoaaDoor.Giv Go.Proofs.YtlpcidjmaeicoaaDoor.Err Go.Proofs.YtlpcidjmaeicoaaDoorW.PrintWords Go.Proofs.YtlpcidjmaeicoaaDoorW.PrintLast

set_option maxHeartbeats 2000000 in
set_option maxRecDepth 10000 in
theorem take_big (s : ByteArray) (w : World) (hs : 2048 < s.size) :
    Calls Tryd.prog 11 #[.string s] w fun e w' => e = .returned (.tuple #[.agg zeroReq, .int .i64 4]) ∧ Below w.heap.size w w' := by
  have c1 : decide (2048 < (s.size : Int)) = true := decide_eq_true (by omega)
  have B : Below w.heap.size w (w.alloc (.cells #[.int .i64 0, .int .i64 0, .int .i64 0, .int .i64 0, .string ⟨#[]⟩, .int .i64 0, .string ⟨#[]⟩, .string ⟨#[]⟩, .string ⟨#[]⟩, .string ⟨#[]⟩, .int .i64 0] 25)) := (Below.refl w.heap.size w).alloc (Nat.le_refl _) _
  have K : CellsAt (w.alloc (.cells #[.int .i64 0, .int .i64 0, .int .i64 0, .int .i64 0, .string ⟨#[]⟩, .int .i64 0, .string ⟨#[]⟩, .string ⟨#[]⟩, .string ⟨#[]⟩, .string ⟨#[]⟩, .int .i64 0] 25)) w.heap.size [.int .i64 0, .int .i64 0, .int .i64 0, .int .i64 0, .string ⟨#[]⟩, .int .i64 0, .string ⟨#[]⟩, .string ⟨#[]⟩, .string ⟨#[]⟩, .string ⟨#[]⟩, .int .i64 0] := cells_new w #[.int .i64 0, .int .i64 0, .int .i64 0, .int .i64 0, .string ⟨#[]⟩, .int .i64 0, .string ⟨#[]⟩, .string ⟨#[]⟩, .string ⟨#[]⟩, .string ⟨#[]⟩, .int .i64 0] 25
  have HK := Lib.hid K
  have HB := Lib.hid B
  clear hs
  have y0 := K.c 0 (by simp)
  have y1 := K.c 1 (by simp)
  have y2 := K.c 2 (by simp)
  have y3 := K.c 3 (by simp)
  have y4 := K.c 4 (by simp)
  have y5 := K.c 5 (by simp)
  have y6 := K.c 6 (by simp)
  have y7 := K.c 7 (by simp)
  have y8 := K.c 8 (by simp)
  have y9 := K.c 9 (by simp)
  have y10 := K.c 10 (by simp)
  simp only [List.getElem_cons_zero, List.getElem_cons_succ] at y0 y1 y2 y3 y4 y5 y6 y7 y8 y9 y10
  have f0 := K.f 0
  have f1 := K.f 1
  have f2 := K.f 2
  have f3 := K.f 3
  have f4 := K.f 4
  have f5 := K.f 5
  have f6 := K.f 6
  have f7 := K.f 7
  have f8 := K.f 8
  have f9 := K.f 9
  have f10 := K.f 10
  clear K B
  go_enter Tryd.func11, Tryd.ntmps11
  go_wp2
  try simp only [Exit.inBlock, Exit.then]
  have HL := load_req _ _ _ HK.out (.int .i64 0) (.int .i64 0) (.int .i64 0) (.int .i64 0) (.string ⟨#[]⟩) (.int .i64 0) (.string ⟨#[]⟩) (.string ⟨#[]⟩) (.string ⟨#[]⟩) (.string ⟨#[]⟩) (.int .i64 0) rfl
  refine bodyPost_ret (results_cell_tmp Tryd.results11 _ _ _ ⟨w.heap.size, 0, none⟩ _ rfl HL) rfl ?_
  refine ⟨rfl, ?_⟩
  exact HB.out
end Go.Proofs.YtlpcidjmaeicoaaDoor.Reader
namespace Go.Proofs.YtlpcidjmaeicoaaDoor.QWi
open Go Go.RowKit Go.Proofs.YtlpcidjmaeicoaaDoor.Reader

def goodQ (a0 a1 a2 a3 : Int) (t : ByteArray) (o : Int) (y v l h : ByteArray) (m : Int) : Q12 := if mayQ a0 a1 a2 a3 t o y v l h m then (a0, a1, a2, a3, t, o, y, v, l, h, m, 0) else zq 3
def lastQ (x : ByteArray × Bool) (q : Q12) : Q12 := if x.2 = true ∨ ¬ x.1.size = 0 then zq 3 else q
/-- What wire.TakeReq gives. -/
def takeReqF (s : ByteArray) : Q12 :=
  if 2048 < s.size then zq 4 else
  nx (s, false) 6 fun a1 x1 => nx x1 1073741824 fun a2 x2 => nx x2 1073741824 fun a3 x3 => nx x3 1073741824 fun a4 x4 => tx x4 16 fun a5 x5 =>
  if a1 = 5 then nx x5 6 fun a6 x6 => tx x6 32 fun a7 x7 => tx x7 64 fun a8 x8 => tx x8 32 fun a9 x9 => tx x9 32 fun a10 x10 => nx x10 1073741824 fun a11 x11 =>
    lastQ x11 (goodQ a1 a2 a3 a4 a5 a6 a7 a8 a9 a10 a11)
  else lastQ x5 (goodQ a1 a2 a3 a4 a5 0 ⟨#[]⟩ ⟨#[]⟩ ⟨#[]⟩ ⟨#[]⟩ 0)
theorem take_all (s : ByteArray) (w : World) (hg : Handle w) : Calls Tryd.prog 11 #[.string s] w fun e w' => e = .returned (outQ (takeReqF s)) ∧ Below w.heap.size w w' := by
  unfold takeReqF
  by_cases hs : 2048 < s.size
  · rw [if_pos hs]
    exact take_big s w hs
  obtain ⟨v1, h1⟩ : ∃ v, numR s false 6 = v := ⟨_, rfl⟩
  obtain ⟨v2, h2⟩ : ∃ v, numR v1.2.1 v1.2.2 1073741824 = v := ⟨_, rfl⟩
  obtain ⟨v3, h3⟩ : ∃ v, numR v2.2.1 v2.2.2 1073741824 = v := ⟨_, rfl⟩
  obtain ⟨v4, h4⟩ : ∃ v, numR v3.2.1 v3.2.2 1073741824 = v := ⟨_, rfl⟩
  obtain ⟨v5, h5⟩ : ∃ v, textR v4.2.1 v4.2.2 16 = v := ⟨_, rfl⟩
  rw [if_neg hs, nx_of _ h1, nx_of _ h2, nx_of _ h3, nx_of _ h4, tx_of _ h5]
  by_cases hk : v1.1 = 5
  · rw [if_pos hk]
    obtain ⟨v6, h6⟩ : ∃ v, numR v5.2.1 v5.2.2 6 = v := ⟨_, rfl⟩
    obtain ⟨v7, h7⟩ : ∃ v, textR v6.2.1 v6.2.2 32 = v := ⟨_, rfl⟩
    obtain ⟨v8, h8⟩ : ∃ v, textR v7.2.1 v7.2.2 64 = v := ⟨_, rfl⟩
    obtain ⟨v9, h9⟩ : ∃ v, textR v8.2.1 v8.2.2 32 = v := ⟨_, rfl⟩
    obtain ⟨v10, h10⟩ : ∃ v, textR v9.2.1 v9.2.2 32 = v := ⟨_, rfl⟩
    obtain ⟨v11, h11⟩ : ∃ v, numR v10.2.1 v10.2.2 1073741824 = v := ⟨_, rfl⟩
    rw [nx_of _ h6, tx_of _ h7, tx_of _ h8, tx_of _ h9, tx_of _ h10, nx_of _ h11]
    unfold lastQ goodQ
    by_cases hb : v11.2.2 = true ∨ ¬ v11.2.1.size = 0
    · rw [if_pos hb]
      exact take5_bad s w hg (by omega) v1 v2 v3 v4 v5 v6 v7 v8 v9 v10 v11 h1 h2 h3 h4 h5 h6 h7 h8 h9 h10 h11 hk hb
    · rw [if_neg hb]
      refine (take5_good s w hg (by omega) v1 v2 v3 v4 v5 v6 v7 v8 v9 v10 v11 h1 h2 h3 h4 h5 h6 h7 h8 h9 h10 h11 hk hb _ (wire_may 0 ..)).mono ?_
      rintro e w' ⟨rfl, hw⟩
      refine ⟨?_, hw⟩
      by_cases hm : mayQ v1.1 v2.1 v3.1 v4.1 v5.1 v6.1 v7.1 v8.1 v9.1 v10.1 v11.1
      · rw [if_pos hm, if_pos (decide_eq_true hm)]
        rfl
      · rw [if_neg hm, if_neg (fun h => hm (of_decide_eq_true h))]
        rfl
  · rw [if_neg hk]
    unfold lastQ goodQ
    by_cases hb : v5.2.2 = true ∨ ¬ v5.2.1.size = 0
    · rw [if_pos hb]
      exact take_bad s w hg (by omega) v1 v2 v3 v4 v5 h1 h2 h3 h4 h5 hk hb
    · rw [if_neg hb]
      refine (take_good s w hg (by omega) v1 v2 v3 v4 v5 h1 h2 h3 h4 h5 hk hb _ (wire_may 0 ..)).mono ?_
      rintro e w' ⟨rfl, hw⟩
      refine ⟨?_, hw⟩
      by_cases hm : mayQ v1.1 v2.1 v3.1 v4.1 v5.1 0 ⟨#[]⟩ ⟨#[]⟩ ⟨#[]⟩ ⟨#[]⟩ 0
      · rw [if_pos hm, if_pos (decide_eq_true hm)]
        rfl
      · rw [if_neg hm, if_neg (fun h => hm (of_decide_eq_true h))]
        rfl
def wire_TakeReq.f (s : ByteArray) : Option Q12 := some (takeReqF s)
theorem wire_TakeReq.calls (a0 : ByteArray) (r1 r2 r3 r4 : Int) (r5 : ByteArray) (r6 : Int) (r7 r8 r9 r10 : ByteArray) (r11 r12 : Int) (w : World) (h : wire_TakeReq.f a0 = some (r1, r2, r3, r4, r5, r6, r7, r8, r9, r10, r11, r12)) (hg : Handle w) :
    Calls Tryd.prog 11 #[.string a0] w fun e w' => e = .returned (.tuple #[.agg #[.int .i64 r1, .int .i64 r2, .int .i64 r3, .int .i64 r4, .string r5, .int .i64 r6, .string r7, .string r8, .string r9, .string r10, .int .i64 r11], .int .i64 r12]) ∧ Below w.heap.size w w' := by
  have e := Option.some.inj h
  have c := take_all a0 w hg
  rw [e] at c
  exact c
/-- The handle behind a call's beginning. -/
theorem handle_at {w w1 : World} (hg : Handle w) (hb : Below w.heap.size w w1) : Handle w1 := hg.below hb
end Go.Proofs.YtlpcidjmaeicoaaDoor.QWi

/-! QWix3 -/
namespace Go.Proofs.YtlpcidjmaeicoaaDoor.QWi
open Go.RowKit Go.Proofs.YtlpcidjmaeicoaaDoorW.PrintWords Go.Proofs.YtlpcidjmaeicoaaDoorW.PrintLast Go.Proofs.YtlpcidjmaeicoaaDoorW.PrintMore
attribute [local go_sem] max2_int min2_int max_two min_two max_three min_three max_four min_four   -- for this text's walks alone
set_option linter.unusedVariables false
set_option linter.unusedSimpArgs false

theorem eqA74 (d : Nat) (w : World) (x0 y0 : ByteArray) (x1 y1 : ByteArray) :
    (Op.equalIn (d + 2) 74 (.agg #[.string x0, .string x1]) (.agg #[.string y0, .string y1])).run Tryd.prog w = .ok (x0.toList == y0.toList && (x1.toList == y1.toList)) w := by
  refine eqA_of Tryd.underlying74 (by kernel_rfl) ?_
  refine eqf_cons (by rfl) (by go_simp; rfl) (by go_simp; rfl) (by go_simp) ?_
  exact eqf_last (by rfl) (by go_simp; rfl) (by go_simp; rfl) (by go_simp)
end Go.Proofs.YtlpcidjmaeicoaaDoor.QWi

/-! QWix16 -/
namespace Go.Proofs.YtlpcidjmaeicoaaDoor.QWi
open Go.RowKit Go.Proofs.YtlpcidjmaeicoaaDoorW.PrintWords Go.Proofs.YtlpcidjmaeicoaaDoorW.PrintLast Go.Proofs.YtlpcidjmaeicoaaDoorW.PrintMore
attribute [local go_sem] max2_int min2_int max_two min_two max_three min_three max_four min_four   -- for this text's walks alone
set_option linter.unusedVariables false
set_option linter.unusedSimpArgs false

attribute [local go_sem high] eqA74
/-! ### stanchionref05_Same: function 36 -/
def stanchionref05_Same.l0 : Nat → List (S74) → List (S74) → Int → Option (Bool)
  | 0, _, _, _ => none
  | k + 1, x0, x1, x5 => if x5 < (x0.length : Int) then (if 0 ≤ x5 then (if x5 < (x1.length : Int) then (if (!((((rd_T74 x0 x5).f0).toList) == (((rd_T74 x1 x5).f0).toList)) || (!((((rd_T74 x0 x5).f1).toList) == (((rd_T74 x1 x5).f1).toList)))) = true then (some false) else (stanchionref05_Same.l0 k x0 x1 (wrap64 (x5 + 1)))) else (none)) else (none)) else (some true)
def stanchionref05_Same.f (k : Nat) (l0 : List (S74)) (l1 : List (S74)) : Option (Bool) := if (l0.length : Int) = (l1.length : Int) then (stanchionref05_Same.l0 k l0 l1 0) else (some false)
/-! ### stanchionref16_Same: function 19 -/
def stanchionref16_Same.f (k : Nat) (a0_0 : Int) (a0_1 : Int) (a0_2 : Int) (a0_3 : Int) (a0_4 : ByteArray) (a0_5 : Bool) (l0_6 : List (S74)) (a0_7 : Bool) (a1_0 : Int) (a1_1 : Int) (a1_2 : Int) (a1_3 : Int) (a1_4 : ByteArray) (a1_5 : Bool) (l1_6 : List (S74)) (a1_7 : Bool) : Option (Bool) := (stanchionref05_Same.f k l0_6 l1_6).bind fun t208 => (if t208 = true then (if a0_0 = a1_0 then (if a0_1 = a1_1 then (if a0_2 = a1_2 then (if a0_3 = a1_3 then (if a0_4.toList = a1_4.toList then (if (a0_5 == a1_5) = true then (some (a0_7 == a1_7)) else (some false)) else (some false)) else (some false)) else (some false)) else (some false)) else (some false)) else (some false))
/-! ### stanchionref16_takes: function 28 -/
def stanchionref16_takes.f (a0_0 : Int) (a0_1 : ByteArray) (a0_2 : ByteArray) (a0_3 : Bool) : Option (Int × ByteArray × ByteArray × Bool) := (stanchionref01_TakeNum.f a0_2).bind fun bt211 => (if a0_3 = true then (if bt211.2.2 = 0 then (if bt211.1 > 1073741824 then (some (0, (⟨#[]⟩ : ByteArray), (⟨#[]⟩ : ByteArray), false)) else (some (wrap64 (bt211.1), (⟨#[]⟩ : ByteArray), bt211.2.1, true))) else (some (0, (⟨#[]⟩ : ByteArray), (⟨#[]⟩ : ByteArray), false))) else (some (0, (⟨#[]⟩ : ByteArray), (⟨#[]⟩ : ByteArray), false)))
set_option maxHeartbeats 8000000 in
set_option maxRecDepth 100000 in
theorem stanchionref16_takes.calls (a0_0 : Int) (a0_1 : ByteArray) (a0_2 : ByteArray) (a0_3 : Bool) (r1 : Int) (r2 : ByteArray) (r3 : ByteArray) (r4 : Bool) (w : World) (h : stanchionref16_takes.f a0_0 a0_1 a0_2 a0_3 = some (r1, r2, r3, r4)) :
    Calls Tryd.prog 28 #[.agg #[.int .i64 a0_0, .string a0_1, .string a0_2, .bool a0_3]] w fun e w' => e = .returned (.agg #[.int .i64 r1, .string r2, .string r3, .bool r4]) ∧ Below w.heap.size w w' := by
  have hu67 := Tryd.underlying67
  have HB := Aside0.mk (Below.refl w.heap.size w)
  have H : ((stanchionref01_TakeNum.f a0_2).bind fun bt211 => (if a0_3 = true then (if bt211.2.2 = 0 then (if bt211.1 > 1073741824 then (some (0, (⟨#[]⟩ : ByteArray), (⟨#[]⟩ : ByteArray), false)) else (some (wrap64 (bt211.1), (⟨#[]⟩ : ByteArray), bt211.2.1, true))) else (some (0, (⟨#[]⟩ : ByteArray), (⟨#[]⟩ : ByteArray), false))) else (some (0, (⟨#[]⟩ : ByteArray), (⟨#[]⟩ : ByteArray), false)))) = some (r1, r2, r3, r4) := h
  clear h
  replace H := Option.bind_eq_some_iff.mp H
  obtain ⟨⟨t211, t212, t213⟩, A20, H⟩ := H
  replace H : (if a0_3 = true then (if t213 = 0 then (if t211 > 1073741824 then (some (0, (⟨#[]⟩ : ByteArray), (⟨#[]⟩ : ByteArray), false)) else (some (wrap64 (t211), (⟨#[]⟩ : ByteArray), t212, true))) else (some (0, (⟨#[]⟩ : ByteArray), (⟨#[]⟩ : ByteArray), false))) else (some (0, (⟨#[]⟩ : ByteArray), (⟨#[]⟩ : ByteArray), false))) = some (r1, r2, r3, r4) := H
  have A2 := Aside0.mk A20
  clear A20
  by_cases c3 : a0_3 = true
  · subst c3
    have H1 : (if t213 = 0 then (if t211 > 1073741824 then (some (0, (⟨#[]⟩ : ByteArray), (⟨#[]⟩ : ByteArray), false)) else (some (wrap64 (t211), (⟨#[]⟩ : ByteArray), t212, true))) else (some (0, (⟨#[]⟩ : ByteArray), (⟨#[]⟩ : ByteArray), false))) = some (r1, r2, r3, r4) := by rw [if_pos rfl] at H; exact H
    clear H
    have H := H1
    clear H1
    by_cases c4 : t213 = 0
    · rw [if_pos c4] at H
      have c4b0 : (t213 == 0) = true := beq_iff_eq.mpr c4
      have c4b1 : (t213 != 0) = false := bne_eq_false_iff_eq.mpr c4
      clear c4
      by_cases c5 : t211 > 1073741824
      · rw [if_pos c5] at H
        have c5b0 : decide (1073741824 < t211) = true := decide_eq_true c5
        clear c5
        simp only [Option.some.injEq, Prod.mk.injEq] at H
        obtain ⟨rfl, rfl, rfl, rfl⟩ := H
        go_enter Tryd.func28, Tryd.ntmps28
        go_wp2_with (first | ((with_reducible refine gate_dst (N := 1) rfl ?_); refine box_event ?hg (N := 1) ?hd (cs := #[.int .i64 a0_0, .string a0_1, .string a0_2, .bool true]) (t := 67) ?hr ?_; (case hd => rfl); (case hg => rfl); (case hr => first | (go_simp; done) | (go_simp; rfl)); intro gb209 hg w6 hbox hb; have n0_ := Aside0.mk (below_step (by repeat (first | (with_reducible first | exact HB.out | apply below_alloc | apply pw_below_drewN | apply below_drew1) | exact HB.out)) hb); have n1_ := Aside0.mk (hbox); have n2_ := Aside0.mk ((by rw [hg]; exact (below_size (by repeat (first | (with_reducible first | exact HB.out | apply below_alloc | apply pw_below_drewN | apply below_drew1) | exact HB.out))) : w.heap.size ≤ gb209)); have n3_ := Aside0.mk ((by rw [hg]; exact (below_size (by repeat (first | (with_reducible first | exact HB.out | apply below_alloc | apply pw_below_drewN | apply below_drew1) | exact HB.out))) : w.heap.size ≤ gb209)); clear HB; have HB := n0_; have BK209 := n1_; have GW209 := n2_; have GE209 := n3_; clear n0_ n1_ n2_ n3_; clear hb hbox hg) | ((with_reducible refine gate_dst (N := 2) rfl ?_); refine box_event ?hg (N := 2) ?hd (cs := #[.int .i64 0, .string (⟨#[]⟩ : ByteArray), .string (⟨#[]⟩ : ByteArray), .bool false]) (t := 67) ?hr ?_; (case hd => rfl); (case hg => rfl); (case hr => first | (go_simp; done) | (go_simp; rfl)); intro gb210 hg w7 hbox hb; have n0_ := Aside0.mk (blk_below (g := gb209) (o := .cells #[.int .i64 a0_0, .string a0_1, .string a0_2, .bool true] 67 (0, 0)) (by (with_reducible repeat (first | refine blk_drewN ?_ _ | refine blk_drew ?_ | refine blk_alloc ?_ _)); exact BK209.out) hb); have n1_ := Aside0.mk (below_step (by repeat (first | (with_reducible first | exact HB.out | apply below_alloc | apply pw_below_drewN | apply below_drew1 | refine below_set ?_ GE209.out) | exact HB.out)) hb); have n2_ := Aside0.mk (hbox); have n3_ := Aside0.mk ((by rw [hg]; exact (below_size (by repeat (first | (with_reducible first | exact HB.out | apply below_alloc | apply pw_below_drewN | apply below_drew1 | refine below_set ?_ GE209.out) | exact HB.out))) : w.heap.size ≤ gb210)); have n4_ := Aside0.mk ((by rw [hg]; exact (below_size (by repeat (first | (with_reducible first | exact HB.out | apply below_alloc | apply pw_below_drewN | apply below_drew1 | refine below_set ?_ GE209.out) | exact HB.out))) : w.heap.size ≤ gb210)); have n5_ := Aside0.mk ((by rw [hg]; exact Nat.ne_of_lt (blk_lt (g := gb209) (o := .cells #[.int .i64 a0_0, .string a0_1, .string a0_2, .bool true] 67 (0, 0)) (by (with_reducible repeat (first | refine blk_drewN ?_ _ | refine blk_drew ?_ | refine blk_alloc ?_ _)); exact BK209.out)) : gb209 ≠ gb210)); have n6_ := Aside0.mk ((by rw [hg]; exact Nat.ne_of_gt (blk_lt (g := gb209) (o := .cells #[.int .i64 a0_0, .string a0_1, .string a0_2, .bool true] 67 (0, 0)) (by (with_reducible repeat (first | refine blk_drewN ?_ _ | refine blk_drew ?_ | refine blk_alloc ?_ _)); exact BK209.out)) : gb210 ≠ gb209)); clear BK209; clear HB; have BK209 := n0_; have HB := n1_; have BK210 := n2_; have GW210 := n3_; have GE210 := n4_; have NB209_210 := n5_; have NB210_209 := n6_; clear n0_ n1_ n2_ n3_ n4_ n5_ n6_; clear hb hbox hg; have hnb8 := NB209_210.out; have hnc8 := NB210_209.out; have hcz9_0 : w7.cell? ⟨gb209, 0, none⟩ = some (.int .i64 a0_0) := (blk_cell BK209.out 0).trans rfl; have hcz9_1 : w7.cell? ⟨gb209, 1, none⟩ = some (.string a0_1) := (blk_cell BK209.out 1).trans rfl; have hcz9_2 : w7.cell? ⟨gb209, 2, none⟩ = some (.string a0_2) := (blk_cell BK209.out 2).trans rfl; have hcz9_3 : w7.cell? ⟨gb209, 3, none⟩ = some (.bool true) := (blk_cell BK209.out 3).trans rfl; have hfz9_0 := blk_frozen BK209.out 0; have hfz9_1 := blk_frozen BK209.out 1; have hfz9_2 := blk_frozen BK209.out 2; have hfz9_3 := blk_frozen BK209.out 3) | ((with_reducible refine gate_callee (f := 49) rfl ?_); refine goesL_ (some 9) rfl rfl Tryd.func49 (by kernel_rfl) rfl #[.string a0_2] rfl (by (try simp only [List.map_toArray, List.map_cons, List.map_nil]); first | done | rfl | (simp only [List.length_drop, List.length_take]; rfl)) ?_; (with_reducible refine (stanchionref01_TakeNum.calls a0_2 t211 t212 t213 _ A2.out).mono ?_); rintro e w10 ⟨rfl, hb⟩; refine ⟨_, rfl, ?_⟩; have n0_ := Aside0.mk (blk_below (g := gb209) (o := .cells #[.int .i64 a0_0, .string a0_1, .string a0_2, .bool true] 67 (0, 0)) (by (with_reducible repeat (first | refine blk_drewN ?_ _ | refine blk_drew ?_ | refine blk_alloc ?_ _)); exact BK209.out) hb); have n1_ := Aside0.mk (blk_below (g := gb210) (o := .cells #[.int .i64 0, .string (⟨#[]⟩ : ByteArray), .string (⟨#[]⟩ : ByteArray), .bool false] 67 (0, 0)) (by (with_reducible repeat (first | refine blk_drewN ?_ _ | refine blk_drew ?_ | refine blk_alloc ?_ _)); exact BK210.out) hb); have n2_ := Aside0.mk (below_step (by repeat (first | (with_reducible first | exact HB.out | apply below_alloc | apply pw_below_drewN | apply below_drew1 | refine below_set ?_ GE209.out | refine below_set ?_ GE210.out) | exact HB.out)) hb); clear BK209; clear BK210; clear HB; have BK209 := n0_; have BK210 := n1_; have HB := n2_; clear n0_ n1_ n2_; (try clear hb); (try clear hb2); (try clear hk); (try clear hi); have hcz11_0 : w10.cell? ⟨gb209, 0, none⟩ = some (.int .i64 a0_0) := (blk_cell BK209.out 0).trans rfl; have hcz11_1 : w10.cell? ⟨gb209, 1, none⟩ = some (.string a0_1) := (blk_cell BK209.out 1).trans rfl; have hcz11_2 : w10.cell? ⟨gb209, 2, none⟩ = some (.string a0_2) := (blk_cell BK209.out 2).trans rfl; have hcz11_3 : w10.cell? ⟨gb209, 3, none⟩ = some (.bool true) := (blk_cell BK209.out 3).trans rfl; have hfz11_0 := blk_frozen BK209.out 0; have hfz11_1 := blk_frozen BK209.out 1; have hfz11_2 := blk_frozen BK209.out 2; have hfz11_3 := blk_frozen BK209.out 3; have hcz12_0 : w10.cell? ⟨gb210, 0, none⟩ = some (.int .i64 0) := (blk_cell BK210.out 0).trans rfl; have hcz12_1 : w10.cell? ⟨gb210, 1, none⟩ = some (.string (⟨#[]⟩ : ByteArray)) := (blk_cell BK210.out 1).trans rfl; have hcz12_2 : w10.cell? ⟨gb210, 2, none⟩ = some (.string (⟨#[]⟩ : ByteArray)) := (blk_cell BK210.out 2).trans rfl; have hcz12_3 : w10.cell? ⟨gb210, 3, none⟩ = some (.bool false) := (blk_cell BK210.out 3).trans rfl; have hfz12_0 := blk_frozen BK210.out 0; have hfz12_1 := blk_frozen BK210.out 1; have hfz12_2 := blk_frozen BK210.out 2; have hfz12_3 := blk_frozen BK210.out 3))
        refine bodyPost_ret (results_cell_row rfl _ _ gb210 67 #[.int .i64 0, .string (⟨#[]⟩ : ByteArray), .string (⟨#[]⟩ : ByteArray), .bool false] (0, 0) _ rfl (by (with_reducible repeat (first | refine blk_drewN ?_ _ | refine blk_drew ?_ | refine blk_alloc ?_ _)); refine blk_put (cs := #[.int .i64 0, .string (⟨#[]⟩ : ByteArray), .string (⟨#[]⟩ : ByteArray), .bool false]) ?_ 3 _ rfl; (with_reducible repeat (first | refine blk_drewN ?_ _ | refine blk_drew ?_ | refine blk_alloc ?_ _)); refine blk_put (cs := #[.int .i64 0, .string (⟨#[]⟩ : ByteArray), .string (⟨#[]⟩ : ByteArray), .bool false]) ?_ 2 _ rfl; (with_reducible repeat (first | refine blk_drewN ?_ _ | refine blk_drew ?_ | refine blk_alloc ?_ _)); refine blk_put (cs := #[.int .i64 0, .string (⟨#[]⟩ : ByteArray), .string (⟨#[]⟩ : ByteArray), .bool false]) ?_ 1 _ rfl; (with_reducible repeat (first | refine blk_drewN ?_ _ | refine blk_drew ?_ | refine blk_alloc ?_ _)); refine blk_put (cs := #[.int .i64 0, .string (⟨#[]⟩ : ByteArray), .string (⟨#[]⟩ : ByteArray), .bool false]) ?_ 0 _ rfl; (with_reducible repeat (first | refine blk_drewN ?_ _ | refine blk_drew ?_ | refine blk_alloc ?_ _)); exact BK210.out) Tryd.underlying67 rfl (by kernel_rfl)) rfl ?_
        exact ⟨by first | rfl | (simp [errW_none, errW_some] <;> rfl) | (simp [*, errW_none, errW_some] <;> rfl), by repeat (first | (with_reducible first | exact HB.out | apply below_alloc | apply pw_below_drewN | apply below_drew1 | refine below_set ?_ GE209.out | refine below_set ?_ GE210.out) | exact HB.out)⟩
      · rw [if_neg c5] at H
        have c5b0 : decide (1073741824 < t211) = false := decide_eq_false c5
        clear c5
        simp only [Option.some.injEq, Prod.mk.injEq] at H
        obtain ⟨rfl, rfl, rfl, rfl⟩ := H
        go_enter Tryd.func28, Tryd.ntmps28
        go_wp2_with (first | ((with_reducible refine gate_dst (N := 1) rfl ?_); refine box_event ?hg (N := 1) ?hd (cs := #[.int .i64 a0_0, .string a0_1, .string a0_2, .bool true]) (t := 67) ?hr ?_; (case hd => rfl); (case hg => rfl); (case hr => first | (go_simp; done) | (go_simp; rfl)); intro gb209 hg w13 hbox hb; have n0_ := Aside0.mk (below_step (by repeat (first | (with_reducible first | exact HB.out | apply below_alloc | apply pw_below_drewN | apply below_drew1) | exact HB.out)) hb); have n1_ := Aside0.mk (hbox); have n2_ := Aside0.mk ((by rw [hg]; exact (below_size (by repeat (first | (with_reducible first | exact HB.out | apply below_alloc | apply pw_below_drewN | apply below_drew1) | exact HB.out))) : w.heap.size ≤ gb209)); have n3_ := Aside0.mk ((by rw [hg]; exact (below_size (by repeat (first | (with_reducible first | exact HB.out | apply below_alloc | apply pw_below_drewN | apply below_drew1) | exact HB.out))) : w.heap.size ≤ gb209)); clear HB; have HB := n0_; have BK209 := n1_; have GW209 := n2_; have GE209 := n3_; clear n0_ n1_ n2_ n3_; clear hb hbox hg) | ((with_reducible refine gate_dst (N := 2) rfl ?_); refine box_event ?hg (N := 2) ?hd (cs := #[.int .i64 0, .string (⟨#[]⟩ : ByteArray), .string (⟨#[]⟩ : ByteArray), .bool false]) (t := 67) ?hr ?_; (case hd => rfl); (case hg => rfl); (case hr => first | (go_simp; done) | (go_simp; rfl)); intro gb210 hg w14 hbox hb; have n0_ := Aside0.mk (blk_below (g := gb209) (o := .cells #[.int .i64 a0_0, .string a0_1, .string a0_2, .bool true] 67 (0, 0)) (by (with_reducible repeat (first | refine blk_drewN ?_ _ | refine blk_drew ?_ | refine blk_alloc ?_ _)); exact BK209.out) hb); have n1_ := Aside0.mk (below_step (by repeat (first | (with_reducible first | exact HB.out | apply below_alloc | apply pw_below_drewN | apply below_drew1 | refine below_set ?_ GE209.out) | exact HB.out)) hb); have n2_ := Aside0.mk (hbox); have n3_ := Aside0.mk ((by rw [hg]; exact (below_size (by repeat (first | (with_reducible first | exact HB.out | apply below_alloc | apply pw_below_drewN | apply below_drew1 | refine below_set ?_ GE209.out) | exact HB.out))) : w.heap.size ≤ gb210)); have n4_ := Aside0.mk ((by rw [hg]; exact (below_size (by repeat (first | (with_reducible first | exact HB.out | apply below_alloc | apply pw_below_drewN | apply below_drew1 | refine below_set ?_ GE209.out) | exact HB.out))) : w.heap.size ≤ gb210)); have n5_ := Aside0.mk ((by rw [hg]; exact Nat.ne_of_lt (blk_lt (g := gb209) (o := .cells #[.int .i64 a0_0, .string a0_1, .string a0_2, .bool true] 67 (0, 0)) (by (with_reducible repeat (first | refine blk_drewN ?_ _ | refine blk_drew ?_ | refine blk_alloc ?_ _)); exact BK209.out)) : gb209 ≠ gb210)); have n6_ := Aside0.mk ((by rw [hg]; exact Nat.ne_of_gt (blk_lt (g := gb209) (o := .cells #[.int .i64 a0_0, .string a0_1, .string a0_2, .bool true] 67 (0, 0)) (by (with_reducible repeat (first | refine blk_drewN ?_ _ | refine blk_drew ?_ | refine blk_alloc ?_ _)); exact BK209.out)) : gb210 ≠ gb209)); clear BK209; clear HB; have BK209 := n0_; have HB := n1_; have BK210 := n2_; have GW210 := n3_; have GE210 := n4_; have NB209_210 := n5_; have NB210_209 := n6_; clear n0_ n1_ n2_ n3_ n4_ n5_ n6_; clear hb hbox hg; have hnb15 := NB209_210.out; have hnc15 := NB210_209.out; have hcz16_0 : w14.cell? ⟨gb209, 0, none⟩ = some (.int .i64 a0_0) := (blk_cell BK209.out 0).trans rfl; have hcz16_1 : w14.cell? ⟨gb209, 1, none⟩ = some (.string a0_1) := (blk_cell BK209.out 1).trans rfl; have hcz16_2 : w14.cell? ⟨gb209, 2, none⟩ = some (.string a0_2) := (blk_cell BK209.out 2).trans rfl; have hcz16_3 : w14.cell? ⟨gb209, 3, none⟩ = some (.bool true) := (blk_cell BK209.out 3).trans rfl; have hfz16_0 := blk_frozen BK209.out 0; have hfz16_1 := blk_frozen BK209.out 1; have hfz16_2 := blk_frozen BK209.out 2; have hfz16_3 := blk_frozen BK209.out 3) | ((with_reducible refine gate_callee (f := 49) rfl ?_); refine goesL_ (some 9) rfl rfl Tryd.func49 (by kernel_rfl) rfl #[.string a0_2] rfl (by (try simp only [List.map_toArray, List.map_cons, List.map_nil]); first | done | rfl | (simp only [List.length_drop, List.length_take]; rfl)) ?_; (with_reducible refine (stanchionref01_TakeNum.calls a0_2 t211 t212 t213 _ A2.out).mono ?_); rintro e w17 ⟨rfl, hb⟩; refine ⟨_, rfl, ?_⟩; have n0_ := Aside0.mk (blk_below (g := gb209) (o := .cells #[.int .i64 a0_0, .string a0_1, .string a0_2, .bool true] 67 (0, 0)) (by (with_reducible repeat (first | refine blk_drewN ?_ _ | refine blk_drew ?_ | refine blk_alloc ?_ _)); exact BK209.out) hb); have n1_ := Aside0.mk (blk_below (g := gb210) (o := .cells #[.int .i64 0, .string (⟨#[]⟩ : ByteArray), .string (⟨#[]⟩ : ByteArray), .bool false] 67 (0, 0)) (by (with_reducible repeat (first | refine blk_drewN ?_ _ | refine blk_drew ?_ | refine blk_alloc ?_ _)); exact BK210.out) hb); have n2_ := Aside0.mk (below_step (by repeat (first | (with_reducible first | exact HB.out | apply below_alloc | apply pw_below_drewN | apply below_drew1 | refine below_set ?_ GE209.out | refine below_set ?_ GE210.out) | exact HB.out)) hb); clear BK209; clear BK210; clear HB; have BK209 := n0_; have BK210 := n1_; have HB := n2_; clear n0_ n1_ n2_; (try clear hb); (try clear hb2); (try clear hk); (try clear hi); have hcz18_0 : w17.cell? ⟨gb209, 0, none⟩ = some (.int .i64 a0_0) := (blk_cell BK209.out 0).trans rfl; have hcz18_1 : w17.cell? ⟨gb209, 1, none⟩ = some (.string a0_1) := (blk_cell BK209.out 1).trans rfl; have hcz18_2 : w17.cell? ⟨gb209, 2, none⟩ = some (.string a0_2) := (blk_cell BK209.out 2).trans rfl; have hcz18_3 : w17.cell? ⟨gb209, 3, none⟩ = some (.bool true) := (blk_cell BK209.out 3).trans rfl; have hfz18_0 := blk_frozen BK209.out 0; have hfz18_1 := blk_frozen BK209.out 1; have hfz18_2 := blk_frozen BK209.out 2; have hfz18_3 := blk_frozen BK209.out 3; have hcz19_0 : w17.cell? ⟨gb210, 0, none⟩ = some (.int .i64 0) := (blk_cell BK210.out 0).trans rfl; have hcz19_1 : w17.cell? ⟨gb210, 1, none⟩ = some (.string (⟨#[]⟩ : ByteArray)) := (blk_cell BK210.out 1).trans rfl; have hcz19_2 : w17.cell? ⟨gb210, 2, none⟩ = some (.string (⟨#[]⟩ : ByteArray)) := (blk_cell BK210.out 2).trans rfl; have hcz19_3 : w17.cell? ⟨gb210, 3, none⟩ = some (.bool false) := (blk_cell BK210.out 3).trans rfl; have hfz19_0 := blk_frozen BK210.out 0; have hfz19_1 := blk_frozen BK210.out 1; have hfz19_2 := blk_frozen BK210.out 2; have hfz19_3 := blk_frozen BK210.out 3))
        refine bodyPost_ret (results_cell_row rfl _ _ gb210 67 #[.int .i64 (wrap64 (t211)), .string (⟨#[]⟩ : ByteArray), .string t212, .bool true] (0, 0) _ rfl (by (with_reducible repeat (first | refine blk_drewN ?_ _ | refine blk_drew ?_ | refine blk_alloc ?_ _)); refine blk_put (cs := #[.int .i64 (wrap64 (t211)), .string (⟨#[]⟩ : ByteArray), .string t212, .bool false]) ?_ 3 _ rfl; (with_reducible repeat (first | refine blk_drewN ?_ _ | refine blk_drew ?_ | refine blk_alloc ?_ _)); refine blk_put (cs := #[.int .i64 (wrap64 (t211)), .string (⟨#[]⟩ : ByteArray), .string (⟨#[]⟩ : ByteArray), .bool false]) ?_ 2 _ rfl; (with_reducible repeat (first | refine blk_drewN ?_ _ | refine blk_drew ?_ | refine blk_alloc ?_ _)); refine blk_put (cs := #[.int .i64 (wrap64 (t211)), .string (⟨#[]⟩ : ByteArray), .string (⟨#[]⟩ : ByteArray), .bool false]) ?_ 1 _ rfl; (with_reducible repeat (first | refine blk_drewN ?_ _ | refine blk_drew ?_ | refine blk_alloc ?_ _)); refine blk_put (cs := #[.int .i64 0, .string (⟨#[]⟩ : ByteArray), .string (⟨#[]⟩ : ByteArray), .bool false]) ?_ 0 _ rfl; (with_reducible repeat (first | refine blk_drewN ?_ _ | refine blk_drew ?_ | refine blk_alloc ?_ _)); exact BK210.out) Tryd.underlying67 rfl (by kernel_rfl)) rfl ?_
        exact ⟨by first | rfl | (simp [errW_none, errW_some] <;> rfl) | (simp [*, errW_none, errW_some] <;> rfl), by repeat (first | (with_reducible first | exact HB.out | apply below_alloc | apply pw_below_drewN | apply below_drew1 | refine below_set ?_ GE209.out | refine below_set ?_ GE210.out) | exact HB.out)⟩
    · rw [if_neg c4] at H
      have c4b0 : (t213 == 0) = false := beq_eq_false_iff_ne.mpr c4
      have c4b1 : (t213 != 0) = true := bne_iff_ne.mpr c4
      simp only [Option.some.injEq, Prod.mk.injEq] at H
      obtain ⟨rfl, rfl, rfl, rfl⟩ := H
      go_enter Tryd.func28, Tryd.ntmps28
      go_wp2_with (first | ((with_reducible refine gate_dst (N := 1) rfl ?_); refine box_event ?hg (N := 1) ?hd (cs := #[.int .i64 a0_0, .string a0_1, .string a0_2, .bool true]) (t := 67) ?hr ?_; (case hd => rfl); (case hg => rfl); (case hr => first | (go_simp; done) | (go_simp; rfl)); intro gb209 hg w20 hbox hb; have n0_ := Aside0.mk (below_step (by repeat (first | (with_reducible first | exact HB.out | apply below_alloc | apply pw_below_drewN | apply below_drew1) | exact HB.out)) hb); have n1_ := Aside0.mk (hbox); have n2_ := Aside0.mk ((by rw [hg]; exact (below_size (by repeat (first | (with_reducible first | exact HB.out | apply below_alloc | apply pw_below_drewN | apply below_drew1) | exact HB.out))) : w.heap.size ≤ gb209)); have n3_ := Aside0.mk ((by rw [hg]; exact (below_size (by repeat (first | (with_reducible first | exact HB.out | apply below_alloc | apply pw_below_drewN | apply below_drew1) | exact HB.out))) : w.heap.size ≤ gb209)); clear HB; have HB := n0_; have BK209 := n1_; have GW209 := n2_; have GE209 := n3_; clear n0_ n1_ n2_ n3_; clear hb hbox hg) | ((with_reducible refine gate_dst (N := 2) rfl ?_); refine box_event ?hg (N := 2) ?hd (cs := #[.int .i64 0, .string (⟨#[]⟩ : ByteArray), .string (⟨#[]⟩ : ByteArray), .bool false]) (t := 67) ?hr ?_; (case hd => rfl); (case hg => rfl); (case hr => first | (go_simp; done) | (go_simp; rfl)); intro gb210 hg w21 hbox hb; have n0_ := Aside0.mk (blk_below (g := gb209) (o := .cells #[.int .i64 a0_0, .string a0_1, .string a0_2, .bool true] 67 (0, 0)) (by (with_reducible repeat (first | refine blk_drewN ?_ _ | refine blk_drew ?_ | refine blk_alloc ?_ _)); exact BK209.out) hb); have n1_ := Aside0.mk (below_step (by repeat (first | (with_reducible first | exact HB.out | apply below_alloc | apply pw_below_drewN | apply below_drew1 | refine below_set ?_ GE209.out) | exact HB.out)) hb); have n2_ := Aside0.mk (hbox); have n3_ := Aside0.mk ((by rw [hg]; exact (below_size (by repeat (first | (with_reducible first | exact HB.out | apply below_alloc | apply pw_below_drewN | apply below_drew1 | refine below_set ?_ GE209.out) | exact HB.out))) : w.heap.size ≤ gb210)); have n4_ := Aside0.mk ((by rw [hg]; exact (below_size (by repeat (first | (with_reducible first | exact HB.out | apply below_alloc | apply pw_below_drewN | apply below_drew1 | refine below_set ?_ GE209.out) | exact HB.out))) : w.heap.size ≤ gb210)); have n5_ := Aside0.mk ((by rw [hg]; exact Nat.ne_of_lt (blk_lt (g := gb209) (o := .cells #[.int .i64 a0_0, .string a0_1, .string a0_2, .bool true] 67 (0, 0)) (by (with_reducible repeat (first | refine blk_drewN ?_ _ | refine blk_drew ?_ | refine blk_alloc ?_ _)); exact BK209.out)) : gb209 ≠ gb210)); have n6_ := Aside0.mk ((by rw [hg]; exact Nat.ne_of_gt (blk_lt (g := gb209) (o := .cells #[.int .i64 a0_0, .string a0_1, .string a0_2, .bool true] 67 (0, 0)) (by (with_reducible repeat (first | refine blk_drewN ?_ _ | refine blk_drew ?_ | refine blk_alloc ?_ _)); exact BK209.out)) : gb210 ≠ gb209)); clear BK209; clear HB; have BK209 := n0_; have HB := n1_; have BK210 := n2_; have GW210 := n3_; have GE210 := n4_; have NB209_210 := n5_; have NB210_209 := n6_; clear n0_ n1_ n2_ n3_ n4_ n5_ n6_; clear hb hbox hg; have hnb22 := NB209_210.out; have hnc22 := NB210_209.out; have hcz23_0 : w21.cell? ⟨gb209, 0, none⟩ = some (.int .i64 a0_0) := (blk_cell BK209.out 0).trans rfl; have hcz23_1 : w21.cell? ⟨gb209, 1, none⟩ = some (.string a0_1) := (blk_cell BK209.out 1).trans rfl; have hcz23_2 : w21.cell? ⟨gb209, 2, none⟩ = some (.string a0_2) := (blk_cell BK209.out 2).trans rfl; have hcz23_3 : w21.cell? ⟨gb209, 3, none⟩ = some (.bool true) := (blk_cell BK209.out 3).trans rfl; have hfz23_0 := blk_frozen BK209.out 0; have hfz23_1 := blk_frozen BK209.out 1; have hfz23_2 := blk_frozen BK209.out 2; have hfz23_3 := blk_frozen BK209.out 3) | ((with_reducible refine gate_callee (f := 49) rfl ?_); refine goesL_ (some 9) rfl rfl Tryd.func49 (by kernel_rfl) rfl #[.string a0_2] rfl (by (try simp only [List.map_toArray, List.map_cons, List.map_nil]); first | done | rfl | (simp only [List.length_drop, List.length_take]; rfl)) ?_; (with_reducible refine (stanchionref01_TakeNum.calls a0_2 t211 t212 t213 _ A2.out).mono ?_); rintro e w24 ⟨rfl, hb⟩; refine ⟨_, rfl, ?_⟩; have n0_ := Aside0.mk (blk_below (g := gb209) (o := .cells #[.int .i64 a0_0, .string a0_1, .string a0_2, .bool true] 67 (0, 0)) (by (with_reducible repeat (first | refine blk_drewN ?_ _ | refine blk_drew ?_ | refine blk_alloc ?_ _)); exact BK209.out) hb); have n1_ := Aside0.mk (blk_below (g := gb210) (o := .cells #[.int .i64 0, .string (⟨#[]⟩ : ByteArray), .string (⟨#[]⟩ : ByteArray), .bool false] 67 (0, 0)) (by (with_reducible repeat (first | refine blk_drewN ?_ _ | refine blk_drew ?_ | refine blk_alloc ?_ _)); exact BK210.out) hb); have n2_ := Aside0.mk (below_step (by repeat (first | (with_reducible first | exact HB.out | apply below_alloc | apply pw_below_drewN | apply below_drew1 | refine below_set ?_ GE209.out | refine below_set ?_ GE210.out) | exact HB.out)) hb); clear BK209; clear BK210; clear HB; have BK209 := n0_; have BK210 := n1_; have HB := n2_; clear n0_ n1_ n2_; (try clear hb); (try clear hb2); (try clear hk); (try clear hi); have hcz25_0 : w24.cell? ⟨gb209, 0, none⟩ = some (.int .i64 a0_0) := (blk_cell BK209.out 0).trans rfl; have hcz25_1 : w24.cell? ⟨gb209, 1, none⟩ = some (.string a0_1) := (blk_cell BK209.out 1).trans rfl; have hcz25_2 : w24.cell? ⟨gb209, 2, none⟩ = some (.string a0_2) := (blk_cell BK209.out 2).trans rfl; have hcz25_3 : w24.cell? ⟨gb209, 3, none⟩ = some (.bool true) := (blk_cell BK209.out 3).trans rfl; have hfz25_0 := blk_frozen BK209.out 0; have hfz25_1 := blk_frozen BK209.out 1; have hfz25_2 := blk_frozen BK209.out 2; have hfz25_3 := blk_frozen BK209.out 3; have hcz26_0 : w24.cell? ⟨gb210, 0, none⟩ = some (.int .i64 0) := (blk_cell BK210.out 0).trans rfl; have hcz26_1 : w24.cell? ⟨gb210, 1, none⟩ = some (.string (⟨#[]⟩ : ByteArray)) := (blk_cell BK210.out 1).trans rfl; have hcz26_2 : w24.cell? ⟨gb210, 2, none⟩ = some (.string (⟨#[]⟩ : ByteArray)) := (blk_cell BK210.out 2).trans rfl; have hcz26_3 : w24.cell? ⟨gb210, 3, none⟩ = some (.bool false) := (blk_cell BK210.out 3).trans rfl; have hfz26_0 := blk_frozen BK210.out 0; have hfz26_1 := blk_frozen BK210.out 1; have hfz26_2 := blk_frozen BK210.out 2; have hfz26_3 := blk_frozen BK210.out 3))
      refine bodyPost_ret (results_cell_row rfl _ _ gb210 67 #[.int .i64 0, .string (⟨#[]⟩ : ByteArray), .string (⟨#[]⟩ : ByteArray), .bool false] (0, 0) _ rfl (by (with_reducible repeat (first | refine blk_drewN ?_ _ | refine blk_drew ?_ | refine blk_alloc ?_ _)); refine blk_put (cs := #[.int .i64 0, .string (⟨#[]⟩ : ByteArray), .string (⟨#[]⟩ : ByteArray), .bool false]) ?_ 3 _ rfl; (with_reducible repeat (first | refine blk_drewN ?_ _ | refine blk_drew ?_ | refine blk_alloc ?_ _)); refine blk_put (cs := #[.int .i64 0, .string (⟨#[]⟩ : ByteArray), .string (⟨#[]⟩ : ByteArray), .bool false]) ?_ 2 _ rfl; (with_reducible repeat (first | refine blk_drewN ?_ _ | refine blk_drew ?_ | refine blk_alloc ?_ _)); refine blk_put (cs := #[.int .i64 0, .string (⟨#[]⟩ : ByteArray), .string (⟨#[]⟩ : ByteArray), .bool false]) ?_ 1 _ rfl; (with_reducible repeat (first | refine blk_drewN ?_ _ | refine blk_drew ?_ | refine blk_alloc ?_ _)); refine blk_put (cs := #[.int .i64 0, .string (⟨#[]⟩ : ByteArray), .string (⟨#[]⟩ : ByteArray), .bool false]) ?_ 0 _ rfl; (with_reducible repeat (first | refine blk_drewN ?_ _ | refine blk_drew ?_ | refine blk_alloc ?_ _)); exact BK210.out) Tryd.underlying67 rfl (by kernel_rfl)) rfl ?_
      exact ⟨by first | rfl | (simp [errW_none, errW_some] <;> rfl) | (simp [*, errW_none, errW_some] <;> rfl), by repeat (first | (with_reducible first | exact HB.out | apply below_alloc | apply pw_below_drewN | apply below_drew1 | refine below_set ?_ GE209.out | refine below_set ?_ GE210.out) | exact HB.out)⟩
  · replace c3 := Bool.eq_false_iff.mpr c3
    subst c3
    have H1 : (some (0, (⟨#[]⟩ : ByteArray), (⟨#[]⟩ : ByteArray), false)) = some (r1, r2, r3, r4) := by rw [if_neg (show ¬ (false = true) by decide)] at H; exact H
    clear H
    have H := H1
    clear H1
    simp only [Option.some.injEq, Prod.mk.injEq] at H
    obtain ⟨rfl, rfl, rfl, rfl⟩ := H
    go_enter Tryd.func28, Tryd.ntmps28
    go_wp2_with (first | ((with_reducible refine gate_dst (N := 1) rfl ?_); refine box_event ?hg (N := 1) ?hd (cs := #[.int .i64 a0_0, .string a0_1, .string a0_2, .bool false]) (t := 67) ?hr ?_; (case hd => rfl); (case hg => rfl); (case hr => first | (go_simp; done) | (go_simp; rfl)); intro gb209 hg w27 hbox hb; have n0_ := Aside0.mk (below_step (by repeat (first | (with_reducible first | exact HB.out | apply below_alloc | apply pw_below_drewN | apply below_drew1) | exact HB.out)) hb); have n1_ := Aside0.mk (hbox); have n2_ := Aside0.mk ((by rw [hg]; exact (below_size (by repeat (first | (with_reducible first | exact HB.out | apply below_alloc | apply pw_below_drewN | apply below_drew1) | exact HB.out))) : w.heap.size ≤ gb209)); have n3_ := Aside0.mk ((by rw [hg]; exact (below_size (by repeat (first | (with_reducible first | exact HB.out | apply below_alloc | apply pw_below_drewN | apply below_drew1) | exact HB.out))) : w.heap.size ≤ gb209)); clear HB; have HB := n0_; have BK209 := n1_; have GW209 := n2_; have GE209 := n3_; clear n0_ n1_ n2_ n3_; clear hb hbox hg) | ((with_reducible refine gate_dst (N := 2) rfl ?_); refine box_event ?hg (N := 2) ?hd (cs := #[.int .i64 0, .string (⟨#[]⟩ : ByteArray), .string (⟨#[]⟩ : ByteArray), .bool false]) (t := 67) ?hr ?_; (case hd => rfl); (case hg => rfl); (case hr => first | (go_simp; done) | (go_simp; rfl)); intro gb210 hg w28 hbox hb; have n0_ := Aside0.mk (blk_below (g := gb209) (o := .cells #[.int .i64 a0_0, .string a0_1, .string a0_2, .bool false] 67 (0, 0)) (by (with_reducible repeat (first | refine blk_drewN ?_ _ | refine blk_drew ?_ | refine blk_alloc ?_ _)); exact BK209.out) hb); have n1_ := Aside0.mk (below_step (by repeat (first | (with_reducible first | exact HB.out | apply below_alloc | apply pw_below_drewN | apply below_drew1 | refine below_set ?_ GE209.out) | exact HB.out)) hb); have n2_ := Aside0.mk (hbox); have n3_ := Aside0.mk ((by rw [hg]; exact (below_size (by repeat (first | (with_reducible first | exact HB.out | apply below_alloc | apply pw_below_drewN | apply below_drew1 | refine below_set ?_ GE209.out) | exact HB.out))) : w.heap.size ≤ gb210)); have n4_ := Aside0.mk ((by rw [hg]; exact (below_size (by repeat (first | (with_reducible first | exact HB.out | apply below_alloc | apply pw_below_drewN | apply below_drew1 | refine below_set ?_ GE209.out) | exact HB.out))) : w.heap.size ≤ gb210)); have n5_ := Aside0.mk ((by rw [hg]; exact Nat.ne_of_lt (blk_lt (g := gb209) (o := .cells #[.int .i64 a0_0, .string a0_1, .string a0_2, .bool false] 67 (0, 0)) (by (with_reducible repeat (first | refine blk_drewN ?_ _ | refine blk_drew ?_ | refine blk_alloc ?_ _)); exact BK209.out)) : gb209 ≠ gb210)); have n6_ := Aside0.mk ((by rw [hg]; exact Nat.ne_of_gt (blk_lt (g := gb209) (o := .cells #[.int .i64 a0_0, .string a0_1, .string a0_2, .bool false] 67 (0, 0)) (by (with_reducible repeat (first | refine blk_drewN ?_ _ | refine blk_drew ?_ | refine blk_alloc ?_ _)); exact BK209.out)) : gb210 ≠ gb209)); clear BK209; clear HB; have BK209 := n0_; have HB := n1_; have BK210 := n2_; have GW210 := n3_; have GE210 := n4_; have NB209_210 := n5_; have NB210_209 := n6_; clear n0_ n1_ n2_ n3_ n4_ n5_ n6_; clear hb hbox hg; have hnb29 := NB209_210.out; have hnc29 := NB210_209.out; have hcz30_0 : w28.cell? ⟨gb209, 0, none⟩ = some (.int .i64 a0_0) := (blk_cell BK209.out 0).trans rfl; have hcz30_1 : w28.cell? ⟨gb209, 1, none⟩ = some (.string a0_1) := (blk_cell BK209.out 1).trans rfl; have hcz30_2 : w28.cell? ⟨gb209, 2, none⟩ = some (.string a0_2) := (blk_cell BK209.out 2).trans rfl; have hcz30_3 : w28.cell? ⟨gb209, 3, none⟩ = some (.bool false) := (blk_cell BK209.out 3).trans rfl; have hfz30_0 := blk_frozen BK209.out 0; have hfz30_1 := blk_frozen BK209.out 1; have hfz30_2 := blk_frozen BK209.out 2; have hfz30_3 := blk_frozen BK209.out 3) | ((with_reducible refine gate_callee (f := 49) rfl ?_); refine goesL_ (some 9) rfl rfl Tryd.func49 (by kernel_rfl) rfl #[.string a0_2] rfl (by (try simp only [List.map_toArray, List.map_cons, List.map_nil]); first | done | rfl | (simp only [List.length_drop, List.length_take]; rfl)) ?_; (with_reducible refine (stanchionref01_TakeNum.calls a0_2 t211 t212 t213 _ A2.out).mono ?_); rintro e w31 ⟨rfl, hb⟩; refine ⟨_, rfl, ?_⟩; have n0_ := Aside0.mk (blk_below (g := gb209) (o := .cells #[.int .i64 a0_0, .string a0_1, .string a0_2, .bool false] 67 (0, 0)) (by (with_reducible repeat (first | refine blk_drewN ?_ _ | refine blk_drew ?_ | refine blk_alloc ?_ _)); exact BK209.out) hb); have n1_ := Aside0.mk (blk_below (g := gb210) (o := .cells #[.int .i64 0, .string (⟨#[]⟩ : ByteArray), .string (⟨#[]⟩ : ByteArray), .bool false] 67 (0, 0)) (by (with_reducible repeat (first | refine blk_drewN ?_ _ | refine blk_drew ?_ | refine blk_alloc ?_ _)); exact BK210.out) hb); have n2_ := Aside0.mk (below_step (by repeat (first | (with_reducible first | exact HB.out | apply below_alloc | apply pw_below_drewN | apply below_drew1 | refine below_set ?_ GE209.out | refine below_set ?_ GE210.out) | exact HB.out)) hb); clear BK209; clear BK210; clear HB; have BK209 := n0_; have BK210 := n1_; have HB := n2_; clear n0_ n1_ n2_; (try clear hb); (try clear hb2); (try clear hk); (try clear hi); have hcz32_0 : w31.cell? ⟨gb209, 0, none⟩ = some (.int .i64 a0_0) := (blk_cell BK209.out 0).trans rfl; have hcz32_1 : w31.cell? ⟨gb209, 1, none⟩ = some (.string a0_1) := (blk_cell BK209.out 1).trans rfl; have hcz32_2 : w31.cell? ⟨gb209, 2, none⟩ = some (.string a0_2) := (blk_cell BK209.out 2).trans rfl; have hcz32_3 : w31.cell? ⟨gb209, 3, none⟩ = some (.bool false) := (blk_cell BK209.out 3).trans rfl; have hfz32_0 := blk_frozen BK209.out 0; have hfz32_1 := blk_frozen BK209.out 1; have hfz32_2 := blk_frozen BK209.out 2; have hfz32_3 := blk_frozen BK209.out 3; have hcz33_0 : w31.cell? ⟨gb210, 0, none⟩ = some (.int .i64 0) := (blk_cell BK210.out 0).trans rfl; have hcz33_1 : w31.cell? ⟨gb210, 1, none⟩ = some (.string (⟨#[]⟩ : ByteArray)) := (blk_cell BK210.out 1).trans rfl; have hcz33_2 : w31.cell? ⟨gb210, 2, none⟩ = some (.string (⟨#[]⟩ : ByteArray)) := (blk_cell BK210.out 2).trans rfl; have hcz33_3 : w31.cell? ⟨gb210, 3, none⟩ = some (.bool false) := (blk_cell BK210.out 3).trans rfl; have hfz33_0 := blk_frozen BK210.out 0; have hfz33_1 := blk_frozen BK210.out 1; have hfz33_2 := blk_frozen BK210.out 2; have hfz33_3 := blk_frozen BK210.out 3))
    refine bodyPost_ret (results_cell_row rfl _ _ gb210 67 #[.int .i64 0, .string (⟨#[]⟩ : ByteArray), .string (⟨#[]⟩ : ByteArray), .bool false] (0, 0) _ rfl (by (with_reducible repeat (first | refine blk_drewN ?_ _ | refine blk_drew ?_ | refine blk_alloc ?_ _)); refine blk_put (cs := #[.int .i64 0, .string (⟨#[]⟩ : ByteArray), .string (⟨#[]⟩ : ByteArray), .bool false]) ?_ 3 _ rfl; (with_reducible repeat (first | refine blk_drewN ?_ _ | refine blk_drew ?_ | refine blk_alloc ?_ _)); refine blk_put (cs := #[.int .i64 0, .string (⟨#[]⟩ : ByteArray), .string (⟨#[]⟩ : ByteArray), .bool false]) ?_ 2 _ rfl; (with_reducible repeat (first | refine blk_drewN ?_ _ | refine blk_drew ?_ | refine blk_alloc ?_ _)); refine blk_put (cs := #[.int .i64 0, .string (⟨#[]⟩ : ByteArray), .string (⟨#[]⟩ : ByteArray), .bool false]) ?_ 1 _ rfl; (with_reducible repeat (first | refine blk_drewN ?_ _ | refine blk_drew ?_ | refine blk_alloc ?_ _)); refine blk_put (cs := #[.int .i64 0, .string (⟨#[]⟩ : ByteArray), .string (⟨#[]⟩ : ByteArray), .bool false]) ?_ 0 _ rfl; (with_reducible repeat (first | refine blk_drewN ?_ _ | refine blk_drew ?_ | refine blk_alloc ?_ _)); exact BK210.out) Tryd.underlying67 rfl (by kernel_rfl)) rfl ?_
    exact ⟨by first | rfl | (simp [errW_none, errW_some] <;> rfl) | (simp [*, errW_none, errW_some] <;> rfl), by repeat (first | (with_reducible first | exact HB.out | apply below_alloc | apply pw_below_drewN | apply below_drew1 | refine below_set ?_ GE209.out | refine below_set ?_ GE210.out) | exact HB.out)⟩

/-! ### stanchionref16_reads: function 29 -/
def stanchionref16_reads.f (a0_0 : Int) (a0_1 : ByteArray) (a0_2 : ByteArray) (a0_3 : Bool) (a1 : Int) : Option (Int × ByteArray × ByteArray × Bool) := (stanchionref01_TakeText.f a0_2 a1).bind fun bt216 => (if a0_3 = true then (if bt216.2.2 = 0 then (some (0, bt216.1, bt216.2.1, true)) else (some (0, (⟨#[]⟩ : ByteArray), (⟨#[]⟩ : ByteArray), false))) else (some (0, (⟨#[]⟩ : ByteArray), (⟨#[]⟩ : ByteArray), false)))
set_option maxHeartbeats 8000000 in
set_option maxRecDepth 100000 in
theorem stanchionref16_reads.calls (a0_0 : Int) (a0_1 : ByteArray) (a0_2 : ByteArray) (a0_3 : Bool) (a1 : Int) (r1 : Int) (r2 : ByteArray) (r3 : ByteArray) (r4 : Bool) (w : World) (h : stanchionref16_reads.f a0_0 a0_1 a0_2 a0_3 a1 = some (r1, r2, r3, r4)) :
    Calls Tryd.prog 29 #[.agg #[.int .i64 a0_0, .string a0_1, .string a0_2, .bool a0_3], .int .i64 a1] w fun e w' => e = .returned (.agg #[.int .i64 r1, .string r2, .string r3, .bool r4]) ∧ Below w.heap.size w w' := by
  have hu67 := Tryd.underlying67
  have HB := Aside0.mk (Below.refl w.heap.size w)
  have H : ((stanchionref01_TakeText.f a0_2 a1).bind fun bt216 => (if a0_3 = true then (if bt216.2.2 = 0 then (some (0, bt216.1, bt216.2.1, true)) else (some (0, (⟨#[]⟩ : ByteArray), (⟨#[]⟩ : ByteArray), false))) else (some (0, (⟨#[]⟩ : ByteArray), (⟨#[]⟩ : ByteArray), false)))) = some (r1, r2, r3, r4) := h
  clear h
  replace H := Option.bind_eq_some_iff.mp H
  obtain ⟨⟨t216, t217, t218⟩, A30, H⟩ := H
  replace H : (if a0_3 = true then (if t218 = 0 then (some (0, t216, t217, true)) else (some (0, (⟨#[]⟩ : ByteArray), (⟨#[]⟩ : ByteArray), false))) else (some (0, (⟨#[]⟩ : ByteArray), (⟨#[]⟩ : ByteArray), false))) = some (r1, r2, r3, r4) := H
  have A3 := Aside0.mk A30
  clear A30
  by_cases c4 : a0_3 = true
  · subst c4
    have H1 : (if t218 = 0 then (some (0, t216, t217, true)) else (some (0, (⟨#[]⟩ : ByteArray), (⟨#[]⟩ : ByteArray), false))) = some (r1, r2, r3, r4) := by rw [if_pos rfl] at H; exact H
    clear H
    have H := H1
    clear H1
    by_cases c5 : t218 = 0
    · rw [if_pos c5] at H
      have c5b0 : (t218 == 0) = true := beq_iff_eq.mpr c5
      have c5b1 : (t218 != 0) = false := bne_eq_false_iff_eq.mpr c5
      clear c5
      simp only [Option.some.injEq, Prod.mk.injEq] at H
      obtain ⟨rfl, rfl, rfl, rfl⟩ := H
      go_enter Tryd.func29, Tryd.ntmps29
      go_wp2_with (first | ((with_reducible refine gate_dst (N := 2) rfl ?_); refine box_event ?hg (N := 2) ?hd (cs := #[.int .i64 a0_0, .string a0_1, .string a0_2, .bool true]) (t := 67) ?hr ?_; (case hd => rfl); (case hg => rfl); (case hr => first | (go_simp; done) | (go_simp; rfl)); intro gb214 hg w6 hbox hb; have n0_ := Aside0.mk (below_step (by repeat (first | (with_reducible first | exact HB.out | apply below_alloc | apply pw_below_drewN | apply below_drew1) | exact HB.out)) hb); have n1_ := Aside0.mk (hbox); have n2_ := Aside0.mk ((by rw [hg]; exact (below_size (by repeat (first | (with_reducible first | exact HB.out | apply below_alloc | apply pw_below_drewN | apply below_drew1) | exact HB.out))) : w.heap.size ≤ gb214)); have n3_ := Aside0.mk ((by rw [hg]; exact (below_size (by repeat (first | (with_reducible first | exact HB.out | apply below_alloc | apply pw_below_drewN | apply below_drew1) | exact HB.out))) : w.heap.size ≤ gb214)); clear HB; have HB := n0_; have BK214 := n1_; have GW214 := n2_; have GE214 := n3_; clear n0_ n1_ n2_ n3_; clear hb hbox hg) | ((with_reducible refine gate_dst (N := 4) rfl ?_); refine box_event ?hg (N := 4) ?hd (cs := #[.int .i64 0, .string (⟨#[]⟩ : ByteArray), .string (⟨#[]⟩ : ByteArray), .bool false]) (t := 67) ?hr ?_; (case hd => rfl); (case hg => rfl); (case hr => first | (go_simp; done) | (go_simp; rfl)); intro gb215 hg w7 hbox hb; have n0_ := Aside0.mk (blk_below (g := gb214) (o := .cells #[.int .i64 a0_0, .string a0_1, .string a0_2, .bool true] 67 (0, 0)) (by (with_reducible repeat (first | refine blk_drewN ?_ _ | refine blk_drew ?_ | refine blk_alloc ?_ _)); exact BK214.out) hb); have n1_ := Aside0.mk (below_step (by repeat (first | (with_reducible first | exact HB.out | apply below_alloc | apply pw_below_drewN | apply below_drew1 | refine below_set ?_ GE214.out) | exact HB.out)) hb); have n2_ := Aside0.mk (hbox); have n3_ := Aside0.mk ((by rw [hg]; exact (below_size (by repeat (first | (with_reducible first | exact HB.out | apply below_alloc | apply pw_below_drewN | apply below_drew1 | refine below_set ?_ GE214.out) | exact HB.out))) : w.heap.size ≤ gb215)); have n4_ := Aside0.mk ((by rw [hg]; exact (below_size (by repeat (first | (with_reducible first | exact HB.out | apply below_alloc | apply pw_below_drewN | apply below_drew1 | refine below_set ?_ GE214.out) | exact HB.out))) : w.heap.size ≤ gb215)); have n5_ := Aside0.mk ((by rw [hg]; exact Nat.ne_of_lt (blk_lt (g := gb214) (o := .cells #[.int .i64 a0_0, .string a0_1, .string a0_2, .bool true] 67 (0, 0)) (by (with_reducible repeat (first | refine blk_drewN ?_ _ | refine blk_drew ?_ | refine blk_alloc ?_ _)); exact BK214.out)) : gb214 ≠ gb215)); have n6_ := Aside0.mk ((by rw [hg]; exact Nat.ne_of_gt (blk_lt (g := gb214) (o := .cells #[.int .i64 a0_0, .string a0_1, .string a0_2, .bool true] 67 (0, 0)) (by (with_reducible repeat (first | refine blk_drewN ?_ _ | refine blk_drew ?_ | refine blk_alloc ?_ _)); exact BK214.out)) : gb215 ≠ gb214)); clear BK214; clear HB; have BK214 := n0_; have HB := n1_; have BK215 := n2_; have GW215 := n3_; have GE215 := n4_; have NB214_215 := n5_; have NB215_214 := n6_; clear n0_ n1_ n2_ n3_ n4_ n5_ n6_; clear hb hbox hg; have hnb8 := NB214_215.out; have hnc8 := NB215_214.out; have hcz9_0 : w7.cell? ⟨gb214, 0, none⟩ = some (.int .i64 a0_0) := (blk_cell BK214.out 0).trans rfl; have hcz9_1 : w7.cell? ⟨gb214, 1, none⟩ = some (.string a0_1) := (blk_cell BK214.out 1).trans rfl; have hcz9_2 : w7.cell? ⟨gb214, 2, none⟩ = some (.string a0_2) := (blk_cell BK214.out 2).trans rfl; have hcz9_3 : w7.cell? ⟨gb214, 3, none⟩ = some (.bool true) := (blk_cell BK214.out 3).trans rfl; have hfz9_0 := blk_frozen BK214.out 0; have hfz9_1 := blk_frozen BK214.out 1; have hfz9_2 := blk_frozen BK214.out 2; have hfz9_3 := blk_frozen BK214.out 3) | ((with_reducible refine gate_callee (f := 50) rfl ?_); refine goesL_ (some 12) rfl rfl Tryd.func50 (by kernel_rfl) rfl #[.string a0_2, .int .i64 a1] rfl (by (try simp only [List.map_toArray, List.map_cons, List.map_nil]); first | done | rfl | (simp only [List.length_drop, List.length_take]; rfl)) ?_; (with_reducible refine (stanchionref01_TakeText.calls a0_2 a1 t216 t217 t218 _ A3.out).mono ?_); rintro e w10 ⟨rfl, hb⟩; refine ⟨_, rfl, ?_⟩; have n0_ := Aside0.mk (blk_below (g := gb214) (o := .cells #[.int .i64 a0_0, .string a0_1, .string a0_2, .bool true] 67 (0, 0)) (by (with_reducible repeat (first | refine blk_drewN ?_ _ | refine blk_drew ?_ | refine blk_alloc ?_ _)); exact BK214.out) hb); have n1_ := Aside0.mk (blk_below (g := gb215) (o := .cells #[.int .i64 0, .string (⟨#[]⟩ : ByteArray), .string (⟨#[]⟩ : ByteArray), .bool false] 67 (0, 0)) (by (with_reducible repeat (first | refine blk_drewN ?_ _ | refine blk_drew ?_ | refine blk_alloc ?_ _)); exact BK215.out) hb); have n2_ := Aside0.mk (below_step (by repeat (first | (with_reducible first | exact HB.out | apply below_alloc | apply pw_below_drewN | apply below_drew1 | refine below_set ?_ GE214.out | refine below_set ?_ GE215.out) | exact HB.out)) hb); clear BK214; clear BK215; clear HB; have BK214 := n0_; have BK215 := n1_; have HB := n2_; clear n0_ n1_ n2_; (try clear hb); (try clear hb2); (try clear hk); (try clear hi); have hcz11_0 : w10.cell? ⟨gb214, 0, none⟩ = some (.int .i64 a0_0) := (blk_cell BK214.out 0).trans rfl; have hcz11_1 : w10.cell? ⟨gb214, 1, none⟩ = some (.string a0_1) := (blk_cell BK214.out 1).trans rfl; have hcz11_2 : w10.cell? ⟨gb214, 2, none⟩ = some (.string a0_2) := (blk_cell BK214.out 2).trans rfl; have hcz11_3 : w10.cell? ⟨gb214, 3, none⟩ = some (.bool true) := (blk_cell BK214.out 3).trans rfl; have hfz11_0 := blk_frozen BK214.out 0; have hfz11_1 := blk_frozen BK214.out 1; have hfz11_2 := blk_frozen BK214.out 2; have hfz11_3 := blk_frozen BK214.out 3; have hcz12_0 : w10.cell? ⟨gb215, 0, none⟩ = some (.int .i64 0) := (blk_cell BK215.out 0).trans rfl; have hcz12_1 : w10.cell? ⟨gb215, 1, none⟩ = some (.string (⟨#[]⟩ : ByteArray)) := (blk_cell BK215.out 1).trans rfl; have hcz12_2 : w10.cell? ⟨gb215, 2, none⟩ = some (.string (⟨#[]⟩ : ByteArray)) := (blk_cell BK215.out 2).trans rfl; have hcz12_3 : w10.cell? ⟨gb215, 3, none⟩ = some (.bool false) := (blk_cell BK215.out 3).trans rfl; have hfz12_0 := blk_frozen BK215.out 0; have hfz12_1 := blk_frozen BK215.out 1; have hfz12_2 := blk_frozen BK215.out 2; have hfz12_3 := blk_frozen BK215.out 3))
      refine bodyPost_ret (results_cell_row rfl _ _ gb215 67 #[.int .i64 0, .string t216, .string t217, .bool true] (0, 0) _ rfl (by (with_reducible repeat (first | refine blk_drewN ?_ _ | refine blk_drew ?_ | refine blk_alloc ?_ _)); refine blk_put (cs := #[.int .i64 0, .string t216, .string t217, .bool false]) ?_ 3 _ rfl; (with_reducible repeat (first | refine blk_drewN ?_ _ | refine blk_drew ?_ | refine blk_alloc ?_ _)); refine blk_put (cs := #[.int .i64 0, .string t216, .string (⟨#[]⟩ : ByteArray), .bool false]) ?_ 2 _ rfl; (with_reducible repeat (first | refine blk_drewN ?_ _ | refine blk_drew ?_ | refine blk_alloc ?_ _)); refine blk_put (cs := #[.int .i64 0, .string (⟨#[]⟩ : ByteArray), .string (⟨#[]⟩ : ByteArray), .bool false]) ?_ 1 _ rfl; (with_reducible repeat (first | refine blk_drewN ?_ _ | refine blk_drew ?_ | refine blk_alloc ?_ _)); refine blk_put (cs := #[.int .i64 0, .string (⟨#[]⟩ : ByteArray), .string (⟨#[]⟩ : ByteArray), .bool false]) ?_ 0 _ rfl; (with_reducible repeat (first | refine blk_drewN ?_ _ | refine blk_drew ?_ | refine blk_alloc ?_ _)); exact BK215.out) Tryd.underlying67 rfl (by kernel_rfl)) rfl ?_
      exact ⟨by first | rfl | (simp [errW_none, errW_some] <;> rfl) | (simp [*, errW_none, errW_some] <;> rfl), by repeat (first | (with_reducible first | exact HB.out | apply below_alloc | apply pw_below_drewN | apply below_drew1 | refine below_set ?_ GE214.out | refine below_set ?_ GE215.out) | exact HB.out)⟩
    · rw [if_neg c5] at H
      have c5b0 : (t218 == 0) = false := beq_eq_false_iff_ne.mpr c5
      have c5b1 : (t218 != 0) = true := bne_iff_ne.mpr c5
      simp only [Option.some.injEq, Prod.mk.injEq] at H
      obtain ⟨rfl, rfl, rfl, rfl⟩ := H
      go_enter Tryd.func29, Tryd.ntmps29
      go_wp2_with (first | ((with_reducible refine gate_dst (N := 2) rfl ?_); refine box_event ?hg (N := 2) ?hd (cs := #[.int .i64 a0_0, .string a0_1, .string a0_2, .bool true]) (t := 67) ?hr ?_; (case hd => rfl); (case hg => rfl); (case hr => first | (go_simp; done) | (go_simp; rfl)); intro gb214 hg w13 hbox hb; have n0_ := Aside0.mk (below_step (by repeat (first | (with_reducible first | exact HB.out | apply below_alloc | apply pw_below_drewN | apply below_drew1) | exact HB.out)) hb); have n1_ := Aside0.mk (hbox); have n2_ := Aside0.mk ((by rw [hg]; exact (below_size (by repeat (first | (with_reducible first | exact HB.out | apply below_alloc | apply pw_below_drewN | apply below_drew1) | exact HB.out))) : w.heap.size ≤ gb214)); have n3_ := Aside0.mk ((by rw [hg]; exact (below_size (by repeat (first | (with_reducible first | exact HB.out | apply below_alloc | apply pw_below_drewN | apply below_drew1) | exact HB.out))) : w.heap.size ≤ gb214)); clear HB; have HB := n0_; have BK214 := n1_; have GW214 := n2_; have GE214 := n3_; clear n0_ n1_ n2_ n3_; clear hb hbox hg) | ((with_reducible refine gate_dst (N := 4) rfl ?_); refine box_event ?hg (N := 4) ?hd (cs := #[.int .i64 0, .string (⟨#[]⟩ : ByteArray), .string (⟨#[]⟩ : ByteArray), .bool false]) (t := 67) ?hr ?_; (case hd => rfl); (case hg => rfl); (case hr => first | (go_simp; done) | (go_simp; rfl)); intro gb215 hg w14 hbox hb; have n0_ := Aside0.mk (blk_below (g := gb214) (o := .cells #[.int .i64 a0_0, .string a0_1, .string a0_2, .bool true] 67 (0, 0)) (by (with_reducible repeat (first | refine blk_drewN ?_ _ | refine blk_drew ?_ | refine blk_alloc ?_ _)); exact BK214.out) hb); have n1_ := Aside0.mk (below_step (by repeat (first | (with_reducible first | exact HB.out | apply below_alloc | apply pw_below_drewN | apply below_drew1 | refine below_set ?_ GE214.out) | exact HB.out)) hb); have n2_ := Aside0.mk (hbox); have n3_ := Aside0.mk ((by rw [hg]; exact (below_size (by repeat (first | (with_reducible first | exact HB.out | apply below_alloc | apply pw_below_drewN | apply below_drew1 | refine below_set ?_ GE214.out) | exact HB.out))) : w.heap.size ≤ gb215)); have n4_ := Aside0.mk ((by rw [hg]; exact (below_size (by repeat (first | (with_reducible first | exact HB.out | apply below_alloc | apply pw_below_drewN | apply below_drew1 | refine below_set ?_ GE214.out) | exact HB.out))) : w.heap.size ≤ gb215)); have n5_ := Aside0.mk ((by rw [hg]; exact Nat.ne_of_lt (blk_lt (g := gb214) (o := .cells #[.int .i64 a0_0, .string a0_1, .string a0_2, .bool true] 67 (0, 0)) (by (with_reducible repeat (first | refine blk_drewN ?_ _ | refine blk_drew ?_ | refine blk_alloc ?_ _)); exact BK214.out)) : gb214 ≠ gb215)); have n6_ := Aside0.mk ((by rw [hg]; exact Nat.ne_of_gt (blk_lt (g := gb214) (o := .cells #[.int .i64 a0_0, .string a0_1, .string a0_2, .bool true] 67 (0, 0)) (by (with_reducible repeat (first | refine blk_drewN ?_ _ | refine blk_drew ?_ | refine blk_alloc ?_ _)); exact BK214.out)) : gb215 ≠ gb214)); clear BK214; clear HB; have BK214 := n0_; have HB := n1_; have BK215 := n2_; have GW215 := n3_; have GE215 := n4_; have NB214_215 := n5_; have NB215_214 := n6_; clear n0_ n1_ n2_ n3_ n4_ n5_ n6_; clear hb hbox hg; have hnb15 := NB214_215.out; have hnc15 := NB215_214.out; have hcz16_0 : w14.cell? ⟨gb214, 0, none⟩ = some (.int .i64 a0_0) := (blk_cell BK214.out 0).trans rfl; have hcz16_1 : w14.cell? ⟨gb214, 1, none⟩ = some (.string a0_1) := (blk_cell BK214.out 1).trans rfl; have hcz16_2 : w14.cell? ⟨gb214, 2, none⟩ = some (.string a0_2) := (blk_cell BK214.out 2).trans rfl; have hcz16_3 : w14.cell? ⟨gb214, 3, none⟩ = some (.bool true) := (blk_cell BK214.out 3).trans rfl; have hfz16_0 := blk_frozen BK214.out 0; have hfz16_1 := blk_frozen BK214.out 1; have hfz16_2 := blk_frozen BK214.out 2; have hfz16_3 := blk_frozen BK214.out 3) | ((with_reducible refine gate_callee (f := 50) rfl ?_); refine goesL_ (some 12) rfl rfl Tryd.func50 (by kernel_rfl) rfl #[.string a0_2, .int .i64 a1] rfl (by (try simp only [List.map_toArray, List.map_cons, List.map_nil]); first | done | rfl | (simp only [List.length_drop, List.length_take]; rfl)) ?_; (with_reducible refine (stanchionref01_TakeText.calls a0_2 a1 t216 t217 t218 _ A3.out).mono ?_); rintro e w17 ⟨rfl, hb⟩; refine ⟨_, rfl, ?_⟩; have n0_ := Aside0.mk (blk_below (g := gb214) (o := .cells #[.int .i64 a0_0, .string a0_1, .string a0_2, .bool true] 67 (0, 0)) (by (with_reducible repeat (first | refine blk_drewN ?_ _ | refine blk_drew ?_ | refine blk_alloc ?_ _)); exact BK214.out) hb); have n1_ := Aside0.mk (blk_below (g := gb215) (o := .cells #[.int .i64 0, .string (⟨#[]⟩ : ByteArray), .string (⟨#[]⟩ : ByteArray), .bool false] 67 (0, 0)) (by (with_reducible repeat (first | refine blk_drewN ?_ _ | refine blk_drew ?_ | refine blk_alloc ?_ _)); exact BK215.out) hb); have n2_ := Aside0.mk (below_step (by repeat (first | (with_reducible first | exact HB.out | apply below_alloc | apply pw_below_drewN | apply below_drew1 | refine below_set ?_ GE214.out | refine below_set ?_ GE215.out) | exact HB.out)) hb); clear BK214; clear BK215; clear HB; have BK214 := n0_; have BK215 := n1_; have HB := n2_; clear n0_ n1_ n2_; (try clear hb); (try clear hb2); (try clear hk); (try clear hi); have hcz18_0 : w17.cell? ⟨gb214, 0, none⟩ = some (.int .i64 a0_0) := (blk_cell BK214.out 0).trans rfl; have hcz18_1 : w17.cell? ⟨gb214, 1, none⟩ = some (.string a0_1) := (blk_cell BK214.out 1).trans rfl; have hcz18_2 : w17.cell? ⟨gb214, 2, none⟩ = some (.string a0_2) := (blk_cell BK214.out 2).trans rfl; have hcz18_3 : w17.cell? ⟨gb214, 3, none⟩ = some (.bool true) := (blk_cell BK214.out 3).trans rfl; have hfz18_0 := blk_frozen BK214.out 0; have hfz18_1 := blk_frozen BK214.out 1; have hfz18_2 := blk_frozen BK214.out 2; have hfz18_3 := blk_frozen BK214.out 3; have hcz19_0 : w17.cell? ⟨gb215, 0, none⟩ = some (.int .i64 0) := (blk_cell BK215.out 0).trans rfl; have hcz19_1 : w17.cell? ⟨gb215, 1, none⟩ = some (.string (⟨#[]⟩ : ByteArray)) := (blk_cell BK215.out 1).trans rfl; have hcz19_2 : w17.cell? ⟨gb215, 2, none⟩ = some (.string (⟨#[]⟩ : ByteArray)) := (blk_cell BK215.out 2).trans rfl; have hcz19_3 : w17.cell? ⟨gb215, 3, none⟩ = some (.bool false) := (blk_cell BK215.out 3).trans rfl; have hfz19_0 := blk_frozen BK215.out 0; have hfz19_1 := blk_frozen BK215.out 1; have hfz19_2 := blk_frozen BK215.out 2; have hfz19_3 := blk_frozen BK215.out 3))
      refine bodyPost_ret (results_cell_row rfl _ _ gb215 67 #[.int .i64 0, .string (⟨#[]⟩ : ByteArray), .string (⟨#[]⟩ : ByteArray), .bool false] (0, 0) _ rfl (by (with_reducible repeat (first | refine blk_drewN ?_ _ | refine blk_drew ?_ | refine blk_alloc ?_ _)); refine blk_put (cs := #[.int .i64 0, .string (⟨#[]⟩ : ByteArray), .string (⟨#[]⟩ : ByteArray), .bool false]) ?_ 3 _ rfl; (with_reducible repeat (first | refine blk_drewN ?_ _ | refine blk_drew ?_ | refine blk_alloc ?_ _)); refine blk_put (cs := #[.int .i64 0, .string (⟨#[]⟩ : ByteArray), .string (⟨#[]⟩ : ByteArray), .bool false]) ?_ 2 _ rfl; (with_reducible repeat (first | refine blk_drewN ?_ _ | refine blk_drew ?_ | refine blk_alloc ?_ _)); refine blk_put (cs := #[.int .i64 0, .string (⟨#[]⟩ : ByteArray), .string (⟨#[]⟩ : ByteArray), .bool false]) ?_ 1 _ rfl; (with_reducible repeat (first | refine blk_drewN ?_ _ | refine blk_drew ?_ | refine blk_alloc ?_ _)); refine blk_put (cs := #[.int .i64 0, .string (⟨#[]⟩ : ByteArray), .string (⟨#[]⟩ : ByteArray), .bool false]) ?_ 0 _ rfl; (with_reducible repeat (first | refine blk_drewN ?_ _ | refine blk_drew ?_ | refine blk_alloc ?_ _)); exact BK215.out) Tryd.underlying67 rfl (by kernel_rfl)) rfl ?_
      exact ⟨by first | rfl | (simp [errW_none, errW_some] <;> rfl) | (simp [*, errW_none, errW_some] <;> rfl), by repeat (first | (with_reducible first | exact HB.out | apply below_alloc | apply pw_below_drewN | apply below_drew1 | refine below_set ?_ GE214.out | refine below_set ?_ GE215.out) | exact HB.out)⟩
  · replace c4 := Bool.eq_false_iff.mpr c4
    subst c4
    have H1 : (some (0, (⟨#[]⟩ : ByteArray), (⟨#[]⟩ : ByteArray), false)) = some (r1, r2, r3, r4) := by rw [if_neg (show ¬ (false = true) by decide)] at H; exact H
    clear H
    have H := H1
    clear H1
    simp only [Option.some.injEq, Prod.mk.injEq] at H
    obtain ⟨rfl, rfl, rfl, rfl⟩ := H
    go_enter Tryd.func29, Tryd.ntmps29
    go_wp2_with (first | ((with_reducible refine gate_dst (N := 2) rfl ?_); refine box_event ?hg (N := 2) ?hd (cs := #[.int .i64 a0_0, .string a0_1, .string a0_2, .bool false]) (t := 67) ?hr ?_; (case hd => rfl); (case hg => rfl); (case hr => first | (go_simp; done) | (go_simp; rfl)); intro gb214 hg w20 hbox hb; have n0_ := Aside0.mk (below_step (by repeat (first | (with_reducible first | exact HB.out | apply below_alloc | apply pw_below_drewN | apply below_drew1) | exact HB.out)) hb); have n1_ := Aside0.mk (hbox); have n2_ := Aside0.mk ((by rw [hg]; exact (below_size (by repeat (first | (with_reducible first | exact HB.out | apply below_alloc | apply pw_below_drewN | apply below_drew1) | exact HB.out))) : w.heap.size ≤ gb214)); have n3_ := Aside0.mk ((by rw [hg]; exact (below_size (by repeat (first | (with_reducible first | exact HB.out | apply below_alloc | apply pw_below_drewN | apply below_drew1) | exact HB.out))) : w.heap.size ≤ gb214)); clear HB; have HB := n0_; have BK214 := n1_; have GW214 := n2_; have GE214 := n3_; clear n0_ n1_ n2_ n3_; clear hb hbox hg) | ((with_reducible refine gate_dst (N := 4) rfl ?_); refine box_event ?hg (N := 4) ?hd (cs := #[.int .i64 0, .string (⟨#[]⟩ : ByteArray), .string (⟨#[]⟩ : ByteArray), .bool false]) (t := 67) ?hr ?_; (case hd => rfl); (case hg => rfl); (case hr => first | (go_simp; done) | (go_simp; rfl)); intro gb215 hg w21 hbox hb; have n0_ := Aside0.mk (blk_below (g := gb214) (o := .cells #[.int .i64 a0_0, .string a0_1, .string a0_2, .bool false] 67 (0, 0)) (by (with_reducible repeat (first | refine blk_drewN ?_ _ | refine blk_drew ?_ | refine blk_alloc ?_ _)); exact BK214.out) hb); have n1_ := Aside0.mk (below_step (by repeat (first | (with_reducible first | exact HB.out | apply below_alloc | apply pw_below_drewN | apply below_drew1 | refine below_set ?_ GE214.out) | exact HB.out)) hb); have n2_ := Aside0.mk (hbox); have n3_ := Aside0.mk ((by rw [hg]; exact (below_size (by repeat (first | (with_reducible first | exact HB.out | apply below_alloc | apply pw_below_drewN | apply below_drew1 | refine below_set ?_ GE214.out) | exact HB.out))) : w.heap.size ≤ gb215)); have n4_ := Aside0.mk ((by rw [hg]; exact (below_size (by repeat (first | (with_reducible first | exact HB.out | apply below_alloc | apply pw_below_drewN | apply below_drew1 | refine below_set ?_ GE214.out) | exact HB.out))) : w.heap.size ≤ gb215)); have n5_ := Aside0.mk ((by rw [hg]; exact Nat.ne_of_lt (blk_lt (g := gb214) (o := .cells #[.int .i64 a0_0, .string a0_1, .string a0_2, .bool false] 67 (0, 0)) (by (with_reducible repeat (first | refine blk_drewN ?_ _ | refine blk_drew ?_ | refine blk_alloc ?_ _)); exact BK214.out)) : gb214 ≠ gb215)); have n6_ := Aside0.mk ((by rw [hg]; exact Nat.ne_of_gt (blk_lt (g := gb214) (o := .cells #[.int .i64 a0_0, .string a0_1, .string a0_2, .bool false] 67 (0, 0)) (by (with_reducible repeat (first | refine blk_drewN ?_ _ | refine blk_drew ?_ | refine blk_alloc ?_ _)); exact BK214.out)) : gb215 ≠ gb214)); clear BK214; clear HB; have BK214 := n0_; have HB := n1_; have BK215 := n2_; have GW215 := n3_; have GE215 := n4_; have NB214_215 := n5_; have NB215_214 := n6_; clear n0_ n1_ n2_ n3_ n4_ n5_ n6_; clear hb hbox hg; have hnb22 := NB214_215.out; have hnc22 := NB215_214.out; have hcz23_0 : w21.cell? ⟨gb214, 0, none⟩ = some (.int .i64 a0_0) := (blk_cell BK214.out 0).trans rfl; have hcz23_1 : w21.cell? ⟨gb214, 1, none⟩ = some (.string a0_1) := (blk_cell BK214.out 1).trans rfl; have hcz23_2 : w21.cell? ⟨gb214, 2, none⟩ = some (.string a0_2) := (blk_cell BK214.out 2).trans rfl; have hcz23_3 : w21.cell? ⟨gb214, 3, none⟩ = some (.bool false) := (blk_cell BK214.out 3).trans rfl; have hfz23_0 := blk_frozen BK214.out 0; have hfz23_1 := blk_frozen BK214.out 1; have hfz23_2 := blk_frozen BK214.out 2; have hfz23_3 := blk_frozen BK214.out 3) | ((with_reducible refine gate_callee (f := 50) rfl ?_); refine goesL_ (some 12) rfl rfl Tryd.func50 (by kernel_rfl) rfl #[.string a0_2, .int .i64 a1] rfl (by (try simp only [List.map_toArray, List.map_cons, List.map_nil]); first | done | rfl | (simp only [List.length_drop, List.length_take]; rfl)) ?_; (with_reducible refine (stanchionref01_TakeText.calls a0_2 a1 t216 t217 t218 _ A3.out).mono ?_); rintro e w24 ⟨rfl, hb⟩; refine ⟨_, rfl, ?_⟩; have n0_ := Aside0.mk (blk_below (g := gb214) (o := .cells #[.int .i64 a0_0, .string a0_1, .string a0_2, .bool false] 67 (0, 0)) (by (with_reducible repeat (first | refine blk_drewN ?_ _ | refine blk_drew ?_ | refine blk_alloc ?_ _)); exact BK214.out) hb); have n1_ := Aside0.mk (blk_below (g := gb215) (o := .cells #[.int .i64 0, .string (⟨#[]⟩ : ByteArray), .string (⟨#[]⟩ : ByteArray), .bool false] 67 (0, 0)) (by (with_reducible repeat (first | refine blk_drewN ?_ _ | refine blk_drew ?_ | refine blk_alloc ?_ _)); exact BK215.out) hb); have n2_ := Aside0.mk (below_step (by repeat (first | (with_reducible first | exact HB.out | apply below_alloc | apply pw_below_drewN | apply below_drew1 | refine below_set ?_ GE214.out | refine below_set ?_ GE215.out) | exact HB.out)) hb); clear BK214; clear BK215; clear HB; have BK214 := n0_; have BK215 := n1_; have HB := n2_; clear n0_ n1_ n2_; (try clear hb); (try clear hb2); (try clear hk); (try clear hi); have hcz25_0 : w24.cell? ⟨gb214, 0, none⟩ = some (.int .i64 a0_0) := (blk_cell BK214.out 0).trans rfl; have hcz25_1 : w24.cell? ⟨gb214, 1, none⟩ = some (.string a0_1) := (blk_cell BK214.out 1).trans rfl; have hcz25_2 : w24.cell? ⟨gb214, 2, none⟩ = some (.string a0_2) := (blk_cell BK214.out 2).trans rfl; have hcz25_3 : w24.cell? ⟨gb214, 3, none⟩ = some (.bool false) := (blk_cell BK214.out 3).trans rfl; have hfz25_0 := blk_frozen BK214.out 0; have hfz25_1 := blk_frozen BK214.out 1; have hfz25_2 := blk_frozen BK214.out 2; have hfz25_3 := blk_frozen BK214.out 3; have hcz26_0 : w24.cell? ⟨gb215, 0, none⟩ = some (.int .i64 0) := (blk_cell BK215.out 0).trans rfl; have hcz26_1 : w24.cell? ⟨gb215, 1, none⟩ = some (.string (⟨#[]⟩ : ByteArray)) := (blk_cell BK215.out 1).trans rfl; have hcz26_2 : w24.cell? ⟨gb215, 2, none⟩ = some (.string (⟨#[]⟩ : ByteArray)) := (blk_cell BK215.out 2).trans rfl; have hcz26_3 : w24.cell? ⟨gb215, 3, none⟩ = some (.bool false) := (blk_cell BK215.out 3).trans rfl; have hfz26_0 := blk_frozen BK215.out 0; have hfz26_1 := blk_frozen BK215.out 1; have hfz26_2 := blk_frozen BK215.out 2; have hfz26_3 := blk_frozen BK215.out 3))
    refine bodyPost_ret (results_cell_row rfl _ _ gb215 67 #[.int .i64 0, .string (⟨#[]⟩ : ByteArray), .string (⟨#[]⟩ : ByteArray), .bool false] (0, 0) _ rfl (by (with_reducible repeat (first | refine blk_drewN ?_ _ | refine blk_drew ?_ | refine blk_alloc ?_ _)); refine blk_put (cs := #[.int .i64 0, .string (⟨#[]⟩ : ByteArray), .string (⟨#[]⟩ : ByteArray), .bool false]) ?_ 3 _ rfl; (with_reducible repeat (first | refine blk_drewN ?_ _ | refine blk_drew ?_ | refine blk_alloc ?_ _)); refine blk_put (cs := #[.int .i64 0, .string (⟨#[]⟩ : ByteArray), .string (⟨#[]⟩ : ByteArray), .bool false]) ?_ 2 _ rfl; (with_reducible repeat (first | refine blk_drewN ?_ _ | refine blk_drew ?_ | refine blk_alloc ?_ _)); refine blk_put (cs := #[.int .i64 0, .string (⟨#[]⟩ : ByteArray), .string (⟨#[]⟩ : ByteArray), .bool false]) ?_ 1 _ rfl; (with_reducible repeat (first | refine blk_drewN ?_ _ | refine blk_drew ?_ | refine blk_alloc ?_ _)); refine blk_put (cs := #[.int .i64 0, .string (⟨#[]⟩ : ByteArray), .string (⟨#[]⟩ : ByteArray), .bool false]) ?_ 0 _ rfl; (with_reducible repeat (first | refine blk_drewN ?_ _ | refine blk_drew ?_ | refine blk_alloc ?_ _)); exact BK215.out) Tryd.underlying67 rfl (by kernel_rfl)) rfl ?_
    exact ⟨by first | rfl | (simp [errW_none, errW_some] <;> rfl) | (simp [*, errW_none, errW_some] <;> rfl), by repeat (first | (with_reducible first | exact HB.out | apply below_alloc | apply pw_below_drewN | apply below_drew1 | refine below_set ?_ GE214.out | refine below_set ?_ GE215.out) | exact HB.out)⟩

end Go.Proofs.YtlpcidjmaeicoaaDoor.QWi

/-! RefTake -/
/- The reference's takes and reads; blocks in memory, and rows in none of them. -/
namespace Go.Proofs.YtlpcidjmaeicoaaDoor.Reader
open Go Go.RowKit Go.Proofs.YtlpcidjmaeicoaaDoor.DecM Go.Proofs.YtlpcidjmaeicoaaDoor.Giv Go.Proofs.YtlpcidjmaeicoaaDoorW.PrintWords Go.Proofs.YtlpcidjmaeicoaaDoorW.PrintLast Go.Proofs.YtlpcidjmaeicoaaDoor.QWi

/-- The next number, the next text, as the reference takes them: what it is, what is left, is it? -/
def tkR (s : ByteArray) (is : Bool) : Int × ByteArray × Bool := if is = true ∧ (takeNum s).2.2 = 0 ∧ (takeNum s).1 ≤ 1073741824 then ((takeNum s).1, (takeNum s).2.1, true) else (0, ⟨#[]⟩, false)
def rdR (s : ByteArray) (is : Bool) (most : Int) : ByteArray × ByteArray × Bool := if is = true ∧ (takeText s most).2.2 = 0 then ((takeText s most).1, (takeText s most).2.1, true) else (⟨#[]⟩, ⟨#[]⟩, false)
theorem tkR_size (s : ByteArray) (is : Bool) : (tkR s is).2.1.size ≤ s.size := by
  unfold tkR
  split
  · exact (take_first s).2.2
  · exact Nat.zero_le _
theorem rdR_size (s : ByteArray) (is : Bool) (most : Int) : (rdR s is most).2.1.size ≤ s.size := by
  unfold rdR
  split
  · exact (DecPure.takeText_size s most).2
  · exact Nat.zero_le _
theorem bsr {α β : Type} (a : α) (f : α → Option β) : (some a).bind f = f a := Eq.trans (Option.bind_some a f) (Eq.refl _)
/-- A call gives v, and leaves what was there: closed to simp. -/
structure Gives (v : Value) (w : World) (e : Ending) (w' : World) : Prop where
  e : e = .returned v
  b : Below w.heap.size w w'
theorem takes_is (n : Int) (t r : ByteArray) (b : Bool) (hs : r.size ≤ 9223372036854775807) (w : World) :
    Calls Tryd.prog 28 #[.agg #[.int .i64 n, .string t, .string r, .bool b]] w fun e w' => Gives (.agg #[.int .i64 (tkR r b).1, .string ⟨#[]⟩, .string (tkR r b).2.1, .bool (tkR r b).2.2]) w e w' := by
  refine (stanchionref16_takes.calls n t r b _ _ _ _ w ?_).mono fun e w' h => ⟨h.1, h.2⟩
  have hv := takeNum_nonneg r
  unfold stanchionref16_takes.f
  rw [show stanchionref01_TakeNum.f r = some (takeNum r) from DecPure.ref_some hs, bsr]
  unfold tkR
  cases b with
  | false => rw [if_neg (by decide), if_neg (by simp)]
  | true =>
    rw [if_pos rfl]
    by_cases h1 : (takeNum r).2.2 = 0
    · rw [if_pos h1]
      by_cases h2 : (takeNum r).1 > 1073741824
      · rw [if_pos h2, if_neg (by omega)]
      · rw [if_neg h2, if_pos ⟨rfl, h1, by omega⟩]
        have hw : wrap64 (takeNum r).1 = (takeNum r).1 := by
          unfold wrap64
          omega
        rw [hw]
    · rw [if_neg h1, if_neg (fun h => h1 h.2.1)]
theorem reads_is (n : Int) (t r : ByteArray) (b : Bool) (most : Int) (hs : r.size ≤ 9223372036854775807) (hm : most ≤ 9223372036854775807) (w : World) :
    Calls Tryd.prog 29 #[.agg #[.int .i64 n, .string t, .string r, .bool b], .int .i64 most] w fun e w' => Gives (.agg #[.int .i64 0, .string (rdR r b most).1, .string (rdR r b most).2.1, .bool (rdR r b most).2.2]) w e w' := by
  refine (stanchionref16_reads.calls n t r b most _ _ _ _ w ?_).mono fun e w' h => ⟨h.1, h.2⟩
  unfold stanchionref16_reads.f
  rw [show stanchionref01_TakeText.f r most = some (takeText r most) from DecPure.reft_some 0 r most hs hm, bsr]
  unfold rdR
  cases b with
  | false => rw [if_neg (by decide), if_neg (by simp)]
  | true =>
    rw [if_pos rfl]
    by_cases h1 : (takeText r most).2.2 = 0
    · rw [if_pos h1, if_pos ⟨rfl, h1⟩]
    · rw [if_neg h1, if_neg (fun h => h1 h.2)]

/-- Blocks with their cells; the rows (v, l) are in none of them. -/
structure Bk (w0 : World) (ks : List (Nat × List Value)) (w : World) (v : Value) (l : List S74) : Prop where
  bel : Below w0.heap.size w0 w
  kc : ∀ x ∈ ks, CellsAt w x.1 x.2 ∧ 0 < x.2.length ∧ w0.heap.size ≤ x.1
  nd : (ks.map Prod.fst).Nodup
  row : Kd.R k74 74 w w0.heap.size (fun k => k ∉ ks.map Prod.fst) v l
theorem Bk.start (w : World) (z : Array Value) (t : TypeId) (hz : 0 < z.toList.length) : Bk w [(w.heap.size, z.toList)] (w.alloc (.cells z t)) (.slice none 0 0) [] :=
  ⟨(Below.refl w.heap.size w).alloc (Nat.le_refl _) _, fun x hx => by rw [List.mem_singleton.1 hx]; exact ⟨cells_new w z t, hz, Nat.le_refl _⟩, by simp, Kd.R_nil _ _ _ _ _⟩
section
variable {w0 w w' : World} {ks : List (Nat × List Value)} {v : Value} {l : List S74}
theorem Bk.at' (h : Bk w0 ks w v l) (i : Nat) {b : Nat} {c : List Value} (hi : ks[i]? = some (b, c)) : CellsAt w b c := (h.kc (b, c) (List.mem_of_getElem? hi)).1
theorem Bk.lt (h : Bk w0 ks w v l) {k : Nat} (hk : k ∈ ks.map Prod.fst) : k < w.heap.size := by
  obtain ⟨x, hx, rfl⟩ := List.mem_map.1 hk
  obtain ⟨h1, h2, _⟩ := h.kc x hx
  exact cell_lt (h1.c 0 h2)
theorem Bk.call (h : Bk w0 ks w v l) (hb : Below w.heap.size w w') : Bk w0 ks w' v l :=
  ⟨h.bel.trans (hb.mono h.bel.size), fun x hx => ⟨(h.kc x hx).1.below (h.kc x hx).2.1 hb, (h.kc x hx).2⟩, h.nd, Kd.R_below h.row hb⟩
theorem Bk.push (h : Bk w0 ks w v l) (c : Array Value) (t : TypeId) (hc : 0 < c.toList.length) : Bk w0 ((w.heap.size, c.toList) :: ks) (w.alloc (.cells c t)) v l := by
  have hb := (Below.refl w.heap.size w).alloc (Nat.le_refl _) (.cells c t)
  refine ⟨h.bel.trans (hb.mono h.bel.size), fun x hx => ?_, ?_, ?_⟩
  · rcases List.mem_cons.1 hx with e | e
    · subst e
      exact ⟨cells_new w c t, hc, h.bel.size⟩
    · exact ⟨(h.kc x e).1.below (h.kc x e).2.1 hb, (h.kc x e).2⟩
  · rw [List.map_cons, List.nodup_cons]
    exact ⟨fun hm => Nat.lt_irrefl _ (h.lt hm), h.nd⟩
  · refine Kd.R_below (Kd.R_mono (Kd.R_bound h.row) fun k hk => ?_) hb
    rw [List.map_cons, List.mem_cons]
    rintro (e | e)
    · have := hk.2.2.1
      omega
    · exact hk.1 e
theorem Bk.store {pre post : List (Nat × List Value)} {b : Nat} {c : List Value} (h : Bk w0 (pre ++ (b, c) :: post) w v l) (j : Nat) (hj : j < c.length) (u : Value) : Bk w0 (pre ++ (b, c.set j u) :: post) (w.setCell ⟨b, j, none⟩ u) v l := by
  have ho : Only b w (w.setCell ⟨b, j, none⟩ u) := (Only.refl b w).set j u
  have hm : (b, c) ∈ pre ++ (b, c) :: post := List.mem_append_right _ (List.mem_cons_self ..)
  have e : (pre ++ (b, c.set j u) :: post).map Prod.fst = (pre ++ (b, c) :: post).map Prod.fst := by simp
  have hn : ∀ x ∈ pre ++ post, x.1 ≠ b := by
    have hd := h.nd
    rw [List.map_append, List.map_cons, List.nodup_append] at hd
    intro x hx ex
    rcases List.mem_append.1 hx with hx | hx
    · exact hd.2.2 x.1 (List.mem_map_of_mem hx) b (List.mem_cons_self ..) ex
    · have hp : b ∉ post.map Prod.fst := (List.nodup_cons.1 hd.2.1).1
      exact hp (ex ▸ List.mem_map_of_mem (f := Prod.fst) hx)
  refine ⟨h.bel.setCell (h.kc _ hm).2.2 u, fun x hx => ?_, e ▸ h.nd, ?_⟩
  · rcases List.mem_append.1 hx with hx | hx
    · have hk := h.kc x (List.mem_append_left _ hx)
      exact ⟨hk.1.only hk.2.1 ho (hn x (List.mem_append_left _ hx)), hk.2⟩
    · rcases List.mem_cons.1 hx with hx | hx
      · subst hx
        have hk := h.kc _ hm
        exact ⟨hk.1.set j hj u, by rw [List.length_set]; exact hk.2.1, hk.2.2⟩
      · have hk := h.kc x (List.mem_append_right _ (List.mem_cons_of_mem _ hx))
        exact ⟨hk.1.only hk.2.1 ho (hn x (List.mem_append_right _ hx)), hk.2⟩
  · rw [e]
    exact Kd.R_step h.row (fun k hk hlt => ho.block k hlt (fun e => hk (by rw [e]; exact List.mem_map_of_mem (f := Prod.fst) hm)))
end
end Go.Proofs.YtlpcidjmaeicoaaDoor.Reader

/-! QWix8 -/
namespace Go.Proofs.YtlpcidjmaeicoaaDoor.QWi
open Go.RowKit Go.Proofs.YtlpcidjmaeicoaaDoorW.PrintWords Go.Proofs.YtlpcidjmaeicoaaDoorW.PrintLast Go.Proofs.YtlpcidjmaeicoaaDoorW.PrintMore
attribute [local go_sem] max2_int min2_int max_two min_two max_three min_three max_four min_four   -- for this text's walks alone
set_option linter.unusedVariables false
set_option linter.unusedSimpArgs false

attribute [local go_sem high] eqA74
/-! ### api_Pair_37: function 37 -/
def api_Pair_37.l0 : Nat → List (S74) → List (S74) → Int → Int → Option (Bool)
  | 0, _, _, _, _ => none
  | k + 1, x0, x1, x12, x13 => if x13 < x12 then (if 0 ≤ x13 then (if x13 < (x0.length : Int) then (if x13 < (x1.length : Int) then (if (!((((rd_T74 x0 x13).f0).toList) == (((rd_T74 x1 x13).f0).toList)) || (!((((rd_T74 x0 x13).f1).toList) == (((rd_T74 x1 x13).f1).toList)))) = true then (some false) else (api_Pair_37.l0 k x0 x1 x12 (wrap64 (x13 + 1)))) else (none)) else (none)) else (none)) else (some true)
def api_Pair_37.f (k : Nat) (l0 : List (S74)) (l1 : List (S74)) : Option (Bool) := if (l0.length : Int) = (l1.length : Int) then (api_Pair_37.l0 k l0 l1 (l0.length : Int) 0) else (some false)
/-! ### wire_Same: function 20 -/
def wire_Same.f (k : Nat) (a0_0 : Int) (a0_1 : Int) (a0_2 : Int) (a0_3 : Int) (a0_4 : ByteArray) (a0_5 : Bool) (l0_6 : List (S74)) (a0_7 : Bool) (a1_0 : Int) (a1_1 : Int) (a1_2 : Int) (a1_3 : Int) (a1_4 : ByteArray) (a1_5 : Bool) (l1_6 : List (S74)) (a1_7 : Bool) : Option (Bool) := if a0_0 = a1_0 then (if a0_1 = a1_1 then (if a0_2 = a1_2 then (if a0_3 = a1_3 then (if a0_4.toList = a1_4.toList then (if (a0_5 == a1_5) = true then ((api_Pair_37.f k l0_6 l1_6).bind fun t159 => (if t159 = true then (some (a0_7 == a1_7)) else (some false))) else (some false)) else (some false)) else (some false)) else (some false)) else (some false)) else (some false)
/-! ### stanchionref16_small: function 31 -/
def stanchionref16_small.f (a0 : Int) : Option (Bool) := if a0 ≥ 0 then (some (decide (a0 ≤ 1073741824))) else (some false)
set_option maxHeartbeats 8000000 in
set_option maxRecDepth 100000 in
theorem stanchionref16_small.calls (a0 : Int) (r : Bool) (w : World) (h : stanchionref16_small.f a0 = some r) :
    Calls Tryd.prog 31 #[.int .i64 a0] w fun e w' => e = .returned (.bool r) ∧ Drawn0 w w' := by
  have H : (if a0 ≥ 0 then (some (decide (a0 ≤ 1073741824))) else (some false)) = some r := h
  clear h
  by_cases c2 : a0 ≥ 0
  · rw [if_pos c2] at H
    have c2b0 : decide (0 ≤ a0) = true := decide_eq_true c2
    clear c2
    obtain rfl := Option.some.inj H
    go_enter Tryd.func31, Tryd.ntmps31
    go_wp2
    go_ret
    exact ⟨by first | rfl | (simp; done) | (simp [*]; done), by repeat (first | exact Drawn0.refl _ | apply Drawn0.step)⟩
  · rw [if_neg c2] at H
    have c2b0 : decide (0 ≤ a0) = false := decide_eq_false c2
    clear c2
    obtain rfl := Option.some.inj H
    go_enter Tryd.func31, Tryd.ntmps31
    go_wp2
    go_ret
    exact ⟨by first | rfl | (simp; done) | (simp [*]; done), by repeat (first | exact Drawn0.refl _ | apply Drawn0.step)⟩

end Go.Proofs.YtlpcidjmaeicoaaDoor.QWi
