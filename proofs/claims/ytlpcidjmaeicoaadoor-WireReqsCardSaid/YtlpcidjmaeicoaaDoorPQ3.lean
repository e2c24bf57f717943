/- Part of the proof of the statement WireReqs, as a card; what is proved, and on which condition, stands at the head of YtlpcidjmaeicoaaDoorPQ5 (texts QWix9, RefReq, NextR, RefReqC, QWix2) -/
import Derived.Handy
import Derived.Test.YtlpcidjmaeicoaaDoorPQ2
/-! QWix9 -/
namespace Go.Proofs.YtlpcidjmaeicoaaDoor.QWi
open Go.RowKit Go.Proofs.YtlpcidjmaeicoaaDoorW.PrintWords Go.Proofs.YtlpcidjmaeicoaaDoorW.PrintLast Go.Proofs.YtlpcidjmaeicoaaDoorW.PrintMore
attribute [local go_sem] max2_int min2_int max_two min_two max_three min_three max_four min_four   -- for this text's walks alone
set_option linter.unusedVariables false
set_option linter.unusedSimpArgs false

attribute [local go_sem high] eqA23
/-! ### stanchionref16_MayReq: function 14 -/
mutual
def stanchionref16_MayReq.j0 : Nat → Bool → Int → Int → Int → Int → ByteArray → Int → ByteArray → ByteArray → ByteArray → ByteArray → Int → Option (Bool)
  | 0, _, _, _, _, _, _, _, _, _, _, _, _ => none
  | k + 1, x3, x161000, x161001, x161002, x161003, x161004, x161005, x161006, x161007, x161008, x161009, x161010 => (stanchionref16_small.f x161003).bind fun t163 => (if t163 = true then ((stanchionref16_small.f x161010).bind fun t164 => (stanchionref16_MayReq.j1 k x3 t164 x161000 x161001 x161002 x161003 x161004 x161005 x161006 x161007 x161008 x161009 x161010)) else (stanchionref16_MayReq.j1 k x3 false x161000 x161001 x161002 x161003 x161004 x161005 x161006 x161007 x161008 x161009 x161010))
def stanchionref16_MayReq.j1 : Nat → Bool → Bool → Int → Int → Int → Int → ByteArray → Int → ByteArray → ByteArray → ByteArray → ByteArray → Int → Option (Bool)
  | 0, _, _, _, _, _, _, _, _, _, _, _, _, _ => none
  | k + 1, x3, x4, x161000, x161001, x161002, x161003, x161004, x161005, x161006, x161007, x161008, x161009, x161010 => if x161000 < 1 then (stanchionref16_MayReq.j2 k true x161000 x161001 x161002 x161003 x161004 x161005 x161006 x161007 x161008 x161009 x161010) else (if x161000 > 6 then (stanchionref16_MayReq.j2 k true x161000 x161001 x161002 x161003 x161004 x161005 x161006 x161007 x161008 x161009 x161010) else (if x3 = true then (if x4 = true then (stanchionref16_MayReq.j2 k (decide ((x161004.size : Int) > 16)) x161000 x161001 x161002 x161003 x161004 x161005 x161006 x161007 x161008 x161009 x161010) else (stanchionref16_MayReq.j2 k true x161000 x161001 x161002 x161003 x161004 x161005 x161006 x161007 x161008 x161009 x161010)) else (stanchionref16_MayReq.j2 k true x161000 x161001 x161002 x161003 x161004 x161005 x161006 x161007 x161008 x161009 x161010)))
def stanchionref16_MayReq.j2 : Nat → Bool → Int → Int → Int → Int → ByteArray → Int → ByteArray → ByteArray → ByteArray → ByteArray → Int → Option (Bool)
  | 0, _, _, _, _, _, _, _, _, _, _, _, _ => none
  | k + 1, x43, x161000, x161001, x161002, x161003, x161004, x161005, x161006, x161007, x161008, x161009, x161010 => if x43 = true then (some false) else (if x161000 = 4 then (stanchionref16_MayReq.j3 k false x161000 x161001 x161002 x161003 x161004 x161005 x161006 x161007 x161008 x161009 x161010) else (if x161000 = 6 then (stanchionref16_MayReq.j3 k false x161000 x161001 x161002 x161003 x161004 x161005 x161006 x161007 x161008 x161009 x161010) else (stanchionref16_MayReq.j3 k (decide ((x161004.size : Int) > 0)) x161000 x161001 x161002 x161003 x161004 x161005 x161006 x161007 x161008 x161009 x161010)))
def stanchionref16_MayReq.j3 : Nat → Bool → Int → Int → Int → Int → ByteArray → Int → ByteArray → ByteArray → ByteArray → ByteArray → Int → Option (Bool)
  | 0, _, _, _, _, _, _, _, _, _, _, _, _ => none
  | k + 1, x57, x161000, x161001, x161002, x161003, x161004, x161005, x161006, x161007, x161008, x161009, x161010 => if x57 = true then (some false) else (if x161000 = 5 then (if x161005 ≥ 1 then (if x161005 ≤ 6 then (if (x161006.size : Int) ≤ 32 then (if (x161008.size : Int) ≤ 32 then (if (x161009.size : Int) ≤ 32 then (some (decide ((x161007.size : Int) ≤ 64))) else (some false)) else (some false)) else (some false)) else (some false)) else (some false)) else (some (x161005 == 0 && (x161006.toList.isEmpty && (x161007.toList.isEmpty && (x161008.toList.isEmpty && (x161009.toList.isEmpty && (x161010 == 0))))))))
end
def stanchionref16_MayReq.f (k : Nat) (a0_0 : Int) (a0_1 : Int) (a0_2 : Int) (a0_3 : Int) (a0_4 : ByteArray) (a0_5 : Int) (a0_6 : ByteArray) (a0_7 : ByteArray) (a0_8 : ByteArray) (a0_9 : ByteArray) (a0_10 : Int) : Option (Bool) := (stanchionref16_small.f a0_1).bind fun t161 => (if t161 = true then ((stanchionref16_small.f a0_2).bind fun t162 => (stanchionref16_MayReq.j0 k t162 a0_0 a0_1 a0_2 a0_3 a0_4 a0_5 a0_6 a0_7 a0_8 a0_9 a0_10)) else (stanchionref16_MayReq.j0 k false a0_0 a0_1 a0_2 a0_3 a0_4 a0_5 a0_6 a0_7 a0_8 a0_9 a0_10))
set_option maxHeartbeats 8000000 in
set_option maxRecDepth 100000 in
theorem stanchionref16_MayReq.calls (k : Nat) (a0_0 : Int) (a0_1 : Int) (a0_2 : Int) (a0_3 : Int) (a0_4 : ByteArray) (a0_5 : Int) (a0_6 : ByteArray) (a0_7 : ByteArray) (a0_8 : ByteArray) (a0_9 : ByteArray) (a0_10 : Int) (r : Bool) (w : World) (h : stanchionref16_MayReq.f k a0_0 a0_1 a0_2 a0_3 a0_4 a0_5 a0_6 a0_7 a0_8 a0_9 a0_10 = some r) :
    Calls Tryd.prog 14 #[.agg #[.int .i64 a0_0, .int .i64 a0_1, .int .i64 a0_2, .int .i64 a0_3, .string a0_4, .int .i64 a0_5, .string a0_6, .string a0_7, .string a0_8, .string a0_9, .int .i64 a0_10]] w fun e w' => e = .returned (.bool r) ∧ Below w.heap.size w w' := by
  have hu25 := Tryd.underlying25
  have hu23 := Tryd.underlying23
  have HB := Aside0.mk (Below.refl w.heap.size w)
  have H : ((stanchionref16_small.f a0_1).bind fun t161 => (if t161 = true then ((stanchionref16_small.f a0_2).bind fun t162 => (stanchionref16_MayReq.j0 k t162 a0_0 a0_1 a0_2 a0_3 a0_4 a0_5 a0_6 a0_7 a0_8 a0_9 a0_10)) else (stanchionref16_MayReq.j0 k false a0_0 a0_1 a0_2 a0_3 a0_4 a0_5 a0_6 a0_7 a0_8 a0_9 a0_10))) = some r := h
  clear h
  have HC2 := Aside0.mk H
  clear H
  go_enter Tryd.func14, Tryd.ntmps14
  go_upto_region 1 with (first | ((with_reducible refine gate_dst (N := 1) rfl ?_); (try (refine gate_guard (by rfl) ?_; dsimp only)); refine box_event ?hg (N := 1) ?hd (cs := #[.int .i64 a0_0, .int .i64 a0_1, .int .i64 a0_2, .int .i64 a0_3, .string a0_4, .int .i64 a0_5, .string a0_6, .string a0_7, .string a0_8, .string a0_9, .int .i64 a0_10]) (t := 25) ?hr ?_; (case hd => rfl); (case hg => rfl); (case hr => first | (go_simp; done) | (go_simp; rfl)); intro gb160 hg w3 hbox hb; have n0_ := Aside0.mk (below_step (by repeat (first | (with_reducible first | exact HB.out | apply below_alloc | apply pw_below_drewN | apply below_drew1) | exact HB.out)) hb); have n1_ := Aside0.mk (hbox); have n2_ := Aside0.mk ((by rw [hg]; exact (below_size (by repeat (first | (with_reducible first | exact HB.out | apply below_alloc | apply pw_below_drewN | apply below_drew1) | exact HB.out))) : w.heap.size ≤ gb160)); have n3_ := Aside0.mk ((by rw [hg]; exact (below_size (by repeat (first | (with_reducible first | exact HB.out | apply below_alloc | apply pw_below_drewN | apply below_drew1) | exact HB.out))) : w.heap.size ≤ gb160)); clear HB; have HB := n0_; have BK160 := n1_; have GW160 := n2_; have GE160 := n3_; clear n0_ n1_ n2_ n3_; clear hb hbox hg))
  (try simp only [Act.put, List.setIfInBounds_toArray, List.set_cons_zero, List.set_cons_succ])
  go_cut [3] (fun v3 wc => ∃ (kq : Nat) (x3_1 : Bool), v3 = .bool x3_1 ∧ Aside0 (stanchionref16_MayReq.j0 kq x3_1 a0_0 a0_1 a0_2 a0_3 a0_4 a0_5 a0_6 a0_7 a0_8 a0_9 a0_10 = some r) ∧ Aside0 (kq ≤ k) ∧ Aside0 (wc.heap[gb160]? = some (.cells #[.int .i64 a0_0, .int .i64 a0_1, .int .i64 a0_2, .int .i64 a0_3, .string a0_4, .int .i64 a0_5, .string a0_6, .string a0_7, .string a0_8, .string a0_9, .int .i64 a0_10] 25 (0, 0))) ∧ Aside0 (Below w.heap.size w wc))
  case first =>
    have H := HC2.out
    clear HC2
    replace H := Option.bind_eq_some_iff.mp H
    obtain ⟨t161, A40, H⟩ := H
    replace H : (if t161 = true then ((stanchionref16_small.f a0_2).bind fun t162 => (stanchionref16_MayReq.j0 k t162 a0_0 a0_1 a0_2 a0_3 a0_4 a0_5 a0_6 a0_7 a0_8 a0_9 a0_10)) else (stanchionref16_MayReq.j0 k false a0_0 a0_1 a0_2 a0_3 a0_4 a0_5 a0_6 a0_7 a0_8 a0_9 a0_10)) = some r := H
    have A4 := Aside0.mk A40
    clear A40
    by_cases c5 : t161 = true
    · subst c5
      have H1 : ((stanchionref16_small.f a0_2).bind fun t162 => (stanchionref16_MayReq.j0 k t162 a0_0 a0_1 a0_2 a0_3 a0_4 a0_5 a0_6 a0_7 a0_8 a0_9 a0_10)) = some r := by rw [if_pos rfl] at H; exact H
      clear H
      have H := H1
      clear H1
      replace H := Option.bind_eq_some_iff.mp H
      obtain ⟨t162, A60, H⟩ := H
      replace H : (stanchionref16_MayReq.j0 k t162 a0_0 a0_1 a0_2 a0_3 a0_4 a0_5 a0_6 a0_7 a0_8 a0_9 a0_10) = some r := H
      have A6 := Aside0.mk A60
      clear A60
      have H' := Aside0.mk H
      clear H
      have hcz7_0 : w3.cell? ⟨gb160, 0, none⟩ = some (.int .i64 a0_0) := (blk_cell BK160.out 0).trans rfl
      have hcz7_1 : w3.cell? ⟨gb160, 1, none⟩ = some (.int .i64 a0_1) := (blk_cell BK160.out 1).trans rfl
      have hcz7_2 : w3.cell? ⟨gb160, 2, none⟩ = some (.int .i64 a0_2) := (blk_cell BK160.out 2).trans rfl
      have hcz7_3 : w3.cell? ⟨gb160, 3, none⟩ = some (.int .i64 a0_3) := (blk_cell BK160.out 3).trans rfl
      have hcz7_4 : w3.cell? ⟨gb160, 4, none⟩ = some (.string a0_4) := (blk_cell BK160.out 4).trans rfl
      have hcz7_5 : w3.cell? ⟨gb160, 5, none⟩ = some (.int .i64 a0_5) := (blk_cell BK160.out 5).trans rfl
      have hcz7_6 : w3.cell? ⟨gb160, 6, none⟩ = some (.string a0_6) := (blk_cell BK160.out 6).trans rfl
      have hcz7_7 : w3.cell? ⟨gb160, 7, none⟩ = some (.string a0_7) := (blk_cell BK160.out 7).trans rfl
      have hcz7_8 : w3.cell? ⟨gb160, 8, none⟩ = some (.string a0_8) := (blk_cell BK160.out 8).trans rfl
      have hcz7_9 : w3.cell? ⟨gb160, 9, none⟩ = some (.string a0_9) := (blk_cell BK160.out 9).trans rfl
      have hcz7_10 : w3.cell? ⟨gb160, 10, none⟩ = some (.int .i64 a0_10) := (blk_cell BK160.out 10).trans rfl
      have hfz7_0 := blk_frozen BK160.out 0
      have hfz7_1 := blk_frozen BK160.out 1
      have hfz7_2 := blk_frozen BK160.out 2
      have hfz7_3 := blk_frozen BK160.out 3
      have hfz7_4 := blk_frozen BK160.out 4
      have hfz7_5 := blk_frozen BK160.out 5
      have hfz7_6 := blk_frozen BK160.out 6
      have hfz7_7 := blk_frozen BK160.out 7
      have hfz7_8 := blk_frozen BK160.out 8
      have hfz7_9 := blk_frozen BK160.out 9
      have hfz7_10 := blk_frozen BK160.out 10
      go_wp2_with (first | ((with_reducible refine gate_callee (f := 31) rfl ?_); refine goesL_ (some 7) rfl rfl Tryd.func31 (by kernel_rfl) rfl #[.int .i64 a0_1] rfl (by (try simp only [List.map_toArray, List.map_cons, List.map_nil]); first | done | rfl | (simp only [List.length_drop, List.length_take]; rfl)) ?_; (with_reducible refine (stanchionref16_small.calls a0_1 true _ A4.out).mono ?_); rintro e w' ⟨rfl, ⟨nd, rfl⟩⟩; refine ⟨_, rfl, ?_⟩) | (go_at_call 31; (with_reducible refine (stanchionref16_small.calls a0_2 t162 _ A6.out).mono ?_); rintro e w' ⟨rfl, ⟨nd, rfl⟩⟩))
      go_meet
      case rel => exact ⟨_, (t162), (by first | rfl | (simp; done) | (simp [*]; done)), H', ⟨by first | omega | exact Nat.le_refl _⟩, ⟨by (with_reducible repeat (first | refine blk_drewN ?_ _ | refine blk_drew ?_ | refine blk_alloc ?_ _)); exact BK160.out⟩, ⟨by repeat (first | (with_reducible first | exact HB.out | apply below_alloc | apply pw_below_drewN | apply below_drew1 | refine below_set ?_ GE160.out) | exact HB.out)⟩⟩
    · replace c5 := Bool.eq_false_iff.mpr c5
      subst c5
      have H1 : (stanchionref16_MayReq.j0 k false a0_0 a0_1 a0_2 a0_3 a0_4 a0_5 a0_6 a0_7 a0_8 a0_9 a0_10) = some r := by rw [if_neg (show ¬ (false = true) by decide)] at H; exact H
      clear H
      have H := H1
      clear H1
      have H' := Aside0.mk H
      clear H
      have hcz8_0 : w3.cell? ⟨gb160, 0, none⟩ = some (.int .i64 a0_0) := (blk_cell BK160.out 0).trans rfl
      have hcz8_1 : w3.cell? ⟨gb160, 1, none⟩ = some (.int .i64 a0_1) := (blk_cell BK160.out 1).trans rfl
      have hcz8_2 : w3.cell? ⟨gb160, 2, none⟩ = some (.int .i64 a0_2) := (blk_cell BK160.out 2).trans rfl
      have hcz8_3 : w3.cell? ⟨gb160, 3, none⟩ = some (.int .i64 a0_3) := (blk_cell BK160.out 3).trans rfl
      have hcz8_4 : w3.cell? ⟨gb160, 4, none⟩ = some (.string a0_4) := (blk_cell BK160.out 4).trans rfl
      have hcz8_5 : w3.cell? ⟨gb160, 5, none⟩ = some (.int .i64 a0_5) := (blk_cell BK160.out 5).trans rfl
      have hcz8_6 : w3.cell? ⟨gb160, 6, none⟩ = some (.string a0_6) := (blk_cell BK160.out 6).trans rfl
      have hcz8_7 : w3.cell? ⟨gb160, 7, none⟩ = some (.string a0_7) := (blk_cell BK160.out 7).trans rfl
      have hcz8_8 : w3.cell? ⟨gb160, 8, none⟩ = some (.string a0_8) := (blk_cell BK160.out 8).trans rfl
      have hcz8_9 : w3.cell? ⟨gb160, 9, none⟩ = some (.string a0_9) := (blk_cell BK160.out 9).trans rfl
      have hcz8_10 : w3.cell? ⟨gb160, 10, none⟩ = some (.int .i64 a0_10) := (blk_cell BK160.out 10).trans rfl
      have hfz8_0 := blk_frozen BK160.out 0
      have hfz8_1 := blk_frozen BK160.out 1
      have hfz8_2 := blk_frozen BK160.out 2
      have hfz8_3 := blk_frozen BK160.out 3
      have hfz8_4 := blk_frozen BK160.out 4
      have hfz8_5 := blk_frozen BK160.out 5
      have hfz8_6 := blk_frozen BK160.out 6
      have hfz8_7 := blk_frozen BK160.out 7
      have hfz8_8 := blk_frozen BK160.out 8
      have hfz8_9 := blk_frozen BK160.out 9
      have hfz8_10 := blk_frozen BK160.out 10
      go_wp2_with (first | ((with_reducible refine gate_callee (f := 31) rfl ?_); refine goesL_ (some 7) rfl rfl Tryd.func31 (by kernel_rfl) rfl #[.int .i64 a0_1] rfl (by (try simp only [List.map_toArray, List.map_cons, List.map_nil]); first | done | rfl | (simp only [List.length_drop, List.length_take]; rfl)) ?_; (with_reducible refine (stanchionref16_small.calls a0_1 false _ A4.out).mono ?_); rintro e w' ⟨rfl, ⟨nd, rfl⟩⟩; refine ⟨_, rfl, ?_⟩))
      go_meet
      case rel => exact ⟨_, (false), (by first | rfl | (simp; done) | (simp [*]; done)), H', ⟨by first | omega | exact Nat.le_refl _⟩, ⟨by (with_reducible repeat (first | refine blk_drewN ?_ _ | refine blk_drew ?_ | refine blk_alloc ?_ _)); exact BK160.out⟩, ⟨by repeat (first | (with_reducible first | exact HB.out | apply below_alloc | apply pw_below_drewN | apply below_drew1 | refine below_set ?_ GE160.out) | exact HB.out)⟩⟩
  case rest =>
    clear HC2
    try clear c1
    try clear p2
    try clear c3
    try clear c5
    try clear hcz7_0
    try clear hcz7_1
    try clear hcz7_10
    try clear hcz7_2
    try clear hcz7_3
    try clear hcz7_4
    try clear hcz7_5
    try clear hcz7_6
    try clear hcz7_7
    try clear hcz7_8
    try clear hcz7_9
    try clear hcz8_0
    try clear hcz8_1
    try clear hcz8_10
    try clear hcz8_2
    try clear hcz8_3
    try clear hcz8_4
    try clear hcz8_5
    try clear hcz8_6
    try clear hcz8_7
    try clear hcz8_8
    try clear hcz8_9
    try clear hfz7_0
    try clear hfz7_1
    try clear hfz7_10
    try clear hfz7_2
    try clear hfz7_3
    try clear hfz7_4
    try clear hfz7_5
    try clear hfz7_6
    try clear hfz7_7
    try clear hfz7_8
    try clear hfz7_9
    try clear hfz8_0
    try clear hfz8_1
    try clear hfz8_10
    try clear hfz8_2
    try clear hfz8_3
    try clear hfz8_4
    try clear hfz8_5
    try clear hfz8_6
    try clear hfz8_7
    try clear hfz8_8
    try clear hfz8_9
    obtain ⟨kq, x3_1, rfl, HA, HJ1, BK160, HB⟩ := hcut
    cases kq with
    | zero => exact absurd HA.out (by simp [stanchionref16_MayReq.j0])
    | succ kj1 =>
      have H := HA.out
      clear HA
      simp only [stanchionref16_MayReq.j0] at H
      have HC9 := Aside0.mk H
      clear H
      go_upto_region 2 with (fail)
      go_cut [4] (fun v4 wc => ∃ (kq : Nat) (x4_8 : Bool), v4 = .bool x4_8 ∧ Aside0 (stanchionref16_MayReq.j1 kq x3_1 x4_8 a0_0 a0_1 a0_2 a0_3 a0_4 a0_5 a0_6 a0_7 a0_8 a0_9 a0_10 = some r) ∧ Aside0 (kq ≤ kj1) ∧ Aside0 (wc.heap[gb160]? = some (.cells #[.int .i64 a0_0, .int .i64 a0_1, .int .i64 a0_2, .int .i64 a0_3, .string a0_4, .int .i64 a0_5, .string a0_6, .string a0_7, .string a0_8, .string a0_9, .int .i64 a0_10] 25 (0, 0))) ∧ Aside0 (Below w.heap.size w wc))
      case first =>
        have H := HC9.out
        clear HC9
        replace H := Option.bind_eq_some_iff.mp H
        obtain ⟨t163, A100, H⟩ := H
        replace H : (if t163 = true then ((stanchionref16_small.f a0_10).bind fun t164 => (stanchionref16_MayReq.j1 kj1 x3_1 t164 a0_0 a0_1 a0_2 a0_3 a0_4 a0_5 a0_6 a0_7 a0_8 a0_9 a0_10)) else (stanchionref16_MayReq.j1 kj1 x3_1 false a0_0 a0_1 a0_2 a0_3 a0_4 a0_5 a0_6 a0_7 a0_8 a0_9 a0_10)) = some r := H
        have A10 := Aside0.mk A100
        clear A100
        by_cases c11 : t163 = true
        · subst c11
          have H1 : ((stanchionref16_small.f a0_10).bind fun t164 => (stanchionref16_MayReq.j1 kj1 x3_1 t164 a0_0 a0_1 a0_2 a0_3 a0_4 a0_5 a0_6 a0_7 a0_8 a0_9 a0_10)) = some r := by rw [if_pos rfl] at H; exact H
          clear H
          have H := H1
          clear H1
          replace H := Option.bind_eq_some_iff.mp H
          obtain ⟨t164, A120, H⟩ := H
          replace H : (stanchionref16_MayReq.j1 kj1 x3_1 t164 a0_0 a0_1 a0_2 a0_3 a0_4 a0_5 a0_6 a0_7 a0_8 a0_9 a0_10) = some r := H
          have A12 := Aside0.mk A120
          clear A120
          have H' := Aside0.mk H
          clear H
          have hcz13_0 : wc.cell? ⟨gb160, 0, none⟩ = some (.int .i64 a0_0) := (blk_cell BK160.out 0).trans rfl
          have hcz13_1 : wc.cell? ⟨gb160, 1, none⟩ = some (.int .i64 a0_1) := (blk_cell BK160.out 1).trans rfl
          have hcz13_2 : wc.cell? ⟨gb160, 2, none⟩ = some (.int .i64 a0_2) := (blk_cell BK160.out 2).trans rfl
          have hcz13_3 : wc.cell? ⟨gb160, 3, none⟩ = some (.int .i64 a0_3) := (blk_cell BK160.out 3).trans rfl
          have hcz13_4 : wc.cell? ⟨gb160, 4, none⟩ = some (.string a0_4) := (blk_cell BK160.out 4).trans rfl
          have hcz13_5 : wc.cell? ⟨gb160, 5, none⟩ = some (.int .i64 a0_5) := (blk_cell BK160.out 5).trans rfl
          have hcz13_6 : wc.cell? ⟨gb160, 6, none⟩ = some (.string a0_6) := (blk_cell BK160.out 6).trans rfl
          have hcz13_7 : wc.cell? ⟨gb160, 7, none⟩ = some (.string a0_7) := (blk_cell BK160.out 7).trans rfl
          have hcz13_8 : wc.cell? ⟨gb160, 8, none⟩ = some (.string a0_8) := (blk_cell BK160.out 8).trans rfl
          have hcz13_9 : wc.cell? ⟨gb160, 9, none⟩ = some (.string a0_9) := (blk_cell BK160.out 9).trans rfl
          have hcz13_10 : wc.cell? ⟨gb160, 10, none⟩ = some (.int .i64 a0_10) := (blk_cell BK160.out 10).trans rfl
          have hfz13_0 := blk_frozen BK160.out 0
          have hfz13_1 := blk_frozen BK160.out 1
          have hfz13_2 := blk_frozen BK160.out 2
          have hfz13_3 := blk_frozen BK160.out 3
          have hfz13_4 := blk_frozen BK160.out 4
          have hfz13_5 := blk_frozen BK160.out 5
          have hfz13_6 := blk_frozen BK160.out 6
          have hfz13_7 := blk_frozen BK160.out 7
          have hfz13_8 := blk_frozen BK160.out 8
          have hfz13_9 := blk_frozen BK160.out 9
          have hfz13_10 := blk_frozen BK160.out 10
          go_wp2_with (first | ((with_reducible refine gate_callee (f := 31) rfl ?_); refine goesL_ (some 15) rfl rfl Tryd.func31 (by kernel_rfl) rfl #[.int .i64 a0_3] rfl (by (try simp only [List.map_toArray, List.map_cons, List.map_nil]); first | done | rfl | (simp only [List.length_drop, List.length_take]; rfl)) ?_; (with_reducible refine (stanchionref16_small.calls a0_3 true _ A10.out).mono ?_); rintro e w' ⟨rfl, ⟨nd, rfl⟩⟩; refine ⟨_, rfl, ?_⟩) | (go_at_call 31; (with_reducible refine (stanchionref16_small.calls a0_10 t164 _ A12.out).mono ?_); rintro e w' ⟨rfl, ⟨nd, rfl⟩⟩))
          go_meet
          case rel => exact ⟨_, (t164), (by first | rfl | (simp; done) | (simp [*]; done)), H', ⟨by have := HJ1.out; first | omega | exact Nat.le_refl _⟩, ⟨by (with_reducible repeat (first | refine blk_drewN ?_ _ | refine blk_drew ?_ | refine blk_alloc ?_ _)); exact BK160.out⟩, ⟨by repeat (first | (with_reducible first | exact HB.out | apply below_alloc | apply pw_below_drewN | apply below_drew1 | refine below_set ?_ GE160.out) | exact HB.out)⟩⟩
        · replace c11 := Bool.eq_false_iff.mpr c11
          subst c11
          have H1 : (stanchionref16_MayReq.j1 kj1 x3_1 false a0_0 a0_1 a0_2 a0_3 a0_4 a0_5 a0_6 a0_7 a0_8 a0_9 a0_10) = some r := by rw [if_neg (show ¬ (false = true) by decide)] at H; exact H
          clear H
          have H := H1
          clear H1
          have H' := Aside0.mk H
          clear H
          have hcz14_0 : wc.cell? ⟨gb160, 0, none⟩ = some (.int .i64 a0_0) := (blk_cell BK160.out 0).trans rfl
          have hcz14_1 : wc.cell? ⟨gb160, 1, none⟩ = some (.int .i64 a0_1) := (blk_cell BK160.out 1).trans rfl
          have hcz14_2 : wc.cell? ⟨gb160, 2, none⟩ = some (.int .i64 a0_2) := (blk_cell BK160.out 2).trans rfl
          have hcz14_3 : wc.cell? ⟨gb160, 3, none⟩ = some (.int .i64 a0_3) := (blk_cell BK160.out 3).trans rfl
          have hcz14_4 : wc.cell? ⟨gb160, 4, none⟩ = some (.string a0_4) := (blk_cell BK160.out 4).trans rfl
          have hcz14_5 : wc.cell? ⟨gb160, 5, none⟩ = some (.int .i64 a0_5) := (blk_cell BK160.out 5).trans rfl
          have hcz14_6 : wc.cell? ⟨gb160, 6, none⟩ = some (.string a0_6) := (blk_cell BK160.out 6).trans rfl
          have hcz14_7 : wc.cell? ⟨gb160, 7, none⟩ = some (.string a0_7) := (blk_cell BK160.out 7).trans rfl
          have hcz14_8 : wc.cell? ⟨gb160, 8, none⟩ = some (.string a0_8) := (blk_cell BK160.out 8).trans rfl
          have hcz14_9 : wc.cell? ⟨gb160, 9, none⟩ = some (.string a0_9) := (blk_cell BK160.out 9).trans rfl
          have hcz14_10 : wc.cell? ⟨gb160, 10, none⟩ = some (.int .i64 a0_10) := (blk_cell BK160.out 10).trans rfl
          have hfz14_0 := blk_frozen BK160.out 0
          have hfz14_1 := blk_frozen BK160.out 1
          have hfz14_2 := blk_frozen BK160.out 2
          have hfz14_3 := blk_frozen BK160.out 3
          have hfz14_4 := blk_frozen BK160.out 4
          have hfz14_5 := blk_frozen BK160.out 5
          have hfz14_6 := blk_frozen BK160.out 6
          have hfz14_7 := blk_frozen BK160.out 7
          have hfz14_8 := blk_frozen BK160.out 8
          have hfz14_9 := blk_frozen BK160.out 9
          have hfz14_10 := blk_frozen BK160.out 10
          go_wp2_with (first | ((with_reducible refine gate_callee (f := 31) rfl ?_); refine goesL_ (some 15) rfl rfl Tryd.func31 (by kernel_rfl) rfl #[.int .i64 a0_3] rfl (by (try simp only [List.map_toArray, List.map_cons, List.map_nil]); first | done | rfl | (simp only [List.length_drop, List.length_take]; rfl)) ?_; (with_reducible refine (stanchionref16_small.calls a0_3 false _ A10.out).mono ?_); rintro e w' ⟨rfl, ⟨nd, rfl⟩⟩; refine ⟨_, rfl, ?_⟩))
          go_meet
          case rel => exact ⟨_, (false), (by first | rfl | (simp; done) | (simp [*]; done)), H', ⟨by have := HJ1.out; first | omega | exact Nat.le_refl _⟩, ⟨by (with_reducible repeat (first | refine blk_drewN ?_ _ | refine blk_drew ?_ | refine blk_alloc ?_ _)); exact BK160.out⟩, ⟨by repeat (first | (with_reducible first | exact HB.out | apply below_alloc | apply pw_below_drewN | apply below_drew1 | refine below_set ?_ GE160.out) | exact HB.out)⟩⟩
      case rest =>
        clear HC9
        try clear c1
        try clear p2
        try clear c3
        try clear c5
        try clear c11
        try clear c14
        try clear hcz13_0
        try clear hcz13_1
        try clear hcz13_10
        try clear hcz13_2
        try clear hcz13_3
        try clear hcz13_4
        try clear hcz13_5
        try clear hcz13_6
        try clear hcz13_7
        try clear hcz13_8
        try clear hcz13_9
        try clear hcz14_0
        try clear hcz14_1
        try clear hcz14_10
        try clear hcz14_2
        try clear hcz14_3
        try clear hcz14_4
        try clear hcz14_5
        try clear hcz14_6
        try clear hcz14_7
        try clear hcz14_8
        try clear hcz14_9
        try clear hcz7_0
        try clear hcz7_1
        try clear hcz7_10
        try clear hcz7_2
        try clear hcz7_3
        try clear hcz7_4
        try clear hcz7_5
        try clear hcz7_6
        try clear hcz7_7
        try clear hcz7_8
        try clear hcz7_9
        try clear hcz8_0
        try clear hcz8_1
        try clear hcz8_10
        try clear hcz8_2
        try clear hcz8_3
        try clear hcz8_4
        try clear hcz8_5
        try clear hcz8_6
        try clear hcz8_7
        try clear hcz8_8
        try clear hcz8_9
        try clear hfz13_0
        try clear hfz13_1
        try clear hfz13_10
        try clear hfz13_2
        try clear hfz13_3
        try clear hfz13_4
        try clear hfz13_5
        try clear hfz13_6
        try clear hfz13_7
        try clear hfz13_8
        try clear hfz13_9
        try clear hfz14_0
        try clear hfz14_1
        try clear hfz14_10
        try clear hfz14_2
        try clear hfz14_3
        try clear hfz14_4
        try clear hfz14_5
        try clear hfz14_6
        try clear hfz14_7
        try clear hfz14_8
        try clear hfz14_9
        try clear hfz7_0
        try clear hfz7_1
        try clear hfz7_10
        try clear hfz7_2
        try clear hfz7_3
        try clear hfz7_4
        try clear hfz7_5
        try clear hfz7_6
        try clear hfz7_7
        try clear hfz7_8
        try clear hfz7_9
        try clear hfz8_0
        try clear hfz8_1
        try clear hfz8_10
        try clear hfz8_2
        try clear hfz8_3
        try clear hfz8_4
        try clear hfz8_5
        try clear hfz8_6
        try clear hfz8_7
        try clear hfz8_8
        try clear hfz8_9
        try clear p2
        obtain ⟨kq, x4_8, rfl, HA, HJ8, BK160, HB⟩ := hcut
        cases kq with
        | zero => exact absurd HA.out (by simp [stanchionref16_MayReq.j1])
        | succ kj8 =>
          have H := HA.out
          clear HA
          simp only [stanchionref16_MayReq.j1] at H
          have HC15 := Aside0.mk H
          clear H
          go_upto_region 3 with (fail)
          go_cut [43] (fun v43 wc => ∃ (kq : Nat) (x43_14 : Bool), v43 = .bool x43_14 ∧ Aside0 (stanchionref16_MayReq.j2 kq x43_14 a0_0 a0_1 a0_2 a0_3 a0_4 a0_5 a0_6 a0_7 a0_8 a0_9 a0_10 = some r) ∧ Aside0 (kq ≤ kj8) ∧ Aside0 (wc.heap[gb160]? = some (.cells #[.int .i64 a0_0, .int .i64 a0_1, .int .i64 a0_2, .int .i64 a0_3, .string a0_4, .int .i64 a0_5, .string a0_6, .string a0_7, .string a0_8, .string a0_9, .int .i64 a0_10] 25 (0, 0))) ∧ Aside0 (Below w.heap.size w wc))
          case first =>
            have H := HC15.out
            clear HC15
            by_cases c16 : a0_0 < 1
            · rw [if_pos c16] at H
              have c16b0 : decide (a0_0 < 1) = true := decide_eq_true c16
              clear c16
              (first | rw [c16b0] | (simp only [i64_w, i32_w]; rw [c16b0]) | skip)
              have H' := Aside0.mk H
              clear H
              have hcz17_0 : wc.cell? ⟨gb160, 0, none⟩ = some (.int .i64 a0_0) := (blk_cell BK160.out 0).trans rfl
              have hcz17_1 : wc.cell? ⟨gb160, 1, none⟩ = some (.int .i64 a0_1) := (blk_cell BK160.out 1).trans rfl
              have hcz17_2 : wc.cell? ⟨gb160, 2, none⟩ = some (.int .i64 a0_2) := (blk_cell BK160.out 2).trans rfl
              have hcz17_3 : wc.cell? ⟨gb160, 3, none⟩ = some (.int .i64 a0_3) := (blk_cell BK160.out 3).trans rfl
              have hcz17_4 : wc.cell? ⟨gb160, 4, none⟩ = some (.string a0_4) := (blk_cell BK160.out 4).trans rfl
              have hcz17_5 : wc.cell? ⟨gb160, 5, none⟩ = some (.int .i64 a0_5) := (blk_cell BK160.out 5).trans rfl
              have hcz17_6 : wc.cell? ⟨gb160, 6, none⟩ = some (.string a0_6) := (blk_cell BK160.out 6).trans rfl
              have hcz17_7 : wc.cell? ⟨gb160, 7, none⟩ = some (.string a0_7) := (blk_cell BK160.out 7).trans rfl
              have hcz17_8 : wc.cell? ⟨gb160, 8, none⟩ = some (.string a0_8) := (blk_cell BK160.out 8).trans rfl
              have hcz17_9 : wc.cell? ⟨gb160, 9, none⟩ = some (.string a0_9) := (blk_cell BK160.out 9).trans rfl
              have hcz17_10 : wc.cell? ⟨gb160, 10, none⟩ = some (.int .i64 a0_10) := (blk_cell BK160.out 10).trans rfl
              have hfz17_0 := blk_frozen BK160.out 0
              have hfz17_1 := blk_frozen BK160.out 1
              have hfz17_2 := blk_frozen BK160.out 2
              have hfz17_3 := blk_frozen BK160.out 3
              have hfz17_4 := blk_frozen BK160.out 4
              have hfz17_5 := blk_frozen BK160.out 5
              have hfz17_6 := blk_frozen BK160.out 6
              have hfz17_7 := blk_frozen BK160.out 7
              have hfz17_8 := blk_frozen BK160.out 8
              have hfz17_9 := blk_frozen BK160.out 9
              have hfz17_10 := blk_frozen BK160.out 10
              go_wp2
              go_meet
              case rel => exact ⟨_, (true), (by first | rfl | (simp; done) | (simp [*]; done)), H', ⟨by have := HJ1.out; have := HJ8.out; first | omega | exact Nat.le_refl _⟩, ⟨by (with_reducible repeat (first | refine blk_drewN ?_ _ | refine blk_drew ?_ | refine blk_alloc ?_ _)); exact BK160.out⟩, ⟨by repeat (first | (with_reducible first | exact HB.out | apply below_alloc | apply pw_below_drewN | apply below_drew1 | refine below_set ?_ GE160.out) | exact HB.out)⟩⟩
            · rw [if_neg c16] at H
              have c16b0 : decide (a0_0 < 1) = false := decide_eq_false c16
              clear c16
              (first | rw [c16b0] | (simp only [i64_w, i32_w]; rw [c16b0]) | skip)
              by_cases c18 : a0_0 > 6
              · rw [if_pos c18] at H
                have c18b0 : decide (6 < a0_0) = true := decide_eq_true c18
                clear c18
                have H' := Aside0.mk H
                clear H
                have hcz19_0 : wc.cell? ⟨gb160, 0, none⟩ = some (.int .i64 a0_0) := (blk_cell BK160.out 0).trans rfl
                have hcz19_1 : wc.cell? ⟨gb160, 1, none⟩ = some (.int .i64 a0_1) := (blk_cell BK160.out 1).trans rfl
                have hcz19_2 : wc.cell? ⟨gb160, 2, none⟩ = some (.int .i64 a0_2) := (blk_cell BK160.out 2).trans rfl
                have hcz19_3 : wc.cell? ⟨gb160, 3, none⟩ = some (.int .i64 a0_3) := (blk_cell BK160.out 3).trans rfl
                have hcz19_4 : wc.cell? ⟨gb160, 4, none⟩ = some (.string a0_4) := (blk_cell BK160.out 4).trans rfl
                have hcz19_5 : wc.cell? ⟨gb160, 5, none⟩ = some (.int .i64 a0_5) := (blk_cell BK160.out 5).trans rfl
                have hcz19_6 : wc.cell? ⟨gb160, 6, none⟩ = some (.string a0_6) := (blk_cell BK160.out 6).trans rfl
                have hcz19_7 : wc.cell? ⟨gb160, 7, none⟩ = some (.string a0_7) := (blk_cell BK160.out 7).trans rfl
                have hcz19_8 : wc.cell? ⟨gb160, 8, none⟩ = some (.string a0_8) := (blk_cell BK160.out 8).trans rfl
                have hcz19_9 : wc.cell? ⟨gb160, 9, none⟩ = some (.string a0_9) := (blk_cell BK160.out 9).trans rfl
                have hcz19_10 : wc.cell? ⟨gb160, 10, none⟩ = some (.int .i64 a0_10) := (blk_cell BK160.out 10).trans rfl
                have hfz19_0 := blk_frozen BK160.out 0
                have hfz19_1 := blk_frozen BK160.out 1
                have hfz19_2 := blk_frozen BK160.out 2
                have hfz19_3 := blk_frozen BK160.out 3
                have hfz19_4 := blk_frozen BK160.out 4
                have hfz19_5 := blk_frozen BK160.out 5
                have hfz19_6 := blk_frozen BK160.out 6
                have hfz19_7 := blk_frozen BK160.out 7
                have hfz19_8 := blk_frozen BK160.out 8
                have hfz19_9 := blk_frozen BK160.out 9
                have hfz19_10 := blk_frozen BK160.out 10
                go_wp2
                go_meet
                case rel => exact ⟨_, (true), (by first | rfl | (simp; done) | (simp [*]; done)), H', ⟨by have := HJ1.out; have := HJ8.out; first | omega | exact Nat.le_refl _⟩, ⟨by (with_reducible repeat (first | refine blk_drewN ?_ _ | refine blk_drew ?_ | refine blk_alloc ?_ _)); exact BK160.out⟩, ⟨by repeat (first | (with_reducible first | exact HB.out | apply below_alloc | apply pw_below_drewN | apply below_drew1 | refine below_set ?_ GE160.out) | exact HB.out)⟩⟩
              · rw [if_neg c18] at H
                have c18b0 : decide (6 < a0_0) = false := decide_eq_false c18
                clear c18
                by_cases c20 : x3_1 = true
                · subst c20
                  have H1 : (if x4_8 = true then (stanchionref16_MayReq.j2 kj8 (decide ((a0_4.size : Int) > 16)) a0_0 a0_1 a0_2 a0_3 a0_4 a0_5 a0_6 a0_7 a0_8 a0_9 a0_10) else (stanchionref16_MayReq.j2 kj8 true a0_0 a0_1 a0_2 a0_3 a0_4 a0_5 a0_6 a0_7 a0_8 a0_9 a0_10)) = some r := by rw [if_pos rfl] at H; exact H
                  clear H
                  have H := H1
                  clear H1
                  by_cases c21 : x4_8 = true
                  · subst c21
                    have H1 : (stanchionref16_MayReq.j2 kj8 (decide ((a0_4.size : Int) > 16)) a0_0 a0_1 a0_2 a0_3 a0_4 a0_5 a0_6 a0_7 a0_8 a0_9 a0_10) = some r := by rw [if_pos rfl] at H; exact H
                    clear H
                    have H := H1
                    clear H1
                    have H' := Aside0.mk H
                    clear H
                    have hcz22_0 : wc.cell? ⟨gb160, 0, none⟩ = some (.int .i64 a0_0) := (blk_cell BK160.out 0).trans rfl
                    have hcz22_1 : wc.cell? ⟨gb160, 1, none⟩ = some (.int .i64 a0_1) := (blk_cell BK160.out 1).trans rfl
                    have hcz22_2 : wc.cell? ⟨gb160, 2, none⟩ = some (.int .i64 a0_2) := (blk_cell BK160.out 2).trans rfl
                    have hcz22_3 : wc.cell? ⟨gb160, 3, none⟩ = some (.int .i64 a0_3) := (blk_cell BK160.out 3).trans rfl
                    have hcz22_4 : wc.cell? ⟨gb160, 4, none⟩ = some (.string a0_4) := (blk_cell BK160.out 4).trans rfl
                    have hcz22_5 : wc.cell? ⟨gb160, 5, none⟩ = some (.int .i64 a0_5) := (blk_cell BK160.out 5).trans rfl
                    have hcz22_6 : wc.cell? ⟨gb160, 6, none⟩ = some (.string a0_6) := (blk_cell BK160.out 6).trans rfl
                    have hcz22_7 : wc.cell? ⟨gb160, 7, none⟩ = some (.string a0_7) := (blk_cell BK160.out 7).trans rfl
                    have hcz22_8 : wc.cell? ⟨gb160, 8, none⟩ = some (.string a0_8) := (blk_cell BK160.out 8).trans rfl
                    have hcz22_9 : wc.cell? ⟨gb160, 9, none⟩ = some (.string a0_9) := (blk_cell BK160.out 9).trans rfl
                    have hcz22_10 : wc.cell? ⟨gb160, 10, none⟩ = some (.int .i64 a0_10) := (blk_cell BK160.out 10).trans rfl
                    have hfz22_0 := blk_frozen BK160.out 0
                    have hfz22_1 := blk_frozen BK160.out 1
                    have hfz22_2 := blk_frozen BK160.out 2
                    have hfz22_3 := blk_frozen BK160.out 3
                    have hfz22_4 := blk_frozen BK160.out 4
                    have hfz22_5 := blk_frozen BK160.out 5
                    have hfz22_6 := blk_frozen BK160.out 6
                    have hfz22_7 := blk_frozen BK160.out 7
                    have hfz22_8 := blk_frozen BK160.out 8
                    have hfz22_9 := blk_frozen BK160.out 9
                    have hfz22_10 := blk_frozen BK160.out 10
                    go_wp2
                    go_meet
                    case rel => exact ⟨_, (decide ((a0_4.size : Int) > 16)), (by first | rfl | (simp; done) | (simp [*]; done)), H', ⟨by have := HJ1.out; have := HJ8.out; first | omega | exact Nat.le_refl _⟩, ⟨by (with_reducible repeat (first | refine blk_drewN ?_ _ | refine blk_drew ?_ | refine blk_alloc ?_ _)); exact BK160.out⟩, ⟨by repeat (first | (with_reducible first | exact HB.out | apply below_alloc | apply pw_below_drewN | apply below_drew1 | refine below_set ?_ GE160.out) | exact HB.out)⟩⟩
                  · replace c21 := Bool.eq_false_iff.mpr c21
                    subst c21
                    have H1 : (stanchionref16_MayReq.j2 kj8 true a0_0 a0_1 a0_2 a0_3 a0_4 a0_5 a0_6 a0_7 a0_8 a0_9 a0_10) = some r := by rw [if_neg (show ¬ (false = true) by decide)] at H; exact H
                    clear H
                    have H := H1
                    clear H1
                    have H' := Aside0.mk H
                    clear H
                    have hcz23_0 : wc.cell? ⟨gb160, 0, none⟩ = some (.int .i64 a0_0) := (blk_cell BK160.out 0).trans rfl
                    have hcz23_1 : wc.cell? ⟨gb160, 1, none⟩ = some (.int .i64 a0_1) := (blk_cell BK160.out 1).trans rfl
                    have hcz23_2 : wc.cell? ⟨gb160, 2, none⟩ = some (.int .i64 a0_2) := (blk_cell BK160.out 2).trans rfl
                    have hcz23_3 : wc.cell? ⟨gb160, 3, none⟩ = some (.int .i64 a0_3) := (blk_cell BK160.out 3).trans rfl
                    have hcz23_4 : wc.cell? ⟨gb160, 4, none⟩ = some (.string a0_4) := (blk_cell BK160.out 4).trans rfl
                    have hcz23_5 : wc.cell? ⟨gb160, 5, none⟩ = some (.int .i64 a0_5) := (blk_cell BK160.out 5).trans rfl
                    have hcz23_6 : wc.cell? ⟨gb160, 6, none⟩ = some (.string a0_6) := (blk_cell BK160.out 6).trans rfl
                    have hcz23_7 : wc.cell? ⟨gb160, 7, none⟩ = some (.string a0_7) := (blk_cell BK160.out 7).trans rfl
                    have hcz23_8 : wc.cell? ⟨gb160, 8, none⟩ = some (.string a0_8) := (blk_cell BK160.out 8).trans rfl
                    have hcz23_9 : wc.cell? ⟨gb160, 9, none⟩ = some (.string a0_9) := (blk_cell BK160.out 9).trans rfl
                    have hcz23_10 : wc.cell? ⟨gb160, 10, none⟩ = some (.int .i64 a0_10) := (blk_cell BK160.out 10).trans rfl
                    have hfz23_0 := blk_frozen BK160.out 0
                    have hfz23_1 := blk_frozen BK160.out 1
                    have hfz23_2 := blk_frozen BK160.out 2
                    have hfz23_3 := blk_frozen BK160.out 3
                    have hfz23_4 := blk_frozen BK160.out 4
                    have hfz23_5 := blk_frozen BK160.out 5
                    have hfz23_6 := blk_frozen BK160.out 6
                    have hfz23_7 := blk_frozen BK160.out 7
                    have hfz23_8 := blk_frozen BK160.out 8
                    have hfz23_9 := blk_frozen BK160.out 9
                    have hfz23_10 := blk_frozen BK160.out 10
                    go_wp2
                    go_meet
                    case rel => exact ⟨_, (true), (by first | rfl | (simp; done) | (simp [*]; done)), H', ⟨by have := HJ1.out; have := HJ8.out; first | omega | exact Nat.le_refl _⟩, ⟨by (with_reducible repeat (first | refine blk_drewN ?_ _ | refine blk_drew ?_ | refine blk_alloc ?_ _)); exact BK160.out⟩, ⟨by repeat (first | (with_reducible first | exact HB.out | apply below_alloc | apply pw_below_drewN | apply below_drew1 | refine below_set ?_ GE160.out) | exact HB.out)⟩⟩
                · replace c20 := Bool.eq_false_iff.mpr c20
                  subst c20
                  have H1 : (stanchionref16_MayReq.j2 kj8 true a0_0 a0_1 a0_2 a0_3 a0_4 a0_5 a0_6 a0_7 a0_8 a0_9 a0_10) = some r := by rw [if_neg (show ¬ (false = true) by decide)] at H; exact H
                  clear H
                  have H := H1
                  clear H1
                  have H' := Aside0.mk H
                  clear H
                  have hcz24_0 : wc.cell? ⟨gb160, 0, none⟩ = some (.int .i64 a0_0) := (blk_cell BK160.out 0).trans rfl
                  have hcz24_1 : wc.cell? ⟨gb160, 1, none⟩ = some (.int .i64 a0_1) := (blk_cell BK160.out 1).trans rfl
                  have hcz24_2 : wc.cell? ⟨gb160, 2, none⟩ = some (.int .i64 a0_2) := (blk_cell BK160.out 2).trans rfl
                  have hcz24_3 : wc.cell? ⟨gb160, 3, none⟩ = some (.int .i64 a0_3) := (blk_cell BK160.out 3).trans rfl
                  have hcz24_4 : wc.cell? ⟨gb160, 4, none⟩ = some (.string a0_4) := (blk_cell BK160.out 4).trans rfl
                  have hcz24_5 : wc.cell? ⟨gb160, 5, none⟩ = some (.int .i64 a0_5) := (blk_cell BK160.out 5).trans rfl
                  have hcz24_6 : wc.cell? ⟨gb160, 6, none⟩ = some (.string a0_6) := (blk_cell BK160.out 6).trans rfl
                  have hcz24_7 : wc.cell? ⟨gb160, 7, none⟩ = some (.string a0_7) := (blk_cell BK160.out 7).trans rfl
                  have hcz24_8 : wc.cell? ⟨gb160, 8, none⟩ = some (.string a0_8) := (blk_cell BK160.out 8).trans rfl
                  have hcz24_9 : wc.cell? ⟨gb160, 9, none⟩ = some (.string a0_9) := (blk_cell BK160.out 9).trans rfl
                  have hcz24_10 : wc.cell? ⟨gb160, 10, none⟩ = some (.int .i64 a0_10) := (blk_cell BK160.out 10).trans rfl
                  have hfz24_0 := blk_frozen BK160.out 0
                  have hfz24_1 := blk_frozen BK160.out 1
                  have hfz24_2 := blk_frozen BK160.out 2
                  have hfz24_3 := blk_frozen BK160.out 3
                  have hfz24_4 := blk_frozen BK160.out 4
                  have hfz24_5 := blk_frozen BK160.out 5
                  have hfz24_6 := blk_frozen BK160.out 6
                  have hfz24_7 := blk_frozen BK160.out 7
                  have hfz24_8 := blk_frozen BK160.out 8
                  have hfz24_9 := blk_frozen BK160.out 9
                  have hfz24_10 := blk_frozen BK160.out 10
                  go_wp2
                  go_meet
                  case rel => exact ⟨_, (true), (by first | rfl | (simp; done) | (simp [*]; done)), H', ⟨by have := HJ1.out; have := HJ8.out; first | omega | exact Nat.le_refl _⟩, ⟨by (with_reducible repeat (first | refine blk_drewN ?_ _ | refine blk_drew ?_ | refine blk_alloc ?_ _)); exact BK160.out⟩, ⟨by repeat (first | (with_reducible first | exact HB.out | apply below_alloc | apply pw_below_drewN | apply below_drew1 | refine below_set ?_ GE160.out) | exact HB.out)⟩⟩
          case rest =>
            clear HC15
            try clear c1
            try clear c2
            try clear p2
            try clear c3
            try clear c5
            try clear c11
            try clear c14
            try clear c16
            try clear c16b0
            try clear c18
            try clear c18b0
            try clear c20
            try clear c21
            try clear hcz13_0
            try clear hcz13_1
            try clear hcz13_10
            try clear hcz13_2
            try clear hcz13_3
            try clear hcz13_4
            try clear hcz13_5
            try clear hcz13_6
            try clear hcz13_7
            try clear hcz13_8
            try clear hcz13_9
            try clear hcz14_0
            try clear hcz14_1
            try clear hcz14_10
            try clear hcz14_2
            try clear hcz14_3
            try clear hcz14_4
            try clear hcz14_5
            try clear hcz14_6
            try clear hcz14_7
            try clear hcz14_8
            try clear hcz14_9
            try clear hcz17_0
            try clear hcz17_1
            try clear hcz17_10
            try clear hcz17_2
            try clear hcz17_3
            try clear hcz17_4
            try clear hcz17_5
            try clear hcz17_6
            try clear hcz17_7
            try clear hcz17_8
            try clear hcz17_9
            try clear hcz19_0
            try clear hcz19_1
            try clear hcz19_10
            try clear hcz19_2
            try clear hcz19_3
            try clear hcz19_4
            try clear hcz19_5
            try clear hcz19_6
            try clear hcz19_7
            try clear hcz19_8
            try clear hcz19_9
            try clear hcz22_0
            try clear hcz22_1
            try clear hcz22_10
            try clear hcz22_2
            try clear hcz22_3
            try clear hcz22_4
            try clear hcz22_5
            try clear hcz22_6
            try clear hcz22_7
            try clear hcz22_8
            try clear hcz22_9
            try clear hcz23_0
            try clear hcz23_1
            try clear hcz23_10
            try clear hcz23_2
            try clear hcz23_3
            try clear hcz23_4
            try clear hcz23_5
            try clear hcz23_6
            try clear hcz23_7
            try clear hcz23_8
            try clear hcz23_9
            try clear hcz24_0
            try clear hcz24_1
            try clear hcz24_10
            try clear hcz24_2
            try clear hcz24_3
            try clear hcz24_4
            try clear hcz24_5
            try clear hcz24_6
            try clear hcz24_7
            try clear hcz24_8
            try clear hcz24_9
            try clear hcz7_0
            try clear hcz7_1
            try clear hcz7_10
            try clear hcz7_2
            try clear hcz7_3
            try clear hcz7_4
            try clear hcz7_5
            try clear hcz7_6
            try clear hcz7_7
            try clear hcz7_8
            try clear hcz7_9
            try clear hcz8_0
            try clear hcz8_1
            try clear hcz8_10
            try clear hcz8_2
            try clear hcz8_3
            try clear hcz8_4
            try clear hcz8_5
            try clear hcz8_6
            try clear hcz8_7
            try clear hcz8_8
            try clear hcz8_9
            try clear hfz13_0
            try clear hfz13_1
            try clear hfz13_10
            try clear hfz13_2
            try clear hfz13_3
            try clear hfz13_4
            try clear hfz13_5
            try clear hfz13_6
            try clear hfz13_7
            try clear hfz13_8
            try clear hfz13_9
            try clear hfz14_0
            try clear hfz14_1
            try clear hfz14_10
            try clear hfz14_2
            try clear hfz14_3
            try clear hfz14_4
            try clear hfz14_5
            try clear hfz14_6
            try clear hfz14_7
            try clear hfz14_8
            try clear hfz14_9
            try clear hfz17_0
            try clear hfz17_1
            try clear hfz17_10
            try clear hfz17_2
            try clear hfz17_3
            try clear hfz17_4
            try clear hfz17_5
            try clear hfz17_6
            try clear hfz17_7
            try clear hfz17_8
            try clear hfz17_9
            try clear hfz19_0
            try clear hfz19_1
            try clear hfz19_10
            try clear hfz19_2
            try clear hfz19_3
            try clear hfz19_4
            try clear hfz19_5
            try clear hfz19_6
            try clear hfz19_7
            try clear hfz19_8
            try clear hfz19_9
            try clear hfz22_0
            try clear hfz22_1
            try clear hfz22_10
            try clear hfz22_2
            try clear hfz22_3
            try clear hfz22_4
            try clear hfz22_5
            try clear hfz22_6
            try clear hfz22_7
            try clear hfz22_8
            try clear hfz22_9
            try clear hfz23_0
            try clear hfz23_1
            try clear hfz23_10
            try clear hfz23_2
            try clear hfz23_3
            try clear hfz23_4
            try clear hfz23_5
            try clear hfz23_6
            try clear hfz23_7
            try clear hfz23_8
            try clear hfz23_9
            try clear hfz24_0
            try clear hfz24_1
            try clear hfz24_10
            try clear hfz24_2
            try clear hfz24_3
            try clear hfz24_4
            try clear hfz24_5
            try clear hfz24_6
            try clear hfz24_7
            try clear hfz24_8
            try clear hfz24_9
            try clear hfz7_0
            try clear hfz7_1
            try clear hfz7_10
            try clear hfz7_2
            try clear hfz7_3
            try clear hfz7_4
            try clear hfz7_5
            try clear hfz7_6
            try clear hfz7_7
            try clear hfz7_8
            try clear hfz7_9
            try clear hfz8_0
            try clear hfz8_1
            try clear hfz8_10
            try clear hfz8_2
            try clear hfz8_3
            try clear hfz8_4
            try clear hfz8_5
            try clear hfz8_6
            try clear hfz8_7
            try clear hfz8_8
            try clear hfz8_9
            try clear p2
            obtain ⟨kq, x43_14, rfl, HA, HJ14, BK160, HB⟩ := hcut
            cases kq with
            | zero => exact absurd HA.out (by simp [stanchionref16_MayReq.j2])
            | succ kj14 =>
              have H := HA.out
              clear HA
              simp only [stanchionref16_MayReq.j2] at H
              by_cases c25 : x43_14 = true
              · subst c25
                have H1 : (some false) = some r := by rw [if_pos rfl] at H; exact H
                clear H
                have H := H1
                clear H1
                obtain rfl := Option.some.inj H
                go_wp2
                go_ret
                exact ⟨by first | rfl | (simp [errW_none, errW_some] <;> rfl) | (simp [*, errW_none, errW_some] <;> rfl), by repeat (first | (with_reducible first | exact HB.out | apply below_alloc | apply pw_below_drewN | apply below_drew1 | refine below_set ?_ GE160.out) | exact HB.out)⟩
              · replace c25 := Bool.eq_false_iff.mpr c25
                subst c25
                have H1 : (if a0_0 = 4 then (stanchionref16_MayReq.j3 kj14 false a0_0 a0_1 a0_2 a0_3 a0_4 a0_5 a0_6 a0_7 a0_8 a0_9 a0_10) else (if a0_0 = 6 then (stanchionref16_MayReq.j3 kj14 false a0_0 a0_1 a0_2 a0_3 a0_4 a0_5 a0_6 a0_7 a0_8 a0_9 a0_10) else (stanchionref16_MayReq.j3 kj14 (decide ((a0_4.size : Int) > 0)) a0_0 a0_1 a0_2 a0_3 a0_4 a0_5 a0_6 a0_7 a0_8 a0_9 a0_10))) = some r := by rw [if_neg (show ¬ (false = true) by decide)] at H; exact H
                clear H
                have H := H1
                clear H1
                have HC26 := Aside0.mk H
                clear H
                go_upto_region 5 with (fail)
                go_cut [57] (fun v57 wc => ∃ (kq : Nat) (x57_25 : Bool), v57 = .bool x57_25 ∧ Aside0 (stanchionref16_MayReq.j3 kq x57_25 a0_0 a0_1 a0_2 a0_3 a0_4 a0_5 a0_6 a0_7 a0_8 a0_9 a0_10 = some r) ∧ Aside0 (kq ≤ kj14) ∧ Aside0 (wc.heap[gb160]? = some (.cells #[.int .i64 a0_0, .int .i64 a0_1, .int .i64 a0_2, .int .i64 a0_3, .string a0_4, .int .i64 a0_5, .string a0_6, .string a0_7, .string a0_8, .string a0_9, .int .i64 a0_10] 25 (0, 0))) ∧ Aside0 (Below w.heap.size w wc))
                case first =>
                  have H := HC26.out
                  clear HC26
                  by_cases c27 : a0_0 = 4
                  · rw [if_pos c27] at H
                    have c27b0 : (a0_0 == 4) = true := beq_iff_eq.mpr c27
                    have c27b1 : (a0_0 != 4) = false := bne_eq_false_iff_eq.mpr c27
                    clear c27
                    (first | rw [c27b0] | (simp only [i64_w, i32_w]; rw [c27b0]) | skip)
                    have H' := Aside0.mk H
                    clear H
                    have hcz28_0 : wc.cell? ⟨gb160, 0, none⟩ = some (.int .i64 a0_0) := (blk_cell BK160.out 0).trans rfl
                    have hcz28_1 : wc.cell? ⟨gb160, 1, none⟩ = some (.int .i64 a0_1) := (blk_cell BK160.out 1).trans rfl
                    have hcz28_2 : wc.cell? ⟨gb160, 2, none⟩ = some (.int .i64 a0_2) := (blk_cell BK160.out 2).trans rfl
                    have hcz28_3 : wc.cell? ⟨gb160, 3, none⟩ = some (.int .i64 a0_3) := (blk_cell BK160.out 3).trans rfl
                    have hcz28_4 : wc.cell? ⟨gb160, 4, none⟩ = some (.string a0_4) := (blk_cell BK160.out 4).trans rfl
                    have hcz28_5 : wc.cell? ⟨gb160, 5, none⟩ = some (.int .i64 a0_5) := (blk_cell BK160.out 5).trans rfl
                    have hcz28_6 : wc.cell? ⟨gb160, 6, none⟩ = some (.string a0_6) := (blk_cell BK160.out 6).trans rfl
                    have hcz28_7 : wc.cell? ⟨gb160, 7, none⟩ = some (.string a0_7) := (blk_cell BK160.out 7).trans rfl
                    have hcz28_8 : wc.cell? ⟨gb160, 8, none⟩ = some (.string a0_8) := (blk_cell BK160.out 8).trans rfl
                    have hcz28_9 : wc.cell? ⟨gb160, 9, none⟩ = some (.string a0_9) := (blk_cell BK160.out 9).trans rfl
                    have hcz28_10 : wc.cell? ⟨gb160, 10, none⟩ = some (.int .i64 a0_10) := (blk_cell BK160.out 10).trans rfl
                    have hfz28_0 := blk_frozen BK160.out 0
                    have hfz28_1 := blk_frozen BK160.out 1
                    have hfz28_2 := blk_frozen BK160.out 2
                    have hfz28_3 := blk_frozen BK160.out 3
                    have hfz28_4 := blk_frozen BK160.out 4
                    have hfz28_5 := blk_frozen BK160.out 5
                    have hfz28_6 := blk_frozen BK160.out 6
                    have hfz28_7 := blk_frozen BK160.out 7
                    have hfz28_8 := blk_frozen BK160.out 8
                    have hfz28_9 := blk_frozen BK160.out 9
                    have hfz28_10 := blk_frozen BK160.out 10
                    go_wp2
                    go_meet
                    case rel => exact ⟨_, (false), (by first | rfl | (simp; done) | (simp [*]; done)), H', ⟨by have := HJ1.out; have := HJ8.out; have := HJ14.out; first | omega | exact Nat.le_refl _⟩, ⟨by (with_reducible repeat (first | refine blk_drewN ?_ _ | refine blk_drew ?_ | refine blk_alloc ?_ _)); exact BK160.out⟩, ⟨by repeat (first | (with_reducible first | exact HB.out | apply below_alloc | apply pw_below_drewN | apply below_drew1 | refine below_set ?_ GE160.out) | exact HB.out)⟩⟩
                  · rw [if_neg c27] at H
                    have c27b0 : (a0_0 == 4) = false := beq_eq_false_iff_ne.mpr c27
                    have c27b1 : (a0_0 != 4) = true := bne_iff_ne.mpr c27
                    (first | rw [c27b0] | (simp only [i64_w, i32_w]; rw [c27b0]) | skip)
                    by_cases c29 : a0_0 = 6
                    · rw [if_pos c29] at H
                      have c29b0 : (a0_0 == 6) = true := beq_iff_eq.mpr c29
                      have c29b1 : (a0_0 != 6) = false := bne_eq_false_iff_eq.mpr c29
                      clear c29
                      have H' := Aside0.mk H
                      clear H
                      have hcz30_0 : wc.cell? ⟨gb160, 0, none⟩ = some (.int .i64 a0_0) := (blk_cell BK160.out 0).trans rfl
                      have hcz30_1 : wc.cell? ⟨gb160, 1, none⟩ = some (.int .i64 a0_1) := (blk_cell BK160.out 1).trans rfl
                      have hcz30_2 : wc.cell? ⟨gb160, 2, none⟩ = some (.int .i64 a0_2) := (blk_cell BK160.out 2).trans rfl
                      have hcz30_3 : wc.cell? ⟨gb160, 3, none⟩ = some (.int .i64 a0_3) := (blk_cell BK160.out 3).trans rfl
                      have hcz30_4 : wc.cell? ⟨gb160, 4, none⟩ = some (.string a0_4) := (blk_cell BK160.out 4).trans rfl
                      have hcz30_5 : wc.cell? ⟨gb160, 5, none⟩ = some (.int .i64 a0_5) := (blk_cell BK160.out 5).trans rfl
                      have hcz30_6 : wc.cell? ⟨gb160, 6, none⟩ = some (.string a0_6) := (blk_cell BK160.out 6).trans rfl
                      have hcz30_7 : wc.cell? ⟨gb160, 7, none⟩ = some (.string a0_7) := (blk_cell BK160.out 7).trans rfl
                      have hcz30_8 : wc.cell? ⟨gb160, 8, none⟩ = some (.string a0_8) := (blk_cell BK160.out 8).trans rfl
                      have hcz30_9 : wc.cell? ⟨gb160, 9, none⟩ = some (.string a0_9) := (blk_cell BK160.out 9).trans rfl
                      have hcz30_10 : wc.cell? ⟨gb160, 10, none⟩ = some (.int .i64 a0_10) := (blk_cell BK160.out 10).trans rfl
                      have hfz30_0 := blk_frozen BK160.out 0
                      have hfz30_1 := blk_frozen BK160.out 1
                      have hfz30_2 := blk_frozen BK160.out 2
                      have hfz30_3 := blk_frozen BK160.out 3
                      have hfz30_4 := blk_frozen BK160.out 4
                      have hfz30_5 := blk_frozen BK160.out 5
                      have hfz30_6 := blk_frozen BK160.out 6
                      have hfz30_7 := blk_frozen BK160.out 7
                      have hfz30_8 := blk_frozen BK160.out 8
                      have hfz30_9 := blk_frozen BK160.out 9
                      have hfz30_10 := blk_frozen BK160.out 10
                      go_wp2
                      go_meet
                      case rel => exact ⟨_, (false), (by first | rfl | (simp; done) | (simp [*]; done)), H', ⟨by have := HJ1.out; have := HJ8.out; have := HJ14.out; first | omega | exact Nat.le_refl _⟩, ⟨by (with_reducible repeat (first | refine blk_drewN ?_ _ | refine blk_drew ?_ | refine blk_alloc ?_ _)); exact BK160.out⟩, ⟨by repeat (first | (with_reducible first | exact HB.out | apply below_alloc | apply pw_below_drewN | apply below_drew1 | refine below_set ?_ GE160.out) | exact HB.out)⟩⟩
                    · rw [if_neg c29] at H
                      have c29b0 : (a0_0 == 6) = false := beq_eq_false_iff_ne.mpr c29
                      have c29b1 : (a0_0 != 6) = true := bne_iff_ne.mpr c29
                      have H' := Aside0.mk H
                      clear H
                      have hcz31_0 : wc.cell? ⟨gb160, 0, none⟩ = some (.int .i64 a0_0) := (blk_cell BK160.out 0).trans rfl
                      have hcz31_1 : wc.cell? ⟨gb160, 1, none⟩ = some (.int .i64 a0_1) := (blk_cell BK160.out 1).trans rfl
                      have hcz31_2 : wc.cell? ⟨gb160, 2, none⟩ = some (.int .i64 a0_2) := (blk_cell BK160.out 2).trans rfl
                      have hcz31_3 : wc.cell? ⟨gb160, 3, none⟩ = some (.int .i64 a0_3) := (blk_cell BK160.out 3).trans rfl
                      have hcz31_4 : wc.cell? ⟨gb160, 4, none⟩ = some (.string a0_4) := (blk_cell BK160.out 4).trans rfl
                      have hcz31_5 : wc.cell? ⟨gb160, 5, none⟩ = some (.int .i64 a0_5) := (blk_cell BK160.out 5).trans rfl
                      have hcz31_6 : wc.cell? ⟨gb160, 6, none⟩ = some (.string a0_6) := (blk_cell BK160.out 6).trans rfl
                      have hcz31_7 : wc.cell? ⟨gb160, 7, none⟩ = some (.string a0_7) := (blk_cell BK160.out 7).trans rfl
                      have hcz31_8 : wc.cell? ⟨gb160, 8, none⟩ = some (.string a0_8) := (blk_cell BK160.out 8).trans rfl
                      have hcz31_9 : wc.cell? ⟨gb160, 9, none⟩ = some (.string a0_9) := (blk_cell BK160.out 9).trans rfl
                      have hcz31_10 : wc.cell? ⟨gb160, 10, none⟩ = some (.int .i64 a0_10) := (blk_cell BK160.out 10).trans rfl
                      have hfz31_0 := blk_frozen BK160.out 0
                      have hfz31_1 := blk_frozen BK160.out 1
                      have hfz31_2 := blk_frozen BK160.out 2
                      have hfz31_3 := blk_frozen BK160.out 3
                      have hfz31_4 := blk_frozen BK160.out 4
                      have hfz31_5 := blk_frozen BK160.out 5
                      have hfz31_6 := blk_frozen BK160.out 6
                      have hfz31_7 := blk_frozen BK160.out 7
                      have hfz31_8 := blk_frozen BK160.out 8
                      have hfz31_9 := blk_frozen BK160.out 9
                      have hfz31_10 := blk_frozen BK160.out 10
                      go_wp2
                      go_meet
                      case rel => exact ⟨_, (decide ((a0_4.size : Int) > 0)), (by first | rfl | (simp; done) | (simp [*]; done)), H', ⟨by have := HJ1.out; have := HJ8.out; have := HJ14.out; first | omega | exact Nat.le_refl _⟩, ⟨by (with_reducible repeat (first | refine blk_drewN ?_ _ | refine blk_drew ?_ | refine blk_alloc ?_ _)); exact BK160.out⟩, ⟨by repeat (first | (with_reducible first | exact HB.out | apply below_alloc | apply pw_below_drewN | apply below_drew1 | refine below_set ?_ GE160.out) | exact HB.out)⟩⟩
                case rest =>
                  clear HC26
                  try clear c1
                  try clear c2
                  try clear p2
                  try clear c3
                  try clear c5
                  try clear c11
                  try clear c14
                  try clear c16
                  try clear c16b0
                  try clear c18
                  try clear c18b0
                  try clear c20
                  try clear c21
                  try clear c25
                  try clear c27
                  try clear c27b0
                  try clear c27b1
                  try clear c29
                  try clear c29b0
                  try clear c29b1
                  try clear hcz13_0
                  try clear hcz13_1
                  try clear hcz13_10
                  try clear hcz13_2
                  try clear hcz13_3
                  try clear hcz13_4
                  try clear hcz13_5
                  try clear hcz13_6
                  try clear hcz13_7
                  try clear hcz13_8
                  try clear hcz13_9
                  try clear hcz14_0
                  try clear hcz14_1
                  try clear hcz14_10
                  try clear hcz14_2
                  try clear hcz14_3
                  try clear hcz14_4
                  try clear hcz14_5
                  try clear hcz14_6
                  try clear hcz14_7
                  try clear hcz14_8
                  try clear hcz14_9
                  try clear hcz17_0
                  try clear hcz17_1
                  try clear hcz17_10
                  try clear hcz17_2
                  try clear hcz17_3
                  try clear hcz17_4
                  try clear hcz17_5
                  try clear hcz17_6
                  try clear hcz17_7
                  try clear hcz17_8
                  try clear hcz17_9
                  try clear hcz19_0
                  try clear hcz19_1
                  try clear hcz19_10
                  try clear hcz19_2
                  try clear hcz19_3
                  try clear hcz19_4
                  try clear hcz19_5
                  try clear hcz19_6
                  try clear hcz19_7
                  try clear hcz19_8
                  try clear hcz19_9
                  try clear hcz22_0
                  try clear hcz22_1
                  try clear hcz22_10
                  try clear hcz22_2
                  try clear hcz22_3
                  try clear hcz22_4
                  try clear hcz22_5
                  try clear hcz22_6
                  try clear hcz22_7
                  try clear hcz22_8
                  try clear hcz22_9
                  try clear hcz23_0
                  try clear hcz23_1
                  try clear hcz23_10
                  try clear hcz23_2
                  try clear hcz23_3
                  try clear hcz23_4
                  try clear hcz23_5
                  try clear hcz23_6
                  try clear hcz23_7
                  try clear hcz23_8
                  try clear hcz23_9
                  try clear hcz24_0
                  try clear hcz24_1
                  try clear hcz24_10
                  try clear hcz24_2
                  try clear hcz24_3
                  try clear hcz24_4
                  try clear hcz24_5
                  try clear hcz24_6
                  try clear hcz24_7
                  try clear hcz24_8
                  try clear hcz24_9
                  try clear hcz28_0
                  try clear hcz28_1
                  try clear hcz28_10
                  try clear hcz28_2
                  try clear hcz28_3
                  try clear hcz28_4
                  try clear hcz28_5
                  try clear hcz28_6
                  try clear hcz28_7
                  try clear hcz28_8
                  try clear hcz28_9
                  try clear hcz30_0
                  try clear hcz30_1
                  try clear hcz30_10
                  try clear hcz30_2
                  try clear hcz30_3
                  try clear hcz30_4
                  try clear hcz30_5
                  try clear hcz30_6
                  try clear hcz30_7
                  try clear hcz30_8
                  try clear hcz30_9
                  try clear hcz31_0
                  try clear hcz31_1
                  try clear hcz31_10
                  try clear hcz31_2
                  try clear hcz31_3
                  try clear hcz31_4
                  try clear hcz31_5
                  try clear hcz31_6
                  try clear hcz31_7
                  try clear hcz31_8
                  try clear hcz31_9
                  try clear hcz7_0
                  try clear hcz7_1
                  try clear hcz7_10
                  try clear hcz7_2
                  try clear hcz7_3
                  try clear hcz7_4
                  try clear hcz7_5
                  try clear hcz7_6
                  try clear hcz7_7
                  try clear hcz7_8
                  try clear hcz7_9
                  try clear hcz8_0
                  try clear hcz8_1
                  try clear hcz8_10
                  try clear hcz8_2
                  try clear hcz8_3
                  try clear hcz8_4
                  try clear hcz8_5
                  try clear hcz8_6
                  try clear hcz8_7
                  try clear hcz8_8
                  try clear hcz8_9
                  try clear hfz13_0
                  try clear hfz13_1
                  try clear hfz13_10
                  try clear hfz13_2
                  try clear hfz13_3
                  try clear hfz13_4
                  try clear hfz13_5
                  try clear hfz13_6
                  try clear hfz13_7
                  try clear hfz13_8
                  try clear hfz13_9
                  try clear hfz14_0
                  try clear hfz14_1
                  try clear hfz14_10
                  try clear hfz14_2
                  try clear hfz14_3
                  try clear hfz14_4
                  try clear hfz14_5
                  try clear hfz14_6
                  try clear hfz14_7
                  try clear hfz14_8
                  try clear hfz14_9
                  try clear hfz17_0
                  try clear hfz17_1
                  try clear hfz17_10
                  try clear hfz17_2
                  try clear hfz17_3
                  try clear hfz17_4
                  try clear hfz17_5
                  try clear hfz17_6
                  try clear hfz17_7
                  try clear hfz17_8
                  try clear hfz17_9
                  try clear hfz19_0
                  try clear hfz19_1
                  try clear hfz19_10
                  try clear hfz19_2
                  try clear hfz19_3
                  try clear hfz19_4
                  try clear hfz19_5
                  try clear hfz19_6
                  try clear hfz19_7
                  try clear hfz19_8
                  try clear hfz19_9
                  try clear hfz22_0
                  try clear hfz22_1
                  try clear hfz22_10
                  try clear hfz22_2
                  try clear hfz22_3
                  try clear hfz22_4
                  try clear hfz22_5
                  try clear hfz22_6
                  try clear hfz22_7
                  try clear hfz22_8
                  try clear hfz22_9
                  try clear hfz23_0
                  try clear hfz23_1
                  try clear hfz23_10
                  try clear hfz23_2
                  try clear hfz23_3
                  try clear hfz23_4
                  try clear hfz23_5
                  try clear hfz23_6
                  try clear hfz23_7
                  try clear hfz23_8
                  try clear hfz23_9
                  try clear hfz24_0
                  try clear hfz24_1
                  try clear hfz24_10
                  try clear hfz24_2
                  try clear hfz24_3
                  try clear hfz24_4
                  try clear hfz24_5
                  try clear hfz24_6
                  try clear hfz24_7
                  try clear hfz24_8
                  try clear hfz24_9
                  try clear hfz28_0
                  try clear hfz28_1
                  try clear hfz28_10
                  try clear hfz28_2
                  try clear hfz28_3
                  try clear hfz28_4
                  try clear hfz28_5
                  try clear hfz28_6
                  try clear hfz28_7
                  try clear hfz28_8
                  try clear hfz28_9
                  try clear hfz30_0
                  try clear hfz30_1
                  try clear hfz30_10
                  try clear hfz30_2
                  try clear hfz30_3
                  try clear hfz30_4
                  try clear hfz30_5
                  try clear hfz30_6
                  try clear hfz30_7
                  try clear hfz30_8
                  try clear hfz30_9
                  try clear hfz31_0
                  try clear hfz31_1
                  try clear hfz31_10
                  try clear hfz31_2
                  try clear hfz31_3
                  try clear hfz31_4
                  try clear hfz31_5
                  try clear hfz31_6
                  try clear hfz31_7
                  try clear hfz31_8
                  try clear hfz31_9
                  try clear hfz7_0
                  try clear hfz7_1
                  try clear hfz7_10
                  try clear hfz7_2
                  try clear hfz7_3
                  try clear hfz7_4
                  try clear hfz7_5
                  try clear hfz7_6
                  try clear hfz7_7
                  try clear hfz7_8
                  try clear hfz7_9
                  try clear hfz8_0
                  try clear hfz8_1
                  try clear hfz8_10
                  try clear hfz8_2
                  try clear hfz8_3
                  try clear hfz8_4
                  try clear hfz8_5
                  try clear hfz8_6
                  try clear hfz8_7
                  try clear hfz8_8
                  try clear hfz8_9
                  try clear p2
                  obtain ⟨kq, x57_25, rfl, HA, HJ25, BK160, HB⟩ := hcut
                  cases kq with
                  | zero => exact absurd HA.out (by simp [stanchionref16_MayReq.j3])
                  | succ kj25 =>
                    have H := HA.out
                    clear HA
                    simp only [stanchionref16_MayReq.j3] at H
                    by_cases c32 : x57_25 = true
                    · subst c32
                      have H1 : (some false) = some r := by rw [if_pos rfl] at H; exact H
                      clear H
                      have H := H1
                      clear H1
                      obtain rfl := Option.some.inj H
                      go_wp2
                      go_ret
                      exact ⟨by first | rfl | (simp [errW_none, errW_some] <;> rfl) | (simp [*, errW_none, errW_some] <;> rfl), by repeat (first | (with_reducible first | exact HB.out | apply below_alloc | apply pw_below_drewN | apply below_drew1 | refine below_set ?_ GE160.out) | exact HB.out)⟩
                    · replace c32 := Bool.eq_false_iff.mpr c32
                      subst c32
                      have H1 : (if a0_0 = 5 then (if a0_5 ≥ 1 then (if a0_5 ≤ 6 then (if (a0_6.size : Int) ≤ 32 then (if (a0_8.size : Int) ≤ 32 then (if (a0_9.size : Int) ≤ 32 then (some (decide ((a0_7.size : Int) ≤ 64))) else (some false)) else (some false)) else (some false)) else (some false)) else (some false)) else (some (a0_5 == 0 && (a0_6.toList.isEmpty && (a0_7.toList.isEmpty && (a0_8.toList.isEmpty && (a0_9.toList.isEmpty && (a0_10 == 0)))))))) = some r := by rw [if_neg (show ¬ (false = true) by decide)] at H; exact H
                      clear H
                      have H := H1
                      clear H1
                      by_cases c33 : a0_0 = 5
                      · rw [if_pos c33] at H
                        have c33b0 : (a0_0 == 5) = true := beq_iff_eq.mpr c33
                        have c33b1 : (a0_0 != 5) = false := bne_eq_false_iff_eq.mpr c33
                        clear c33
                        by_cases c34 : a0_5 ≥ 1
                        · rw [if_pos c34] at H
                          have c34b0 : decide (1 ≤ a0_5) = true := decide_eq_true c34
                          clear c34
                          by_cases c35 : a0_5 ≤ 6
                          · rw [if_pos c35] at H
                            have c35b0 : decide (a0_5 ≤ 6) = true := decide_eq_true c35
                            clear c35
                            by_cases c36 : (a0_6.size : Int) ≤ 32
                            · rw [if_pos c36] at H
                              have c36b0 : decide ((a0_6.size : Int) ≤ 32) = true := decide_eq_true c36
                              have c36b1 : decide (a0_6.size ≤ 32) = true := decide_eq_true (by omega)
                              clear c36
                              by_cases c37 : (a0_8.size : Int) ≤ 32
                              · rw [if_pos c37] at H
                                have c37b0 : decide ((a0_8.size : Int) ≤ 32) = true := decide_eq_true c37
                                have c37b1 : decide (a0_8.size ≤ 32) = true := decide_eq_true (by omega)
                                clear c37
                                by_cases c38 : (a0_9.size : Int) ≤ 32
                                · rw [if_pos c38] at H
                                  have c38b0 : decide ((a0_9.size : Int) ≤ 32) = true := decide_eq_true c38
                                  have c38b1 : decide (a0_9.size ≤ 32) = true := decide_eq_true (by omega)
                                  clear c38
                                  obtain rfl := Option.some.inj H
                                  have hcz39_0 : wc.cell? ⟨gb160, 0, none⟩ = some (.int .i64 a0_0) := (blk_cell BK160.out 0).trans rfl
                                  have hcz39_1 : wc.cell? ⟨gb160, 1, none⟩ = some (.int .i64 a0_1) := (blk_cell BK160.out 1).trans rfl
                                  have hcz39_2 : wc.cell? ⟨gb160, 2, none⟩ = some (.int .i64 a0_2) := (blk_cell BK160.out 2).trans rfl
                                  have hcz39_3 : wc.cell? ⟨gb160, 3, none⟩ = some (.int .i64 a0_3) := (blk_cell BK160.out 3).trans rfl
                                  have hcz39_4 : wc.cell? ⟨gb160, 4, none⟩ = some (.string a0_4) := (blk_cell BK160.out 4).trans rfl
                                  have hcz39_5 : wc.cell? ⟨gb160, 5, none⟩ = some (.int .i64 a0_5) := (blk_cell BK160.out 5).trans rfl
                                  have hcz39_6 : wc.cell? ⟨gb160, 6, none⟩ = some (.string a0_6) := (blk_cell BK160.out 6).trans rfl
                                  have hcz39_7 : wc.cell? ⟨gb160, 7, none⟩ = some (.string a0_7) := (blk_cell BK160.out 7).trans rfl
                                  have hcz39_8 : wc.cell? ⟨gb160, 8, none⟩ = some (.string a0_8) := (blk_cell BK160.out 8).trans rfl
                                  have hcz39_9 : wc.cell? ⟨gb160, 9, none⟩ = some (.string a0_9) := (blk_cell BK160.out 9).trans rfl
                                  have hcz39_10 : wc.cell? ⟨gb160, 10, none⟩ = some (.int .i64 a0_10) := (blk_cell BK160.out 10).trans rfl
                                  have hfz39_0 := blk_frozen BK160.out 0
                                  have hfz39_1 := blk_frozen BK160.out 1
                                  have hfz39_2 := blk_frozen BK160.out 2
                                  have hfz39_3 := blk_frozen BK160.out 3
                                  have hfz39_4 := blk_frozen BK160.out 4
                                  have hfz39_5 := blk_frozen BK160.out 5
                                  have hfz39_6 := blk_frozen BK160.out 6
                                  have hfz39_7 := blk_frozen BK160.out 7
                                  have hfz39_8 := blk_frozen BK160.out 8
                                  have hfz39_9 := blk_frozen BK160.out 9
                                  have hfz39_10 := blk_frozen BK160.out 10
                                  go_wp2
                                  go_ret
                                  exact ⟨by first | rfl | (simp [errW_none, errW_some] <;> rfl) | (simp [*, errW_none, errW_some] <;> rfl), by repeat (first | (with_reducible first | exact HB.out | apply below_alloc | apply pw_below_drewN | apply below_drew1 | refine below_set ?_ GE160.out) | exact HB.out)⟩
                                · rw [if_neg c38] at H
                                  have c38b0 : decide ((a0_9.size : Int) ≤ 32) = false := decide_eq_false c38
                                  have c38b1 : decide (a0_9.size ≤ 32) = false := decide_eq_false (by omega)
                                  clear c38
                                  obtain rfl := Option.some.inj H
                                  have hcz40_0 : wc.cell? ⟨gb160, 0, none⟩ = some (.int .i64 a0_0) := (blk_cell BK160.out 0).trans rfl
                                  have hcz40_1 : wc.cell? ⟨gb160, 1, none⟩ = some (.int .i64 a0_1) := (blk_cell BK160.out 1).trans rfl
                                  have hcz40_2 : wc.cell? ⟨gb160, 2, none⟩ = some (.int .i64 a0_2) := (blk_cell BK160.out 2).trans rfl
                                  have hcz40_3 : wc.cell? ⟨gb160, 3, none⟩ = some (.int .i64 a0_3) := (blk_cell BK160.out 3).trans rfl
                                  have hcz40_4 : wc.cell? ⟨gb160, 4, none⟩ = some (.string a0_4) := (blk_cell BK160.out 4).trans rfl
                                  have hcz40_5 : wc.cell? ⟨gb160, 5, none⟩ = some (.int .i64 a0_5) := (blk_cell BK160.out 5).trans rfl
                                  have hcz40_6 : wc.cell? ⟨gb160, 6, none⟩ = some (.string a0_6) := (blk_cell BK160.out 6).trans rfl
                                  have hcz40_7 : wc.cell? ⟨gb160, 7, none⟩ = some (.string a0_7) := (blk_cell BK160.out 7).trans rfl
                                  have hcz40_8 : wc.cell? ⟨gb160, 8, none⟩ = some (.string a0_8) := (blk_cell BK160.out 8).trans rfl
                                  have hcz40_9 : wc.cell? ⟨gb160, 9, none⟩ = some (.string a0_9) := (blk_cell BK160.out 9).trans rfl
                                  have hcz40_10 : wc.cell? ⟨gb160, 10, none⟩ = some (.int .i64 a0_10) := (blk_cell BK160.out 10).trans rfl
                                  have hfz40_0 := blk_frozen BK160.out 0
                                  have hfz40_1 := blk_frozen BK160.out 1
                                  have hfz40_2 := blk_frozen BK160.out 2
                                  have hfz40_3 := blk_frozen BK160.out 3
                                  have hfz40_4 := blk_frozen BK160.out 4
                                  have hfz40_5 := blk_frozen BK160.out 5
                                  have hfz40_6 := blk_frozen BK160.out 6
                                  have hfz40_7 := blk_frozen BK160.out 7
                                  have hfz40_8 := blk_frozen BK160.out 8
                                  have hfz40_9 := blk_frozen BK160.out 9
                                  have hfz40_10 := blk_frozen BK160.out 10
                                  go_wp2
                                  go_ret
                                  exact ⟨by first | rfl | (simp [errW_none, errW_some] <;> rfl) | (simp [*, errW_none, errW_some] <;> rfl), by repeat (first | (with_reducible first | exact HB.out | apply below_alloc | apply pw_below_drewN | apply below_drew1 | refine below_set ?_ GE160.out) | exact HB.out)⟩
                              · rw [if_neg c37] at H
                                have c37b0 : decide ((a0_8.size : Int) ≤ 32) = false := decide_eq_false c37
                                have c37b1 : decide (a0_8.size ≤ 32) = false := decide_eq_false (by omega)
                                clear c37
                                obtain rfl := Option.some.inj H
                                have hcz41_0 : wc.cell? ⟨gb160, 0, none⟩ = some (.int .i64 a0_0) := (blk_cell BK160.out 0).trans rfl
                                have hcz41_1 : wc.cell? ⟨gb160, 1, none⟩ = some (.int .i64 a0_1) := (blk_cell BK160.out 1).trans rfl
                                have hcz41_2 : wc.cell? ⟨gb160, 2, none⟩ = some (.int .i64 a0_2) := (blk_cell BK160.out 2).trans rfl
                                have hcz41_3 : wc.cell? ⟨gb160, 3, none⟩ = some (.int .i64 a0_3) := (blk_cell BK160.out 3).trans rfl
                                have hcz41_4 : wc.cell? ⟨gb160, 4, none⟩ = some (.string a0_4) := (blk_cell BK160.out 4).trans rfl
                                have hcz41_5 : wc.cell? ⟨gb160, 5, none⟩ = some (.int .i64 a0_5) := (blk_cell BK160.out 5).trans rfl
                                have hcz41_6 : wc.cell? ⟨gb160, 6, none⟩ = some (.string a0_6) := (blk_cell BK160.out 6).trans rfl
                                have hcz41_7 : wc.cell? ⟨gb160, 7, none⟩ = some (.string a0_7) := (blk_cell BK160.out 7).trans rfl
                                have hcz41_8 : wc.cell? ⟨gb160, 8, none⟩ = some (.string a0_8) := (blk_cell BK160.out 8).trans rfl
                                have hcz41_9 : wc.cell? ⟨gb160, 9, none⟩ = some (.string a0_9) := (blk_cell BK160.out 9).trans rfl
                                have hcz41_10 : wc.cell? ⟨gb160, 10, none⟩ = some (.int .i64 a0_10) := (blk_cell BK160.out 10).trans rfl
                                have hfz41_0 := blk_frozen BK160.out 0
                                have hfz41_1 := blk_frozen BK160.out 1
                                have hfz41_2 := blk_frozen BK160.out 2
                                have hfz41_3 := blk_frozen BK160.out 3
                                have hfz41_4 := blk_frozen BK160.out 4
                                have hfz41_5 := blk_frozen BK160.out 5
                                have hfz41_6 := blk_frozen BK160.out 6
                                have hfz41_7 := blk_frozen BK160.out 7
                                have hfz41_8 := blk_frozen BK160.out 8
                                have hfz41_9 := blk_frozen BK160.out 9
                                have hfz41_10 := blk_frozen BK160.out 10
                                go_wp2
                                go_ret
                                exact ⟨by first | rfl | (simp [errW_none, errW_some] <;> rfl) | (simp [*, errW_none, errW_some] <;> rfl), by repeat (first | (with_reducible first | exact HB.out | apply below_alloc | apply pw_below_drewN | apply below_drew1 | refine below_set ?_ GE160.out) | exact HB.out)⟩
                            · rw [if_neg c36] at H
                              have c36b0 : decide ((a0_6.size : Int) ≤ 32) = false := decide_eq_false c36
                              have c36b1 : decide (a0_6.size ≤ 32) = false := decide_eq_false (by omega)
                              clear c36
                              obtain rfl := Option.some.inj H
                              have hcz42_0 : wc.cell? ⟨gb160, 0, none⟩ = some (.int .i64 a0_0) := (blk_cell BK160.out 0).trans rfl
                              have hcz42_1 : wc.cell? ⟨gb160, 1, none⟩ = some (.int .i64 a0_1) := (blk_cell BK160.out 1).trans rfl
                              have hcz42_2 : wc.cell? ⟨gb160, 2, none⟩ = some (.int .i64 a0_2) := (blk_cell BK160.out 2).trans rfl
                              have hcz42_3 : wc.cell? ⟨gb160, 3, none⟩ = some (.int .i64 a0_3) := (blk_cell BK160.out 3).trans rfl
                              have hcz42_4 : wc.cell? ⟨gb160, 4, none⟩ = some (.string a0_4) := (blk_cell BK160.out 4).trans rfl
                              have hcz42_5 : wc.cell? ⟨gb160, 5, none⟩ = some (.int .i64 a0_5) := (blk_cell BK160.out 5).trans rfl
                              have hcz42_6 : wc.cell? ⟨gb160, 6, none⟩ = some (.string a0_6) := (blk_cell BK160.out 6).trans rfl
                              have hcz42_7 : wc.cell? ⟨gb160, 7, none⟩ = some (.string a0_7) := (blk_cell BK160.out 7).trans rfl
                              have hcz42_8 : wc.cell? ⟨gb160, 8, none⟩ = some (.string a0_8) := (blk_cell BK160.out 8).trans rfl
                              have hcz42_9 : wc.cell? ⟨gb160, 9, none⟩ = some (.string a0_9) := (blk_cell BK160.out 9).trans rfl
                              have hcz42_10 : wc.cell? ⟨gb160, 10, none⟩ = some (.int .i64 a0_10) := (blk_cell BK160.out 10).trans rfl
                              have hfz42_0 := blk_frozen BK160.out 0
                              have hfz42_1 := blk_frozen BK160.out 1
                              have hfz42_2 := blk_frozen BK160.out 2
                              have hfz42_3 := blk_frozen BK160.out 3
                              have hfz42_4 := blk_frozen BK160.out 4
                              have hfz42_5 := blk_frozen BK160.out 5
                              have hfz42_6 := blk_frozen BK160.out 6
                              have hfz42_7 := blk_frozen BK160.out 7
                              have hfz42_8 := blk_frozen BK160.out 8
                              have hfz42_9 := blk_frozen BK160.out 9
                              have hfz42_10 := blk_frozen BK160.out 10
                              go_wp2
                              go_ret
                              exact ⟨by first | rfl | (simp [errW_none, errW_some] <;> rfl) | (simp [*, errW_none, errW_some] <;> rfl), by repeat (first | (with_reducible first | exact HB.out | apply below_alloc | apply pw_below_drewN | apply below_drew1 | refine below_set ?_ GE160.out) | exact HB.out)⟩
                          · rw [if_neg c35] at H
                            have c35b0 : decide (a0_5 ≤ 6) = false := decide_eq_false c35
                            clear c35
                            obtain rfl := Option.some.inj H
                            have hcz43_0 : wc.cell? ⟨gb160, 0, none⟩ = some (.int .i64 a0_0) := (blk_cell BK160.out 0).trans rfl
                            have hcz43_1 : wc.cell? ⟨gb160, 1, none⟩ = some (.int .i64 a0_1) := (blk_cell BK160.out 1).trans rfl
                            have hcz43_2 : wc.cell? ⟨gb160, 2, none⟩ = some (.int .i64 a0_2) := (blk_cell BK160.out 2).trans rfl
                            have hcz43_3 : wc.cell? ⟨gb160, 3, none⟩ = some (.int .i64 a0_3) := (blk_cell BK160.out 3).trans rfl
                            have hcz43_4 : wc.cell? ⟨gb160, 4, none⟩ = some (.string a0_4) := (blk_cell BK160.out 4).trans rfl
                            have hcz43_5 : wc.cell? ⟨gb160, 5, none⟩ = some (.int .i64 a0_5) := (blk_cell BK160.out 5).trans rfl
                            have hcz43_6 : wc.cell? ⟨gb160, 6, none⟩ = some (.string a0_6) := (blk_cell BK160.out 6).trans rfl
                            have hcz43_7 : wc.cell? ⟨gb160, 7, none⟩ = some (.string a0_7) := (blk_cell BK160.out 7).trans rfl
                            have hcz43_8 : wc.cell? ⟨gb160, 8, none⟩ = some (.string a0_8) := (blk_cell BK160.out 8).trans rfl
                            have hcz43_9 : wc.cell? ⟨gb160, 9, none⟩ = some (.string a0_9) := (blk_cell BK160.out 9).trans rfl
                            have hcz43_10 : wc.cell? ⟨gb160, 10, none⟩ = some (.int .i64 a0_10) := (blk_cell BK160.out 10).trans rfl
                            have hfz43_0 := blk_frozen BK160.out 0
                            have hfz43_1 := blk_frozen BK160.out 1
                            have hfz43_2 := blk_frozen BK160.out 2
                            have hfz43_3 := blk_frozen BK160.out 3
                            have hfz43_4 := blk_frozen BK160.out 4
                            have hfz43_5 := blk_frozen BK160.out 5
                            have hfz43_6 := blk_frozen BK160.out 6
                            have hfz43_7 := blk_frozen BK160.out 7
                            have hfz43_8 := blk_frozen BK160.out 8
                            have hfz43_9 := blk_frozen BK160.out 9
                            have hfz43_10 := blk_frozen BK160.out 10
                            go_wp2
                            go_ret
                            exact ⟨by first | rfl | (simp [errW_none, errW_some] <;> rfl) | (simp [*, errW_none, errW_some] <;> rfl), by repeat (first | (with_reducible first | exact HB.out | apply below_alloc | apply pw_below_drewN | apply below_drew1 | refine below_set ?_ GE160.out) | exact HB.out)⟩
                        · rw [if_neg c34] at H
                          have c34b0 : decide (1 ≤ a0_5) = false := decide_eq_false c34
                          clear c34
                          obtain rfl := Option.some.inj H
                          have hcz44_0 : wc.cell? ⟨gb160, 0, none⟩ = some (.int .i64 a0_0) := (blk_cell BK160.out 0).trans rfl
                          have hcz44_1 : wc.cell? ⟨gb160, 1, none⟩ = some (.int .i64 a0_1) := (blk_cell BK160.out 1).trans rfl
                          have hcz44_2 : wc.cell? ⟨gb160, 2, none⟩ = some (.int .i64 a0_2) := (blk_cell BK160.out 2).trans rfl
                          have hcz44_3 : wc.cell? ⟨gb160, 3, none⟩ = some (.int .i64 a0_3) := (blk_cell BK160.out 3).trans rfl
                          have hcz44_4 : wc.cell? ⟨gb160, 4, none⟩ = some (.string a0_4) := (blk_cell BK160.out 4).trans rfl
                          have hcz44_5 : wc.cell? ⟨gb160, 5, none⟩ = some (.int .i64 a0_5) := (blk_cell BK160.out 5).trans rfl
                          have hcz44_6 : wc.cell? ⟨gb160, 6, none⟩ = some (.string a0_6) := (blk_cell BK160.out 6).trans rfl
                          have hcz44_7 : wc.cell? ⟨gb160, 7, none⟩ = some (.string a0_7) := (blk_cell BK160.out 7).trans rfl
                          have hcz44_8 : wc.cell? ⟨gb160, 8, none⟩ = some (.string a0_8) := (blk_cell BK160.out 8).trans rfl
                          have hcz44_9 : wc.cell? ⟨gb160, 9, none⟩ = some (.string a0_9) := (blk_cell BK160.out 9).trans rfl
                          have hcz44_10 : wc.cell? ⟨gb160, 10, none⟩ = some (.int .i64 a0_10) := (blk_cell BK160.out 10).trans rfl
                          have hfz44_0 := blk_frozen BK160.out 0
                          have hfz44_1 := blk_frozen BK160.out 1
                          have hfz44_2 := blk_frozen BK160.out 2
                          have hfz44_3 := blk_frozen BK160.out 3
                          have hfz44_4 := blk_frozen BK160.out 4
                          have hfz44_5 := blk_frozen BK160.out 5
                          have hfz44_6 := blk_frozen BK160.out 6
                          have hfz44_7 := blk_frozen BK160.out 7
                          have hfz44_8 := blk_frozen BK160.out 8
                          have hfz44_9 := blk_frozen BK160.out 9
                          have hfz44_10 := blk_frozen BK160.out 10
                          go_wp2
                          go_ret
                          exact ⟨by first | rfl | (simp [errW_none, errW_some] <;> rfl) | (simp [*, errW_none, errW_some] <;> rfl), by repeat (first | (with_reducible first | exact HB.out | apply below_alloc | apply pw_below_drewN | apply below_drew1 | refine below_set ?_ GE160.out) | exact HB.out)⟩
                      · rw [if_neg c33] at H
                        have c33b0 : (a0_0 == 5) = false := beq_eq_false_iff_ne.mpr c33
                        have c33b1 : (a0_0 != 5) = true := bne_iff_ne.mpr c33
                        obtain rfl := Option.some.inj H
                        have hcz45_0 : wc.cell? ⟨gb160, 0, none⟩ = some (.int .i64 a0_0) := (blk_cell BK160.out 0).trans rfl
                        have hcz45_1 : wc.cell? ⟨gb160, 1, none⟩ = some (.int .i64 a0_1) := (blk_cell BK160.out 1).trans rfl
                        have hcz45_2 : wc.cell? ⟨gb160, 2, none⟩ = some (.int .i64 a0_2) := (blk_cell BK160.out 2).trans rfl
                        have hcz45_3 : wc.cell? ⟨gb160, 3, none⟩ = some (.int .i64 a0_3) := (blk_cell BK160.out 3).trans rfl
                        have hcz45_4 : wc.cell? ⟨gb160, 4, none⟩ = some (.string a0_4) := (blk_cell BK160.out 4).trans rfl
                        have hcz45_5 : wc.cell? ⟨gb160, 5, none⟩ = some (.int .i64 a0_5) := (blk_cell BK160.out 5).trans rfl
                        have hcz45_6 : wc.cell? ⟨gb160, 6, none⟩ = some (.string a0_6) := (blk_cell BK160.out 6).trans rfl
                        have hcz45_7 : wc.cell? ⟨gb160, 7, none⟩ = some (.string a0_7) := (blk_cell BK160.out 7).trans rfl
                        have hcz45_8 : wc.cell? ⟨gb160, 8, none⟩ = some (.string a0_8) := (blk_cell BK160.out 8).trans rfl
                        have hcz45_9 : wc.cell? ⟨gb160, 9, none⟩ = some (.string a0_9) := (blk_cell BK160.out 9).trans rfl
                        have hcz45_10 : wc.cell? ⟨gb160, 10, none⟩ = some (.int .i64 a0_10) := (blk_cell BK160.out 10).trans rfl
                        have hfz45_0 := blk_frozen BK160.out 0
                        have hfz45_1 := blk_frozen BK160.out 1
                        have hfz45_2 := blk_frozen BK160.out 2
                        have hfz45_3 := blk_frozen BK160.out 3
                        have hfz45_4 := blk_frozen BK160.out 4
                        have hfz45_5 := blk_frozen BK160.out 5
                        have hfz45_6 := blk_frozen BK160.out 6
                        have hfz45_7 := blk_frozen BK160.out 7
                        have hfz45_8 := blk_frozen BK160.out 8
                        have hfz45_9 := blk_frozen BK160.out 9
                        have hfz45_10 := blk_frozen BK160.out 10
                        go_wp2
                        go_ret
                        exact ⟨by first | rfl | (simp [errW_none, errW_some] <;> rfl) | (simp [*, errW_none, errW_some] <;> rfl), by repeat (first | (with_reducible first | exact HB.out | apply below_alloc | apply pw_below_drewN | apply below_drew1 | refine below_set ?_ GE160.out) | exact HB.out)⟩

end Go.Proofs.YtlpcidjmaeicoaaDoor.QWi

/-! RefReq -/
/- The walk of the reference's TakeReq (written by wip/mkref.py). -/
namespace Go.Proofs.YtlpcidjmaeicoaaDoor.Reader
open Go Go.RowKit Go.Proofs.YtlpcidjmaeicoaaDoor.DecM Go.Proofs.YtlpcidjmaeicoaaDoor.Giv Go.Proofs.YtlpcidjmaeicoaaDoorW.PrintWords Go.Proofs.YtlpcidjmaeicoaaDoorW.PrintLast Go.Proofs.YtlpcidjmaeicoaaDoor.QWi

set_option linter.unusedSimpArgs false
set_option linter.unusedVariables false
theorem mayref_is (a0 a1 a2 a3 : Int) (t : ByteArray) (a5 : Int) (y v l h : ByteArray) (m : Int) (r : Bool) (hr : stanchionref16_MayReq.f 4 a0 a1 a2 a3 t a5 y v l h m = some r) (w : World) :
    Calls Tryd.prog 14 #[.agg #[.int .i64 a0, .int .i64 a1, .int .i64 a2, .int .i64 a3, .string t, .int .i64 a5, .string y, .string v, .string l, .string h, .int .i64 m]] w fun e w' => Gives (.bool r) w e w' :=
  (stanchionref16_MayReq.calls 4 a0 a1 a2 a3 t a5 y v l h m r w hr).mono fun e w' h => ⟨h.1, h.2⟩
set_option maxHeartbeats 4000000 in
set_option maxRecDepth 10000 in
theorem ref_walk (s : ByteArray) (w : World) (hs : s.size ≤ 2048) (v1 : Int × ByteArray × Bool) (v2 : Int × ByteArray × Bool) (v3 : Int × ByteArray × Bool) (v4 : Int × ByteArray × Bool) (v5 : ByteArray × ByteArray × Bool) (h1 : tkR s true = v1) (h2 : tkR v1.2.1 v1.2.2 = v2) (h3 : tkR v2.2.1 v2.2.2 = v3) (h4 : tkR v3.2.1 v3.2.2 = v4) (h5 : rdR v4.2.1 v4.2.2 16 = v5) (hk : ¬ v1.1 = 5) (mb : Bool) (hmb : stanchionref16_MayReq.f 4 v1.1 v2.1 v3.1 v4.1 v5.1 0 ⟨#[]⟩ ⟨#[]⟩ ⟨#[]⟩ ⟨#[]⟩ 0 = some mb)
    (P : Q12) (hP : (if v5.2.2 = false then zq 3 else if ¬ v5.2.1.size = 0 then zq 3 else if mb = true then (v1.1, v2.1, v3.1, v4.1, v5.1, 0, ⟨#[]⟩, ⟨#[]⟩, ⟨#[]⟩, ⟨#[]⟩, 0, 0) else zq 3) = P) :
    Calls Tryd.prog 12 #[.string s] w fun e w' => e = .returned (outQ P) ∧ Below w.heap.size w w' := by
  have c1 : decide (2048 < (s.size : Int)) = false := decide_eq_false (by omega)
  have z1 : v1.2.1.size ≤ s.size := by have h := tkR_size s true; rw [h1] at h; omega
  have z2 : v2.2.1.size ≤ s.size := by have h := tkR_size v1.2.1 v1.2.2; rw [h2] at h; omega
  have z3 : v3.2.1.size ≤ s.size := by have h := tkR_size v2.2.1 v2.2.2; rw [h3] at h; omega
  have z4 : v4.2.1.size ≤ s.size := by have h := tkR_size v3.2.1 v3.2.2; rw [h4] at h; omega
  have z5 : v5.2.1.size ≤ s.size := by have h := rdR_size v4.2.1 v4.2.2 16; rw [h5] at h; omega
  have HB0 := Lib.hid (Bk.start w #[.int .i64 0, .int .i64 0, .int .i64 0, .int .i64 0, .string ⟨#[]⟩, .int .i64 0, .string ⟨#[]⟩, .string ⟨#[]⟩, .string ⟨#[]⟩, .string ⟨#[]⟩, .int .i64 0] 25 (by simp))
  have Z1 := Lib.hid z1
  have H1 := Lib.hid h1
  have Z2 := Lib.hid z2
  have H2 := Lib.hid h2
  have Z3 := Lib.hid z3
  have H3 := Lib.hid h3
  have Z4 := Lib.hid z4
  have H4 := Lib.hid h4
  have Z5 := Lib.hid z5
  have H5 := Lib.hid h5
  have HSS := Lib.hid hs
  have HMB := Lib.hid hmb
  have HP := Lib.hid hP
  have HK := Lib.hid hk
  clear hs hmb hP hk z1 h1 z2 h2 z3 h3 z4 h4 z5 h5
  have ck : (v1.1 == 5) = false := beq_eq_false_iff_ne.mpr HK.out
  go_enter Tryd.func12, Tryd.ntmps12
  go_wp2_with (go_at_call 28; refine (takes_is 0 ⟨#[]⟩ s true (by have := HSS.out; have := HSS.out; omega) _).mono ?_)
  rintro e w1 ⟨rfl, b1⟩
  rw [H1.out]
  have B1 := HB0.out.call b1
  have HB1 := Lib.hid (B1.push #[.int .i64 v1.1, .string ⟨#[]⟩, .string v1.2.1, .bool v1.2.2] 67 (by simp))
  clear b1 B1 H1 HB0 
  go_wp2_with (go_at_call 28; refine (takes_is v1.1 ⟨#[]⟩ v1.2.1 v1.2.2 (by have := Z1.out; have := HSS.out; omega) _).mono ?_)
  rintro e w2 ⟨rfl, b2⟩
  rw [H2.out]
  have B2 := HB1.out.call b2
  have HB2 := Lib.hid (B2.push #[.int .i64 v2.1, .string ⟨#[]⟩, .string v2.2.1, .bool v2.2.2] 67 (by simp))
  clear b2 B2 H2 HB1 Z1
  go_wp2_with (go_at_call 28; refine (takes_is v2.1 ⟨#[]⟩ v2.2.1 v2.2.2 (by have := Z2.out; have := HSS.out; omega) _).mono ?_)
  rintro e w3 ⟨rfl, b3⟩
  rw [H3.out]
  have B3 := HB2.out.call b3
  have HB3 := Lib.hid (B3.push #[.int .i64 v3.1, .string ⟨#[]⟩, .string v3.2.1, .bool v3.2.2] 67 (by simp))
  clear b3 B3 H3 HB2 Z2
  go_wp2_with (go_at_call 28; refine (takes_is v3.1 ⟨#[]⟩ v3.2.1 v3.2.2 (by have := Z3.out; have := HSS.out; omega) _).mono ?_)
  rintro e w4 ⟨rfl, b4⟩
  rw [H4.out]
  have B4 := HB3.out.call b4
  have HB4 := Lib.hid (B4.push #[.int .i64 v4.1, .string ⟨#[]⟩, .string v4.2.1, .bool v4.2.2] 67 (by simp))
  clear b4 B4 H4 HB3 Z3
  go_wp2_with (go_at_call 29; refine (reads_is v4.1 ⟨#[]⟩ v4.2.1 v4.2.2 16 (by have := Z4.out; have := HSS.out; omega) (by omega) _).mono ?_)
  rintro e w5 ⟨rfl, b5⟩
  rw [H5.out]
  have B5 := HB4.out.call b5
  have HB5 := Lib.hid (B5.push #[.int .i64 0, .string v5.1, .string v5.2.1, .bool v5.2.2] 67 (by simp))
  clear b5 B5 H5 HB4 Z4
  have x1_0 := (HB5.out.at' 4 rfl).c 0 (by simp)
  simp only [List.getElem_cons_zero, List.getElem_cons_succ] at x1_0
  have x2_0 := (HB5.out.at' 3 rfl).c 0 (by simp)
  simp only [List.getElem_cons_zero, List.getElem_cons_succ] at x2_0
  have x3_0 := (HB5.out.at' 2 rfl).c 0 (by simp)
  simp only [List.getElem_cons_zero, List.getElem_cons_succ] at x3_0
  have x4_0 := (HB5.out.at' 1 rfl).c 0 (by simp)
  simp only [List.getElem_cons_zero, List.getElem_cons_succ] at x4_0
  have x5_1 := (HB5.out.at' 0 rfl).c 1 (by simp)
  simp only [List.getElem_cons_zero, List.getElem_cons_succ] at x5_1
  have HBq := Lib.hid (HB5.out.push #[.int .i64 v1.1, .int .i64 v2.1, .int .i64 v3.1, .int .i64 v4.1, .string v5.1, .int .i64 0, .string ⟨#[]⟩, .string ⟨#[]⟩, .string ⟨#[]⟩, .string ⟨#[]⟩, .int .i64 0] 25 (by simp))
  have hz5 : (w5.alloc (.cells #[.int .i64 0, .string v5.1, .string v5.2.1, .bool v5.2.2] 67)).heap.size = w5.heap.size + 1 := (by simp)
  rw [hz5] at HBq
  have r5_0 := (HBq.out.at' 1 rfl).c 0 (by simp)
  have r5_1 := (HBq.out.at' 1 rfl).c 1 (by simp)
  have r5_2 := (HBq.out.at' 1 rfl).c 2 (by simp)
  have r5_3 := (HBq.out.at' 1 rfl).c 3 (by simp)
  simp only [List.getElem_cons_zero, List.getElem_cons_succ] at r5_0 r5_1 r5_2 r5_3
  have HBl := Lib.hid (HBq.out.push #[.int .i64 0, .string v5.1, .string v5.2.1, .bool v5.2.2] 67 (by simp))
  have hz6 : ((w5.alloc (.cells #[.int .i64 0, .string v5.1, .string v5.2.1, .bool v5.2.2] 67)).alloc (.cells #[.int .i64 v1.1, .int .i64 v2.1, .int .i64 v3.1, .int .i64 v4.1, .string v5.1, .int .i64 0, .string ⟨#[]⟩, .string ⟨#[]⟩, .string ⟨#[]⟩, .string ⟨#[]⟩, .int .i64 0] 25)).heap.size = w5.heap.size + 1 + 1 := (by simp)
  rw [hz6] at HBl
  clear hz5 hz6 HBq
  have s1_0 := (HBl.out.at' 6 rfl).c 0 (by simp)
  simp only [List.getElem_cons_zero, List.getElem_cons_succ] at s1_0
  have q0 := (HBl.out.at' 1 rfl).c 0 (by simp)
  have q1 := (HBl.out.at' 1 rfl).c 1 (by simp)
  have q2 := (HBl.out.at' 1 rfl).c 2 (by simp)
  have q3 := (HBl.out.at' 1 rfl).c 3 (by simp)
  have q4 := (HBl.out.at' 1 rfl).c 4 (by simp)
  have q5 := (HBl.out.at' 1 rfl).c 5 (by simp)
  have q6 := (HBl.out.at' 1 rfl).c 6 (by simp)
  have q7 := (HBl.out.at' 1 rfl).c 7 (by simp)
  have q8 := (HBl.out.at' 1 rfl).c 8 (by simp)
  have q9 := (HBl.out.at' 1 rfl).c 9 (by simp)
  have q10 := (HBl.out.at' 1 rfl).c 10 (by simp)
  simp only [List.getElem_cons_zero, List.getElem_cons_succ] at q0 q1 q2 q3 q4 q5 q6 q7 q8 q9 q10
  go_wp2_with (go_at_call 14; refine (mayref_is v1.1 v2.1 v3.1 v4.1 v5.1 0 ⟨#[]⟩ ⟨#[]⟩ ⟨#[]⟩ ⟨#[]⟩ 0 mb HMB.out _).mono ?_)
  rintro e w20 ⟨rfl, b20⟩
  have HB20 := Lib.hid (HBl.out.call b20)
  clear b20 HMB HSS Z5 HK HBl x1_0 x2_0 x3_0 x4_0 x5_1 r5_0 r5_1 r5_2 r5_3 s1_0 q0 q1 q2 q3 q4 q5 q6 q7 q8 q9 q10
  have l2 := (HB20.out.at' 0 rfl).c 2 (by simp)
  have l3 := (HB20.out.at' 0 rfl).c 3 (by simp)
  simp only [List.getElem_cons_zero, List.getElem_cons_succ] at l2 l3
  have p0 := (HB20.out.at' 1 rfl).c 0 (by simp)
  have p1 := (HB20.out.at' 1 rfl).c 1 (by simp)
  have p2 := (HB20.out.at' 1 rfl).c 2 (by simp)
  have p3 := (HB20.out.at' 1 rfl).c 3 (by simp)
  have p4 := (HB20.out.at' 1 rfl).c 4 (by simp)
  have p5 := (HB20.out.at' 1 rfl).c 5 (by simp)
  have p6 := (HB20.out.at' 1 rfl).c 6 (by simp)
  have p7 := (HB20.out.at' 1 rfl).c 7 (by simp)
  have p8 := (HB20.out.at' 1 rfl).c 8 (by simp)
  have p9 := (HB20.out.at' 1 rfl).c 9 (by simp)
  have p10 := (HB20.out.at' 1 rfl).c 10 (by simp)
  simp only [List.getElem_cons_zero, List.getElem_cons_succ] at p0 p1 p2 p3 p4 p5 p6 p7 p8 p9 p10
  have y0 := (HB20.out.at' 7 rfl).c 0 (by simp)
  have y1 := (HB20.out.at' 7 rfl).c 1 (by simp)
  have y2 := (HB20.out.at' 7 rfl).c 2 (by simp)
  have y3 := (HB20.out.at' 7 rfl).c 3 (by simp)
  have y4 := (HB20.out.at' 7 rfl).c 4 (by simp)
  have y5 := (HB20.out.at' 7 rfl).c 5 (by simp)
  have y6 := (HB20.out.at' 7 rfl).c 6 (by simp)
  have y7 := (HB20.out.at' 7 rfl).c 7 (by simp)
  have y8 := (HB20.out.at' 7 rfl).c 8 (by simp)
  have y9 := (HB20.out.at' 7 rfl).c 9 (by simp)
  have y10 := (HB20.out.at' 7 rfl).c 10 (by simp)
  simp only [List.getElem_cons_zero, List.getElem_cons_succ] at y0 y1 y2 y3 y4 y5 y6 y7 y8 y9 y10
  have zy0 := (HB20.out.at' 7 rfl).f 0
  have zy1 := (HB20.out.at' 7 rfl).f 1
  have zy2 := (HB20.out.at' 7 rfl).f 2
  have zy3 := (HB20.out.at' 7 rfl).f 3
  have zy4 := (HB20.out.at' 7 rfl).f 4
  have zy5 := (HB20.out.at' 7 rfl).f 5
  have zy6 := (HB20.out.at' 7 rfl).f 6
  have zy7 := (HB20.out.at' 7 rfl).f 7
  have zy8 := (HB20.out.at' 7 rfl).f 8
  have zy9 := (HB20.out.at' 7 rfl).f 9
  have zy10 := (HB20.out.at' 7 rfl).f 10
  have HQ := Lib.hid (HB20.out.at' 7 rfl)
  have HBB := Lib.hid HB20.out.bel
  clear HB20
  by_cases hi : v5.2.2 = false
  · have ci := hi
    have eP := HP.out
    rw [if_pos hi] at eP
    subst eP
    clear HP
    clear hi
    go_wp2
    have KF := (((((((((((HQ.out).set 0 (by simp) (.int .i64 0)).set 1 (by simp) (.int .i64 0)).set 2 (by simp) (.int .i64 0)).set 3 (by simp) (.int .i64 0)).set 4 (by simp) (.string ⟨#[]⟩)).set 5 (by simp) (.int .i64 0)).set 6 (by simp) (.string ⟨#[]⟩)).set 7 (by simp) (.string ⟨#[]⟩)).set 8 (by simp) (.string ⟨#[]⟩)).set 9 (by simp) (.string ⟨#[]⟩)).set 10 (by simp) (.int .i64 0)
    try simp only [Exit.inBlock, Exit.then]
    have HLD := load_req _ _ _ KF (.int .i64 0) (.int .i64 0) (.int .i64 0) (.int .i64 0) (.string ⟨#[]⟩) (.int .i64 0) (.string ⟨#[]⟩) (.string ⟨#[]⟩) (.string ⟨#[]⟩) (.string ⟨#[]⟩) (.int .i64 0) rfl
    refine bodyPost_ret (results_cell_tmp Tryd.results12 _ _ _ ⟨w.heap.size, 0, none⟩ _ rfl HLD) rfl ?_
    refine ⟨rfl, ?_⟩
    exact (((((((((((HBB.out).setCell (p := ⟨w.heap.size, _, none⟩) (Nat.le_refl _) _).setCell (p := ⟨w.heap.size, _, none⟩) (Nat.le_refl _) _).setCell (p := ⟨w.heap.size, _, none⟩) (Nat.le_refl _) _).setCell (p := ⟨w.heap.size, _, none⟩) (Nat.le_refl _) _).setCell (p := ⟨w.heap.size, _, none⟩) (Nat.le_refl _) _).setCell (p := ⟨w.heap.size, _, none⟩) (Nat.le_refl _) _).setCell (p := ⟨w.heap.size, _, none⟩) (Nat.le_refl _) _).setCell (p := ⟨w.heap.size, _, none⟩) (Nat.le_refl _) _).setCell (p := ⟨w.heap.size, _, none⟩) (Nat.le_refl _) _).setCell (p := ⟨w.heap.size, _, none⟩) (Nat.le_refl _) _).setCell (p := ⟨w.heap.size, _, none⟩) (Nat.le_refl _) _
  · have ci : v5.2.2 = true := by simpa using hi
    by_cases hz : ¬ v5.2.1.size = 0
    · have cz : decide (0 < (v5.2.1.size : Int)) = true := decide_eq_true (by omega)
      have cy : decide (0 < v5.2.1.size) = true := decide_eq_true (by omega)
      have eP := HP.out
      rw [if_neg hi, if_pos hz] at eP
      subst eP
      clear HP
      clear hi hz
      cases mb with
      | false =>
        go_wp2
        have KF := (((((((((((HQ.out).set 0 (by simp) (.int .i64 0)).set 1 (by simp) (.int .i64 0)).set 2 (by simp) (.int .i64 0)).set 3 (by simp) (.int .i64 0)).set 4 (by simp) (.string ⟨#[]⟩)).set 5 (by simp) (.int .i64 0)).set 6 (by simp) (.string ⟨#[]⟩)).set 7 (by simp) (.string ⟨#[]⟩)).set 8 (by simp) (.string ⟨#[]⟩)).set 9 (by simp) (.string ⟨#[]⟩)).set 10 (by simp) (.int .i64 0)
        try simp only [Exit.inBlock, Exit.then]
        have HLD := load_req _ _ _ KF (.int .i64 0) (.int .i64 0) (.int .i64 0) (.int .i64 0) (.string ⟨#[]⟩) (.int .i64 0) (.string ⟨#[]⟩) (.string ⟨#[]⟩) (.string ⟨#[]⟩) (.string ⟨#[]⟩) (.int .i64 0) rfl
        refine bodyPost_ret (results_cell_tmp Tryd.results12 _ _ _ ⟨w.heap.size, 0, none⟩ _ rfl HLD) rfl ?_
        refine ⟨rfl, ?_⟩
        exact (((((((((((HBB.out).setCell (p := ⟨w.heap.size, _, none⟩) (Nat.le_refl _) _).setCell (p := ⟨w.heap.size, _, none⟩) (Nat.le_refl _) _).setCell (p := ⟨w.heap.size, _, none⟩) (Nat.le_refl _) _).setCell (p := ⟨w.heap.size, _, none⟩) (Nat.le_refl _) _).setCell (p := ⟨w.heap.size, _, none⟩) (Nat.le_refl _) _).setCell (p := ⟨w.heap.size, _, none⟩) (Nat.le_refl _) _).setCell (p := ⟨w.heap.size, _, none⟩) (Nat.le_refl _) _).setCell (p := ⟨w.heap.size, _, none⟩) (Nat.le_refl _) _).setCell (p := ⟨w.heap.size, _, none⟩) (Nat.le_refl _) _).setCell (p := ⟨w.heap.size, _, none⟩) (Nat.le_refl _) _).setCell (p := ⟨w.heap.size, _, none⟩) (Nat.le_refl _) _
      | true =>
        go_wp2
        have KF := (((((((((((HQ.out).set 0 (by simp) (.int .i64 0)).set 1 (by simp) (.int .i64 0)).set 2 (by simp) (.int .i64 0)).set 3 (by simp) (.int .i64 0)).set 4 (by simp) (.string ⟨#[]⟩)).set 5 (by simp) (.int .i64 0)).set 6 (by simp) (.string ⟨#[]⟩)).set 7 (by simp) (.string ⟨#[]⟩)).set 8 (by simp) (.string ⟨#[]⟩)).set 9 (by simp) (.string ⟨#[]⟩)).set 10 (by simp) (.int .i64 0)
        try simp only [Exit.inBlock, Exit.then]
        have HLD := load_req _ _ _ KF (.int .i64 0) (.int .i64 0) (.int .i64 0) (.int .i64 0) (.string ⟨#[]⟩) (.int .i64 0) (.string ⟨#[]⟩) (.string ⟨#[]⟩) (.string ⟨#[]⟩) (.string ⟨#[]⟩) (.int .i64 0) rfl
        refine bodyPost_ret (results_cell_tmp Tryd.results12 _ _ _ ⟨w.heap.size, 0, none⟩ _ rfl HLD) rfl ?_
        refine ⟨rfl, ?_⟩
        exact (((((((((((HBB.out).setCell (p := ⟨w.heap.size, _, none⟩) (Nat.le_refl _) _).setCell (p := ⟨w.heap.size, _, none⟩) (Nat.le_refl _) _).setCell (p := ⟨w.heap.size, _, none⟩) (Nat.le_refl _) _).setCell (p := ⟨w.heap.size, _, none⟩) (Nat.le_refl _) _).setCell (p := ⟨w.heap.size, _, none⟩) (Nat.le_refl _) _).setCell (p := ⟨w.heap.size, _, none⟩) (Nat.le_refl _) _).setCell (p := ⟨w.heap.size, _, none⟩) (Nat.le_refl _) _).setCell (p := ⟨w.heap.size, _, none⟩) (Nat.le_refl _) _).setCell (p := ⟨w.heap.size, _, none⟩) (Nat.le_refl _) _).setCell (p := ⟨w.heap.size, _, none⟩) (Nat.le_refl _) _).setCell (p := ⟨w.heap.size, _, none⟩) (Nat.le_refl _) _
    · have cz : decide (0 < (v5.2.1.size : Int)) = false := decide_eq_false (by omega)
      have cy : decide (0 < v5.2.1.size) = false := decide_eq_false (by omega)
      cases mb with
      | false =>
        have eP := HP.out
        rw [if_neg hi, if_neg hz, if_neg (by decide)] at eP
        subst eP
        clear HP
        clear hi hz
        go_wp2
        have KF := (((((((((((HQ.out).set 0 (by simp) (.int .i64 0)).set 1 (by simp) (.int .i64 0)).set 2 (by simp) (.int .i64 0)).set 3 (by simp) (.int .i64 0)).set 4 (by simp) (.string ⟨#[]⟩)).set 5 (by simp) (.int .i64 0)).set 6 (by simp) (.string ⟨#[]⟩)).set 7 (by simp) (.string ⟨#[]⟩)).set 8 (by simp) (.string ⟨#[]⟩)).set 9 (by simp) (.string ⟨#[]⟩)).set 10 (by simp) (.int .i64 0)
        try simp only [Exit.inBlock, Exit.then]
        have HLD := load_req _ _ _ KF (.int .i64 0) (.int .i64 0) (.int .i64 0) (.int .i64 0) (.string ⟨#[]⟩) (.int .i64 0) (.string ⟨#[]⟩) (.string ⟨#[]⟩) (.string ⟨#[]⟩) (.string ⟨#[]⟩) (.int .i64 0) rfl
        refine bodyPost_ret (results_cell_tmp Tryd.results12 _ _ _ ⟨w.heap.size, 0, none⟩ _ rfl HLD) rfl ?_
        refine ⟨rfl, ?_⟩
        exact (((((((((((HBB.out).setCell (p := ⟨w.heap.size, _, none⟩) (Nat.le_refl _) _).setCell (p := ⟨w.heap.size, _, none⟩) (Nat.le_refl _) _).setCell (p := ⟨w.heap.size, _, none⟩) (Nat.le_refl _) _).setCell (p := ⟨w.heap.size, _, none⟩) (Nat.le_refl _) _).setCell (p := ⟨w.heap.size, _, none⟩) (Nat.le_refl _) _).setCell (p := ⟨w.heap.size, _, none⟩) (Nat.le_refl _) _).setCell (p := ⟨w.heap.size, _, none⟩) (Nat.le_refl _) _).setCell (p := ⟨w.heap.size, _, none⟩) (Nat.le_refl _) _).setCell (p := ⟨w.heap.size, _, none⟩) (Nat.le_refl _) _).setCell (p := ⟨w.heap.size, _, none⟩) (Nat.le_refl _) _).setCell (p := ⟨w.heap.size, _, none⟩) (Nat.le_refl _) _
      | true =>
        have eP := HP.out
        rw [if_neg hi, if_neg hz, if_pos rfl] at eP
        subst eP
        clear HP
        clear hi hz
        go_wp2
        have KF := (((((((((((HQ.out).set 0 (by simp) (.int .i64 v1.1)).set 1 (by simp) (.int .i64 v2.1)).set 2 (by simp) (.int .i64 v3.1)).set 3 (by simp) (.int .i64 v4.1)).set 4 (by simp) (.string v5.1)).set 5 (by simp) (.int .i64 0)).set 6 (by simp) (.string ⟨#[]⟩)).set 7 (by simp) (.string ⟨#[]⟩)).set 8 (by simp) (.string ⟨#[]⟩)).set 9 (by simp) (.string ⟨#[]⟩)).set 10 (by simp) (.int .i64 0)
        try simp only [Exit.inBlock, Exit.then]
        have HLD := load_req _ _ _ KF (.int .i64 v1.1) (.int .i64 v2.1) (.int .i64 v3.1) (.int .i64 v4.1) (.string v5.1) (.int .i64 0) (.string ⟨#[]⟩) (.string ⟨#[]⟩) (.string ⟨#[]⟩) (.string ⟨#[]⟩) (.int .i64 0) rfl
        refine bodyPost_ret (results_cell_tmp Tryd.results12 _ _ _ ⟨w.heap.size, 0, none⟩ _ rfl HLD) rfl ?_
        refine ⟨rfl, ?_⟩
        exact (((((((((((HBB.out).setCell (p := ⟨w.heap.size, _, none⟩) (Nat.le_refl _) _).setCell (p := ⟨w.heap.size, _, none⟩) (Nat.le_refl _) _).setCell (p := ⟨w.heap.size, _, none⟩) (Nat.le_refl _) _).setCell (p := ⟨w.heap.size, _, none⟩) (Nat.le_refl _) _).setCell (p := ⟨w.heap.size, _, none⟩) (Nat.le_refl _) _).setCell (p := ⟨w.heap.size, _, none⟩) (Nat.le_refl _) _).setCell (p := ⟨w.heap.size, _, none⟩) (Nat.le_refl _) _).setCell (p := ⟨w.heap.size, _, none⟩) (Nat.le_refl _) _).setCell (p := ⟨w.heap.size, _, none⟩) (Nat.le_refl _) _).setCell (p := ⟨w.heap.size, _, none⟩) (Nat.le_refl _) _).setCell (p := ⟨w.heap.size, _, none⟩) (Nat.le_refl _) _
set_option maxHeartbeats 4000000 in
set_option maxRecDepth 10000 in
theorem ref_walk5 (s : ByteArray) (w : World) (hs : s.size ≤ 2048) (v1 : Int × ByteArray × Bool) (v2 : Int × ByteArray × Bool) (v3 : Int × ByteArray × Bool) (v4 : Int × ByteArray × Bool) (v5 : ByteArray × ByteArray × Bool) (v6 : Int × ByteArray × Bool) (v7 : ByteArray × ByteArray × Bool) (v8 : ByteArray × ByteArray × Bool) (v9 : ByteArray × ByteArray × Bool) (v10 : ByteArray × ByteArray × Bool) (v11 : Int × ByteArray × Bool) (h1 : tkR s true = v1) (h2 : tkR v1.2.1 v1.2.2 = v2) (h3 : tkR v2.2.1 v2.2.2 = v3) (h4 : tkR v3.2.1 v3.2.2 = v4) (h5 : rdR v4.2.1 v4.2.2 16 = v5) (h6 : tkR v5.2.1 v5.2.2 = v6) (h7 : rdR v6.2.1 v6.2.2 32 = v7) (h8 : rdR v7.2.1 v7.2.2 64 = v8) (h9 : rdR v8.2.1 v8.2.2 32 = v9) (h10 : rdR v9.2.1 v9.2.2 32 = v10) (h11 : tkR v10.2.1 v10.2.2 = v11) (hk : v1.1 = 5) (mb : Bool) (hmb : stanchionref16_MayReq.f 4 v1.1 v2.1 v3.1 v4.1 v5.1 v6.1 v7.1 v8.1 v9.1 v10.1 v11.1 = some mb)
    (P : Q12) (hP : (if v11.2.2 = false then zq 3 else if ¬ v11.2.1.size = 0 then zq 3 else if mb = true then (v1.1, v2.1, v3.1, v4.1, v5.1, v6.1, v7.1, v8.1, v9.1, v10.1, v11.1, 0) else zq 3) = P) :
    Calls Tryd.prog 12 #[.string s] w fun e w' => e = .returned (outQ P) ∧ Below w.heap.size w w' := by
  have c1 : decide (2048 < (s.size : Int)) = false := decide_eq_false (by omega)
  have z1 : v1.2.1.size ≤ s.size := by have h := tkR_size s true; rw [h1] at h; omega
  have z2 : v2.2.1.size ≤ s.size := by have h := tkR_size v1.2.1 v1.2.2; rw [h2] at h; omega
  have z3 : v3.2.1.size ≤ s.size := by have h := tkR_size v2.2.1 v2.2.2; rw [h3] at h; omega
  have z4 : v4.2.1.size ≤ s.size := by have h := tkR_size v3.2.1 v3.2.2; rw [h4] at h; omega
  have z5 : v5.2.1.size ≤ s.size := by have h := rdR_size v4.2.1 v4.2.2 16; rw [h5] at h; omega
  have z6 : v6.2.1.size ≤ s.size := by have h := tkR_size v5.2.1 v5.2.2; rw [h6] at h; omega
  have z7 : v7.2.1.size ≤ s.size := by have h := rdR_size v6.2.1 v6.2.2 32; rw [h7] at h; omega
  have z8 : v8.2.1.size ≤ s.size := by have h := rdR_size v7.2.1 v7.2.2 64; rw [h8] at h; omega
  have z9 : v9.2.1.size ≤ s.size := by have h := rdR_size v8.2.1 v8.2.2 32; rw [h9] at h; omega
  have z10 : v10.2.1.size ≤ s.size := by have h := rdR_size v9.2.1 v9.2.2 32; rw [h10] at h; omega
  have z11 : v11.2.1.size ≤ s.size := by have h := tkR_size v10.2.1 v10.2.2; rw [h11] at h; omega
  have HB0 := Lib.hid (Bk.start w #[.int .i64 0, .int .i64 0, .int .i64 0, .int .i64 0, .string ⟨#[]⟩, .int .i64 0, .string ⟨#[]⟩, .string ⟨#[]⟩, .string ⟨#[]⟩, .string ⟨#[]⟩, .int .i64 0] 25 (by simp))
  have Z1 := Lib.hid z1
  have H1 := Lib.hid h1
  have Z2 := Lib.hid z2
  have H2 := Lib.hid h2
  have Z3 := Lib.hid z3
  have H3 := Lib.hid h3
  have Z4 := Lib.hid z4
  have H4 := Lib.hid h4
  have Z5 := Lib.hid z5
  have H5 := Lib.hid h5
  have Z6 := Lib.hid z6
  have H6 := Lib.hid h6
  have Z7 := Lib.hid z7
  have H7 := Lib.hid h7
  have Z8 := Lib.hid z8
  have H8 := Lib.hid h8
  have Z9 := Lib.hid z9
  have H9 := Lib.hid h9
  have Z10 := Lib.hid z10
  have H10 := Lib.hid h10
  have Z11 := Lib.hid z11
  have H11 := Lib.hid h11
  have HSS := Lib.hid hs
  have HMB := Lib.hid hmb
  have HP := Lib.hid hP
  have HK := Lib.hid hk
  clear hs hmb hP hk z1 h1 z2 h2 z3 h3 z4 h4 z5 h5 z6 h6 z7 h7 z8 h8 z9 h9 z10 h10 z11 h11
  have ck : (v1.1 == 5) = true := beq_iff_eq.mpr HK.out
  go_enter Tryd.func12, Tryd.ntmps12
  go_wp2_with (go_at_call 28; refine (takes_is 0 ⟨#[]⟩ s true (by have := HSS.out; have := HSS.out; omega) _).mono ?_)
  rintro e w1 ⟨rfl, b1⟩
  rw [H1.out]
  have B1 := HB0.out.call b1
  have HB1 := Lib.hid (B1.push #[.int .i64 v1.1, .string ⟨#[]⟩, .string v1.2.1, .bool v1.2.2] 67 (by simp))
  clear b1 B1 H1 HB0 
  go_wp2_with (go_at_call 28; refine (takes_is v1.1 ⟨#[]⟩ v1.2.1 v1.2.2 (by have := Z1.out; have := HSS.out; omega) _).mono ?_)
  rintro e w2 ⟨rfl, b2⟩
  rw [H2.out]
  have B2 := HB1.out.call b2
  have HB2 := Lib.hid (B2.push #[.int .i64 v2.1, .string ⟨#[]⟩, .string v2.2.1, .bool v2.2.2] 67 (by simp))
  clear b2 B2 H2 HB1 Z1
  go_wp2_with (go_at_call 28; refine (takes_is v2.1 ⟨#[]⟩ v2.2.1 v2.2.2 (by have := Z2.out; have := HSS.out; omega) _).mono ?_)
  rintro e w3 ⟨rfl, b3⟩
  rw [H3.out]
  have B3 := HB2.out.call b3
  have HB3 := Lib.hid (B3.push #[.int .i64 v3.1, .string ⟨#[]⟩, .string v3.2.1, .bool v3.2.2] 67 (by simp))
  clear b3 B3 H3 HB2 Z2
  go_wp2_with (go_at_call 28; refine (takes_is v3.1 ⟨#[]⟩ v3.2.1 v3.2.2 (by have := Z3.out; have := HSS.out; omega) _).mono ?_)
  rintro e w4 ⟨rfl, b4⟩
  rw [H4.out]
  have B4 := HB3.out.call b4
  have HB4 := Lib.hid (B4.push #[.int .i64 v4.1, .string ⟨#[]⟩, .string v4.2.1, .bool v4.2.2] 67 (by simp))
  clear b4 B4 H4 HB3 Z3
  go_wp2_with (go_at_call 29; refine (reads_is v4.1 ⟨#[]⟩ v4.2.1 v4.2.2 16 (by have := Z4.out; have := HSS.out; omega) (by omega) _).mono ?_)
  rintro e w5 ⟨rfl, b5⟩
  rw [H5.out]
  have B5 := HB4.out.call b5
  have HB5 := Lib.hid (B5.push #[.int .i64 0, .string v5.1, .string v5.2.1, .bool v5.2.2] 67 (by simp))
  clear b5 B5 H5 HB4 Z4
  have x1_0 := (HB5.out.at' 4 rfl).c 0 (by simp)
  simp only [List.getElem_cons_zero, List.getElem_cons_succ] at x1_0
  have x2_0 := (HB5.out.at' 3 rfl).c 0 (by simp)
  simp only [List.getElem_cons_zero, List.getElem_cons_succ] at x2_0
  have x3_0 := (HB5.out.at' 2 rfl).c 0 (by simp)
  simp only [List.getElem_cons_zero, List.getElem_cons_succ] at x3_0
  have x4_0 := (HB5.out.at' 1 rfl).c 0 (by simp)
  simp only [List.getElem_cons_zero, List.getElem_cons_succ] at x4_0
  have x5_1 := (HB5.out.at' 0 rfl).c 1 (by simp)
  simp only [List.getElem_cons_zero, List.getElem_cons_succ] at x5_1
  have HBq := Lib.hid (HB5.out.push #[.int .i64 v1.1, .int .i64 v2.1, .int .i64 v3.1, .int .i64 v4.1, .string v5.1, .int .i64 0, .string ⟨#[]⟩, .string ⟨#[]⟩, .string ⟨#[]⟩, .string ⟨#[]⟩, .int .i64 0] 25 (by simp))
  have hz5 : (w5.alloc (.cells #[.int .i64 0, .string v5.1, .string v5.2.1, .bool v5.2.2] 67)).heap.size = w5.heap.size + 1 := (by simp)
  rw [hz5] at HBq
  have r5_0 := (HBq.out.at' 1 rfl).c 0 (by simp)
  have r5_1 := (HBq.out.at' 1 rfl).c 1 (by simp)
  have r5_2 := (HBq.out.at' 1 rfl).c 2 (by simp)
  have r5_3 := (HBq.out.at' 1 rfl).c 3 (by simp)
  simp only [List.getElem_cons_zero, List.getElem_cons_succ] at r5_0 r5_1 r5_2 r5_3
  have HBl := Lib.hid (HBq.out.push #[.int .i64 0, .string v5.1, .string v5.2.1, .bool v5.2.2] 67 (by simp))
  have hz6 : ((w5.alloc (.cells #[.int .i64 0, .string v5.1, .string v5.2.1, .bool v5.2.2] 67)).alloc (.cells #[.int .i64 v1.1, .int .i64 v2.1, .int .i64 v3.1, .int .i64 v4.1, .string v5.1, .int .i64 0, .string ⟨#[]⟩, .string ⟨#[]⟩, .string ⟨#[]⟩, .string ⟨#[]⟩, .int .i64 0] 25)).heap.size = w5.heap.size + 1 + 1 := (by simp)
  rw [hz6] at HBl
  clear hz5 hz6 HBq
  have s1_0 := (HBl.out.at' 6 rfl).c 0 (by simp)
  simp only [List.getElem_cons_zero, List.getElem_cons_succ] at s1_0
  have t5_0 := (HBl.out.at' 2 rfl).c 0 (by simp)
  have t5_1 := (HBl.out.at' 2 rfl).c 1 (by simp)
  have t5_2 := (HBl.out.at' 2 rfl).c 2 (by simp)
  have t5_3 := (HBl.out.at' 2 rfl).c 3 (by simp)
  simp only [List.getElem_cons_zero, List.getElem_cons_succ] at t5_0 t5_1 t5_2 t5_3
  go_wp2_with (go_at_call 28; refine (takes_is 0 v5.1 v5.2.1 v5.2.2 (by have := Z5.out; have := HSS.out; omega) _).mono ?_)
  rintro e w6 ⟨rfl, b6⟩
  rw [H6.out]
  have B6 := HBl.out.call b6
  clear x1_0 x2_0 x3_0 x4_0 x5_1 r5_0 r5_1 r5_2 r5_3 s1_0 t5_0 t5_1 t5_2 t5_3
  have HB6 := Lib.hid (B6.push #[.int .i64 v6.1, .string ⟨#[]⟩, .string v6.2.1, .bool v6.2.2] 67 (by simp))
  clear b6 B6 H6 Z5 HBl
  go_wp2_with (go_at_call 29; refine (reads_is v6.1 ⟨#[]⟩ v6.2.1 v6.2.2 32 (by have := Z6.out; have := HSS.out; omega) (by omega) _).mono ?_)
  rintro e w7 ⟨rfl, b7⟩
  rw [H7.out]
  have B7 := HB6.out.call b7
  have HB7 := Lib.hid (B7.push #[.int .i64 0, .string v7.1, .string v7.2.1, .bool v7.2.2] 67 (by simp))
  clear b7 B7 H7 Z6 HB6
  go_wp2_with (go_at_call 29; refine (reads_is 0 v7.1 v7.2.1 v7.2.2 64 (by have := Z7.out; have := HSS.out; omega) (by omega) _).mono ?_)
  rintro e w8 ⟨rfl, b8⟩
  rw [H8.out]
  have B8 := HB7.out.call b8
  have HB8 := Lib.hid (B8.push #[.int .i64 0, .string v8.1, .string v8.2.1, .bool v8.2.2] 67 (by simp))
  clear b8 B8 H8 Z7 HB7
  go_wp2_with (go_at_call 29; refine (reads_is 0 v8.1 v8.2.1 v8.2.2 32 (by have := Z8.out; have := HSS.out; omega) (by omega) _).mono ?_)
  rintro e w9 ⟨rfl, b9⟩
  rw [H9.out]
  have B9 := HB8.out.call b9
  have HB9 := Lib.hid (B9.push #[.int .i64 0, .string v9.1, .string v9.2.1, .bool v9.2.2] 67 (by simp))
  clear b9 B9 H9 Z8 HB8
  go_wp2_with (go_at_call 29; refine (reads_is 0 v9.1 v9.2.1 v9.2.2 32 (by have := Z9.out; have := HSS.out; omega) (by omega) _).mono ?_)
  rintro e w10 ⟨rfl, b10⟩
  rw [H10.out]
  have B10 := HB9.out.call b10
  have HB10 := Lib.hid (B10.push #[.int .i64 0, .string v10.1, .string v10.2.1, .bool v10.2.2] 67 (by simp))
  clear b10 B10 H10 Z9 HB9
  go_wp2_with (go_at_call 28; refine (takes_is 0 v10.1 v10.2.1 v10.2.2 (by have := Z10.out; have := HSS.out; omega) _).mono ?_)
  rintro e w11 ⟨rfl, b11⟩
  rw [H11.out]
  have B11 := HB10.out.call b11
  have HB11 := Lib.hid B11
  clear b11 B11 H11 Z10 HB10
  have m0 := (HB11.out.at' 5 rfl).c 0 (by simp)
  have m1 := (HB11.out.at' 5 rfl).c 1 (by simp)
  have m2 := (HB11.out.at' 5 rfl).c 2 (by simp)
  have m3 := (HB11.out.at' 5 rfl).c 3 (by simp)
  simp only [List.getElem_cons_zero, List.getElem_cons_succ] at m0 m1 m2 m3
  have zm0 := (HB11.out.at' 5 rfl).f 0
  have zm1 := (HB11.out.at' 5 rfl).f 1
  have zm2 := (HB11.out.at' 5 rfl).f 2
  have zm3 := (HB11.out.at' 5 rfl).f 3
  have HBm := Lib.hid (Bk.store (pre := [_, _, _, _, _]) ((Bk.store (pre := [_, _, _, _, _]) ((Bk.store (pre := [_, _, _, _, _]) ((Bk.store (pre := [_, _, _, _, _]) (HB11.out) 0 (by simp) (.int .i64 v11.1))) 1 (by simp) (.string ⟨#[]⟩))) 2 (by simp) (.string v11.2.1))) 3 (by simp) (.bool v11.2.2))
  simp only [List.set_cons_zero, List.set_cons_succ, List.cons_append, List.nil_append] at HBm
  clear HB11
  have n6_0 := (HBm.out.at' 4 rfl).c 0 (by simp)
  simp only [List.getElem_cons_zero, List.getElem_cons_succ] at n6_0
  have n7_1 := (HBm.out.at' 3 rfl).c 1 (by simp)
  simp only [List.getElem_cons_zero, List.getElem_cons_succ] at n7_1
  have n8_1 := (HBm.out.at' 2 rfl).c 1 (by simp)
  simp only [List.getElem_cons_zero, List.getElem_cons_succ] at n8_1
  have n9_1 := (HBm.out.at' 1 rfl).c 1 (by simp)
  simp only [List.getElem_cons_zero, List.getElem_cons_succ] at n9_1
  have n10_1 := (HBm.out.at' 0 rfl).c 1 (by simp)
  simp only [List.getElem_cons_zero, List.getElem_cons_succ] at n10_1
  have n11_0 := (HBm.out.at' 5 rfl).c 0 (by simp)
  simp only [List.getElem_cons_zero, List.getElem_cons_succ] at n11_0
  have o5 := (HBm.out.at' 6 rfl).c 5 (by simp)
  have o6 := (HBm.out.at' 6 rfl).c 6 (by simp)
  have o7 := (HBm.out.at' 6 rfl).c 7 (by simp)
  have o8 := (HBm.out.at' 6 rfl).c 8 (by simp)
  have o9 := (HBm.out.at' 6 rfl).c 9 (by simp)
  have o10 := (HBm.out.at' 6 rfl).c 10 (by simp)
  simp only [List.getElem_cons_zero, List.getElem_cons_succ] at o5 o6 o7 o8 o9 o10
  have zo5 := (HBm.out.at' 6 rfl).f 5
  have zo6 := (HBm.out.at' 6 rfl).f 6
  have zo7 := (HBm.out.at' 6 rfl).f 7
  have zo8 := (HBm.out.at' 6 rfl).f 8
  have zo9 := (HBm.out.at' 6 rfl).f 9
  have zo10 := (HBm.out.at' 6 rfl).f 10
  have HBo := Lib.hid (Bk.store (pre := [_, _, _, _, _, _]) ((Bk.store (pre := [_, _, _, _, _, _]) ((Bk.store (pre := [_, _, _, _, _, _]) ((Bk.store (pre := [_, _, _, _, _, _]) ((Bk.store (pre := [_, _, _, _, _, _]) ((Bk.store (pre := [_, _, _, _, _, _]) (HBm.out) 5 (by simp) (.int .i64 v6.1))) 6 (by simp) (.string v7.1))) 7 (by simp) (.string v8.1))) 8 (by simp) (.string v9.1))) 9 (by simp) (.string v10.1))) 10 (by simp) (.int .i64 v11.1))
  simp only [List.set_cons_zero, List.set_cons_succ, List.cons_append, List.nil_append] at HBo
  clear HBm
  have q0 := (HBo.out.at' 6 rfl).c 0 (by simp)
  have q1 := (HBo.out.at' 6 rfl).c 1 (by simp)
  have q2 := (HBo.out.at' 6 rfl).c 2 (by simp)
  have q3 := (HBo.out.at' 6 rfl).c 3 (by simp)
  have q4 := (HBo.out.at' 6 rfl).c 4 (by simp)
  have q5 := (HBo.out.at' 6 rfl).c 5 (by simp)
  have q6 := (HBo.out.at' 6 rfl).c 6 (by simp)
  have q7 := (HBo.out.at' 6 rfl).c 7 (by simp)
  have q8 := (HBo.out.at' 6 rfl).c 8 (by simp)
  have q9 := (HBo.out.at' 6 rfl).c 9 (by simp)
  have q10 := (HBo.out.at' 6 rfl).c 10 (by simp)
  simp only [List.getElem_cons_zero, List.getElem_cons_succ] at q0 q1 q2 q3 q4 q5 q6 q7 q8 q9 q10
  go_wp2_with (go_at_call 14; refine (mayref_is v1.1 v2.1 v3.1 v4.1 v5.1 v6.1 v7.1 v8.1 v9.1 v10.1 v11.1 mb HMB.out _).mono ?_)
  rintro e w20 ⟨rfl, b20⟩
  have HB20 := Lib.hid (HBo.out.call b20)
  clear b20 HMB HSS Z11 HK HBo m0 m1 m2 m3 zm0 zm1 zm2 zm3 n6_0 n7_1 n8_1 n9_1 n10_1 n11_0 o5 o6 o7 o8 o9 o10 zo5 zo6 zo7 zo8 zo9 zo10 q0 q1 q2 q3 q4 q5 q6 q7 q8 q9 q10
  have l2 := (HB20.out.at' 5 rfl).c 2 (by simp)
  have l3 := (HB20.out.at' 5 rfl).c 3 (by simp)
  simp only [List.getElem_cons_zero, List.getElem_cons_succ] at l2 l3
  have p0 := (HB20.out.at' 6 rfl).c 0 (by simp)
  have p1 := (HB20.out.at' 6 rfl).c 1 (by simp)
  have p2 := (HB20.out.at' 6 rfl).c 2 (by simp)
  have p3 := (HB20.out.at' 6 rfl).c 3 (by simp)
  have p4 := (HB20.out.at' 6 rfl).c 4 (by simp)
  have p5 := (HB20.out.at' 6 rfl).c 5 (by simp)
  have p6 := (HB20.out.at' 6 rfl).c 6 (by simp)
  have p7 := (HB20.out.at' 6 rfl).c 7 (by simp)
  have p8 := (HB20.out.at' 6 rfl).c 8 (by simp)
  have p9 := (HB20.out.at' 6 rfl).c 9 (by simp)
  have p10 := (HB20.out.at' 6 rfl).c 10 (by simp)
  simp only [List.getElem_cons_zero, List.getElem_cons_succ] at p0 p1 p2 p3 p4 p5 p6 p7 p8 p9 p10
  have y0 := (HB20.out.at' 12 rfl).c 0 (by simp)
  have y1 := (HB20.out.at' 12 rfl).c 1 (by simp)
  have y2 := (HB20.out.at' 12 rfl).c 2 (by simp)
  have y3 := (HB20.out.at' 12 rfl).c 3 (by simp)
  have y4 := (HB20.out.at' 12 rfl).c 4 (by simp)
  have y5 := (HB20.out.at' 12 rfl).c 5 (by simp)
  have y6 := (HB20.out.at' 12 rfl).c 6 (by simp)
  have y7 := (HB20.out.at' 12 rfl).c 7 (by simp)
  have y8 := (HB20.out.at' 12 rfl).c 8 (by simp)
  have y9 := (HB20.out.at' 12 rfl).c 9 (by simp)
  have y10 := (HB20.out.at' 12 rfl).c 10 (by simp)
  simp only [List.getElem_cons_zero, List.getElem_cons_succ] at y0 y1 y2 y3 y4 y5 y6 y7 y8 y9 y10
  have zy0 := (HB20.out.at' 12 rfl).f 0
  have zy1 := (HB20.out.at' 12 rfl).f 1
  have zy2 := (HB20.out.at' 12 rfl).f 2
  have zy3 := (HB20.out.at' 12 rfl).f 3
  have zy4 := (HB20.out.at' 12 rfl).f 4
  have zy5 := (HB20.out.at' 12 rfl).f 5
  have zy6 := (HB20.out.at' 12 rfl).f 6
  have zy7 := (HB20.out.at' 12 rfl).f 7
  have zy8 := (HB20.out.at' 12 rfl).f 8
  have zy9 := (HB20.out.at' 12 rfl).f 9
  have zy10 := (HB20.out.at' 12 rfl).f 10
  have HQ := Lib.hid (HB20.out.at' 12 rfl)
  have HBB := Lib.hid HB20.out.bel
  clear HB20
  by_cases hi : v11.2.2 = false
  · have ci := hi
    have eP := HP.out
    rw [if_pos hi] at eP
    subst eP
    clear HP
    clear hi
    go_wp2
    have KF := (((((((((((HQ.out).set 0 (by simp) (.int .i64 0)).set 1 (by simp) (.int .i64 0)).set 2 (by simp) (.int .i64 0)).set 3 (by simp) (.int .i64 0)).set 4 (by simp) (.string ⟨#[]⟩)).set 5 (by simp) (.int .i64 0)).set 6 (by simp) (.string ⟨#[]⟩)).set 7 (by simp) (.string ⟨#[]⟩)).set 8 (by simp) (.string ⟨#[]⟩)).set 9 (by simp) (.string ⟨#[]⟩)).set 10 (by simp) (.int .i64 0)
    try simp only [Exit.inBlock, Exit.then]
    have HLD := load_req _ _ _ KF (.int .i64 0) (.int .i64 0) (.int .i64 0) (.int .i64 0) (.string ⟨#[]⟩) (.int .i64 0) (.string ⟨#[]⟩) (.string ⟨#[]⟩) (.string ⟨#[]⟩) (.string ⟨#[]⟩) (.int .i64 0) rfl
    refine bodyPost_ret (results_cell_tmp Tryd.results12 _ _ _ ⟨w.heap.size, 0, none⟩ _ rfl HLD) rfl ?_
    refine ⟨rfl, ?_⟩
    exact (((((((((((HBB.out).setCell (p := ⟨w.heap.size, _, none⟩) (Nat.le_refl _) _).setCell (p := ⟨w.heap.size, _, none⟩) (Nat.le_refl _) _).setCell (p := ⟨w.heap.size, _, none⟩) (Nat.le_refl _) _).setCell (p := ⟨w.heap.size, _, none⟩) (Nat.le_refl _) _).setCell (p := ⟨w.heap.size, _, none⟩) (Nat.le_refl _) _).setCell (p := ⟨w.heap.size, _, none⟩) (Nat.le_refl _) _).setCell (p := ⟨w.heap.size, _, none⟩) (Nat.le_refl _) _).setCell (p := ⟨w.heap.size, _, none⟩) (Nat.le_refl _) _).setCell (p := ⟨w.heap.size, _, none⟩) (Nat.le_refl _) _).setCell (p := ⟨w.heap.size, _, none⟩) (Nat.le_refl _) _).setCell (p := ⟨w.heap.size, _, none⟩) (Nat.le_refl _) _
  · have ci : v11.2.2 = true := by simpa using hi
    by_cases hz : ¬ v11.2.1.size = 0
    · have cz : decide (0 < (v11.2.1.size : Int)) = true := decide_eq_true (by omega)
      have cy : decide (0 < v11.2.1.size) = true := decide_eq_true (by omega)
      have eP := HP.out
      rw [if_neg hi, if_pos hz] at eP
      subst eP
      clear HP
      clear hi hz
      cases mb with
      | false =>
        go_wp2
        have KF := (((((((((((HQ.out).set 0 (by simp) (.int .i64 0)).set 1 (by simp) (.int .i64 0)).set 2 (by simp) (.int .i64 0)).set 3 (by simp) (.int .i64 0)).set 4 (by simp) (.string ⟨#[]⟩)).set 5 (by simp) (.int .i64 0)).set 6 (by simp) (.string ⟨#[]⟩)).set 7 (by simp) (.string ⟨#[]⟩)).set 8 (by simp) (.string ⟨#[]⟩)).set 9 (by simp) (.string ⟨#[]⟩)).set 10 (by simp) (.int .i64 0)
        try simp only [Exit.inBlock, Exit.then]
        have HLD := load_req _ _ _ KF (.int .i64 0) (.int .i64 0) (.int .i64 0) (.int .i64 0) (.string ⟨#[]⟩) (.int .i64 0) (.string ⟨#[]⟩) (.string ⟨#[]⟩) (.string ⟨#[]⟩) (.string ⟨#[]⟩) (.int .i64 0) rfl
        refine bodyPost_ret (results_cell_tmp Tryd.results12 _ _ _ ⟨w.heap.size, 0, none⟩ _ rfl HLD) rfl ?_
        refine ⟨rfl, ?_⟩
        exact (((((((((((HBB.out).setCell (p := ⟨w.heap.size, _, none⟩) (Nat.le_refl _) _).setCell (p := ⟨w.heap.size, _, none⟩) (Nat.le_refl _) _).setCell (p := ⟨w.heap.size, _, none⟩) (Nat.le_refl _) _).setCell (p := ⟨w.heap.size, _, none⟩) (Nat.le_refl _) _).setCell (p := ⟨w.heap.size, _, none⟩) (Nat.le_refl _) _).setCell (p := ⟨w.heap.size, _, none⟩) (Nat.le_refl _) _).setCell (p := ⟨w.heap.size, _, none⟩) (Nat.le_refl _) _).setCell (p := ⟨w.heap.size, _, none⟩) (Nat.le_refl _) _).setCell (p := ⟨w.heap.size, _, none⟩) (Nat.le_refl _) _).setCell (p := ⟨w.heap.size, _, none⟩) (Nat.le_refl _) _).setCell (p := ⟨w.heap.size, _, none⟩) (Nat.le_refl _) _
      | true =>
        go_wp2
        have KF := (((((((((((HQ.out).set 0 (by simp) (.int .i64 0)).set 1 (by simp) (.int .i64 0)).set 2 (by simp) (.int .i64 0)).set 3 (by simp) (.int .i64 0)).set 4 (by simp) (.string ⟨#[]⟩)).set 5 (by simp) (.int .i64 0)).set 6 (by simp) (.string ⟨#[]⟩)).set 7 (by simp) (.string ⟨#[]⟩)).set 8 (by simp) (.string ⟨#[]⟩)).set 9 (by simp) (.string ⟨#[]⟩)).set 10 (by simp) (.int .i64 0)
        try simp only [Exit.inBlock, Exit.then]
        have HLD := load_req _ _ _ KF (.int .i64 0) (.int .i64 0) (.int .i64 0) (.int .i64 0) (.string ⟨#[]⟩) (.int .i64 0) (.string ⟨#[]⟩) (.string ⟨#[]⟩) (.string ⟨#[]⟩) (.string ⟨#[]⟩) (.int .i64 0) rfl
        refine bodyPost_ret (results_cell_tmp Tryd.results12 _ _ _ ⟨w.heap.size, 0, none⟩ _ rfl HLD) rfl ?_
        refine ⟨rfl, ?_⟩
        exact (((((((((((HBB.out).setCell (p := ⟨w.heap.size, _, none⟩) (Nat.le_refl _) _).setCell (p := ⟨w.heap.size, _, none⟩) (Nat.le_refl _) _).setCell (p := ⟨w.heap.size, _, none⟩) (Nat.le_refl _) _).setCell (p := ⟨w.heap.size, _, none⟩) (Nat.le_refl _) _).setCell (p := ⟨w.heap.size, _, none⟩) (Nat.le_refl _) _).setCell (p := ⟨w.heap.size, _, none⟩) (Nat.le_refl _) _).setCell (p := ⟨w.heap.size, _, none⟩) (Nat.le_refl _) _).setCell (p := ⟨w.heap.size, _, none⟩) (Nat.le_refl _) _).setCell (p := ⟨w.heap.size, _, none⟩) (Nat.le_refl _) _).setCell (p := ⟨w.heap.size, _, none⟩) (Nat.le_refl _) _).setCell (p := ⟨w.heap.size, _, none⟩) (Nat.le_refl _) _
    · have cz : decide (0 < (v11.2.1.size : Int)) = false := decide_eq_false (by omega)
      have cy : decide (0 < v11.2.1.size) = false := decide_eq_false (by omega)
      cases mb with
      | false =>
        have eP := HP.out
        rw [if_neg hi, if_neg hz, if_neg (by decide)] at eP
        subst eP
        clear HP
        clear hi hz
        go_wp2
        have KF := (((((((((((HQ.out).set 0 (by simp) (.int .i64 0)).set 1 (by simp) (.int .i64 0)).set 2 (by simp) (.int .i64 0)).set 3 (by simp) (.int .i64 0)).set 4 (by simp) (.string ⟨#[]⟩)).set 5 (by simp) (.int .i64 0)).set 6 (by simp) (.string ⟨#[]⟩)).set 7 (by simp) (.string ⟨#[]⟩)).set 8 (by simp) (.string ⟨#[]⟩)).set 9 (by simp) (.string ⟨#[]⟩)).set 10 (by simp) (.int .i64 0)
        try simp only [Exit.inBlock, Exit.then]
        have HLD := load_req _ _ _ KF (.int .i64 0) (.int .i64 0) (.int .i64 0) (.int .i64 0) (.string ⟨#[]⟩) (.int .i64 0) (.string ⟨#[]⟩) (.string ⟨#[]⟩) (.string ⟨#[]⟩) (.string ⟨#[]⟩) (.int .i64 0) rfl
        refine bodyPost_ret (results_cell_tmp Tryd.results12 _ _ _ ⟨w.heap.size, 0, none⟩ _ rfl HLD) rfl ?_
        refine ⟨rfl, ?_⟩
        exact (((((((((((HBB.out).setCell (p := ⟨w.heap.size, _, none⟩) (Nat.le_refl _) _).setCell (p := ⟨w.heap.size, _, none⟩) (Nat.le_refl _) _).setCell (p := ⟨w.heap.size, _, none⟩) (Nat.le_refl _) _).setCell (p := ⟨w.heap.size, _, none⟩) (Nat.le_refl _) _).setCell (p := ⟨w.heap.size, _, none⟩) (Nat.le_refl _) _).setCell (p := ⟨w.heap.size, _, none⟩) (Nat.le_refl _) _).setCell (p := ⟨w.heap.size, _, none⟩) (Nat.le_refl _) _).setCell (p := ⟨w.heap.size, _, none⟩) (Nat.le_refl _) _).setCell (p := ⟨w.heap.size, _, none⟩) (Nat.le_refl _) _).setCell (p := ⟨w.heap.size, _, none⟩) (Nat.le_refl _) _).setCell (p := ⟨w.heap.size, _, none⟩) (Nat.le_refl _) _
      | true =>
        have eP := HP.out
        rw [if_neg hi, if_neg hz, if_pos rfl] at eP
        subst eP
        clear HP
        clear hi hz
        go_wp2
        have KF := (((((((((((HQ.out).set 0 (by simp) (.int .i64 v1.1)).set 1 (by simp) (.int .i64 v2.1)).set 2 (by simp) (.int .i64 v3.1)).set 3 (by simp) (.int .i64 v4.1)).set 4 (by simp) (.string v5.1)).set 5 (by simp) (.int .i64 v6.1)).set 6 (by simp) (.string v7.1)).set 7 (by simp) (.string v8.1)).set 8 (by simp) (.string v9.1)).set 9 (by simp) (.string v10.1)).set 10 (by simp) (.int .i64 v11.1)
        try simp only [Exit.inBlock, Exit.then]
        have HLD := load_req _ _ _ KF (.int .i64 v1.1) (.int .i64 v2.1) (.int .i64 v3.1) (.int .i64 v4.1) (.string v5.1) (.int .i64 v6.1) (.string v7.1) (.string v8.1) (.string v9.1) (.string v10.1) (.int .i64 v11.1) rfl
        refine bodyPost_ret (results_cell_tmp Tryd.results12 _ _ _ ⟨w.heap.size, 0, none⟩ _ rfl HLD) rfl ?_
        refine ⟨rfl, ?_⟩
        exact (((((((((((HBB.out).setCell (p := ⟨w.heap.size, _, none⟩) (Nat.le_refl _) _).setCell (p := ⟨w.heap.size, _, none⟩) (Nat.le_refl _) _).setCell (p := ⟨w.heap.size, _, none⟩) (Nat.le_refl _) _).setCell (p := ⟨w.heap.size, _, none⟩) (Nat.le_refl _) _).setCell (p := ⟨w.heap.size, _, none⟩) (Nat.le_refl _) _).setCell (p := ⟨w.heap.size, _, none⟩) (Nat.le_refl _) _).setCell (p := ⟨w.heap.size, _, none⟩) (Nat.le_refl _) _).setCell (p := ⟨w.heap.size, _, none⟩) (Nat.le_refl _) _).setCell (p := ⟨w.heap.size, _, none⟩) (Nat.le_refl _) _).setCell (p := ⟨w.heap.size, _, none⟩) (Nat.le_refl _) _).setCell (p := ⟨w.heap.size, _, none⟩) (Nat.le_refl _) _
end Go.Proofs.YtlpcidjmaeicoaaDoor.Reader

/-! NextR -/
/- What a number and a text are to the reference, and what comes behind. -/
namespace Go.Proofs.YtlpcidjmaeicoaaDoor.QWi
open Go Go.RowKit Go.Proofs.YtlpcidjmaeicoaaDoor.Reader

/-- A number, a text, as the reference takes them. -/
def nr {α : Type} (x : ByteArray × Bool) (f : Int → ByteArray × Bool → α) : α := f (tkR x.1 x.2).1 (tkR x.1 x.2).2
def tr {α : Type} (x : ByteArray × Bool) (m : Int) (f : ByteArray → ByteArray × Bool → α) : α := f (rdR x.1 x.2 m).1 (rdR x.1 x.2 m).2
theorem nr_of {α : Type} {x : ByteArray × Bool} {v : Int × ByteArray × Bool} (f : Int → ByteArray × Bool → α) (h : tkR x.1 x.2 = v) : nr x f = f v.1 v.2 := by
  subst h
  rfl
theorem tr_of {α : Type} {x : ByteArray × Bool} {m : Int} {v : ByteArray × ByteArray × Bool} (f : ByteArray → ByteArray × Bool → α) (h : rdR x.1 x.2 m = v) : tr x m f = f v.1 v.2 := by
  subst h
  rfl
end Go.Proofs.YtlpcidjmaeicoaaDoor.QWi

/-! RefReqC -/
/- The contract of the reference's TakeReq, in a closed form, as the printed texts call it. -/
namespace Go.Proofs.YtlpcidjmaeicoaaDoor.Reader
open Go Go.RowKit Go.Proofs.YtlpcidjmaeicoaaDoor.DecM Go.Proofs.YtlpcidjmaeicoaaDoor.Giv Go.Proofs.YtlpcidjmaeicoaaDoorW.PrintWords Go.Proofs.YtlpcidjmaeicoaaDoorW.PrintLast Go.Proofs.YtlpcidjmaeicoaaDoor.QWi

set_option maxHeartbeats 2000000 in
set_option maxRecDepth 10000 in
theorem ref_big (s : ByteArray) (w : World) (hs : 2048 < s.size) :
    Calls Tryd.prog 12 #[.string s] w fun e w' => e = .returned (outQ (zq 4)) ∧ Below w.heap.size w w' := by
  have c1 : decide (2048 < (s.size : Int)) = true := decide_eq_true (by omega)
  have B : Below w.heap.size w (w.alloc (.cells #[.int .i64 0, .int .i64 0, .int .i64 0, .int .i64 0, .string ⟨#[]⟩, .int .i64 0, .string ⟨#[]⟩, .string ⟨#[]⟩, .string ⟨#[]⟩, .string ⟨#[]⟩, .int .i64 0] 25)) := (Below.refl w.heap.size w).alloc (Nat.le_refl _) _
  have K : CellsAt (w.alloc (.cells #[.int .i64 0, .int .i64 0, .int .i64 0, .int .i64 0, .string ⟨#[]⟩, .int .i64 0, .string ⟨#[]⟩, .string ⟨#[]⟩, .string ⟨#[]⟩, .string ⟨#[]⟩, .int .i64 0] 25)) w.heap.size [.int .i64 0, .int .i64 0, .int .i64 0, .int .i64 0, .string ⟨#[]⟩, .int .i64 0, .string ⟨#[]⟩, .string ⟨#[]⟩, .string ⟨#[]⟩, .string ⟨#[]⟩, .int .i64 0] := cells_new w #[.int .i64 0, .int .i64 0, .int .i64 0, .int .i64 0, .string ⟨#[]⟩, .int .i64 0, .string ⟨#[]⟩, .string ⟨#[]⟩, .string ⟨#[]⟩, .string ⟨#[]⟩, .int .i64 0] 25
  have HK := Lib.hid K
  have HB := Lib.hid B
  clear hs K B
  go_enter Tryd.func12, Tryd.ntmps12
  go_wp2
  try simp only [Exit.inBlock, Exit.then]
  have HL := load_req _ _ _ HK.out (.int .i64 0) (.int .i64 0) (.int .i64 0) (.int .i64 0) (.string ⟨#[]⟩) (.int .i64 0) (.string ⟨#[]⟩) (.string ⟨#[]⟩) (.string ⟨#[]⟩) (.string ⟨#[]⟩) (.int .i64 0) rfl
  refine bodyPost_ret (results_cell_tmp Tryd.results12 _ _ _ ⟨w.heap.size, 0, none⟩ _ rfl HL) rfl ?_
  exact ⟨rfl, HB.out⟩
end Go.Proofs.YtlpcidjmaeicoaaDoor.Reader
namespace Go.Proofs.YtlpcidjmaeicoaaDoor.QWi
open Go Go.RowKit Go.Proofs.YtlpcidjmaeicoaaDoor.Reader

theorem small_r (x : Int) : stanchionref16_small.f x = some (decide (0 ≤ x ∧ x ≤ 1073741824)) := by
  unfold stanchionref16_small.f
  by_cases h : x ≥ 0
  · rw [if_pos h]
    exact congrArg some (decide_eq_decide.2 (by omega))
  · rw [if_neg h]
    exact congrArg some (decide_eq_false (by omega)).symm
/-- The reference's MayReq is the same. -/
theorem ref_may (a0 a1 a2 a3 : Int) (t : ByteArray) (o : Int) (y v l h : ByteArray) (m : Int) (k : Nat) :
    stanchionref16_MayReq.f (k + 4) a0 a1 a2 a3 t o y v l h m = some (decide (mayQ a0 a1 a2 a3 t o y v l h m)) := by
  have j3 : ∀ (k : Nat) (x : Bool), stanchionref16_MayReq.j3 (k + 1) x a0 a1 a2 a3 t o y v l h m = some (!x && decide ((a0 = 5 ∧ (1 ≤ o ∧ o ≤ 6) ∧ y.size ≤ 32 ∧ v.size ≤ 64 ∧ l.size ≤ 32 ∧ h.size ≤ 32) ∨
      (¬ a0 = 5 ∧ o = 0 ∧ y.size = 0 ∧ v.size = 0 ∧ l.size = 0 ∧ h.size = 0 ∧ m = 0))) := by
    intro k x
    rw [stanchionref16_MayReq.j3, emp5]
    cases x with
    | true => rfl
    | false =>
      simp only [Bool.false_eq_true, if_false, Bool.not_false, Bool.true_and]
      repeat' split
      all_goals
        congr 1
        first
          | exact (decide_eq_false (by omega)).symm
          | exact decide_eq_decide.2 (by omega)
  have j2 : ∀ (k : Nat) (x : Bool), stanchionref16_MayReq.j2 (k + 2) x a0 a1 a2 a3 t o y v l h m = some (!x && decide ((t.size = 0 ∨ a0 = 4 ∨ a0 = 6) ∧ ((a0 = 5 ∧ (1 ≤ o ∧ o ≤ 6) ∧ y.size ≤ 32 ∧ v.size ≤ 64 ∧ l.size ≤ 32 ∧ h.size ≤ 32) ∨
      (¬ a0 = 5 ∧ o = 0 ∧ y.size = 0 ∧ v.size = 0 ∧ l.size = 0 ∧ h.size = 0 ∧ m = 0)))) := by
    intro k x
    rw [stanchionref16_MayReq.j2, j3, j3]
    cases x with
    | true => rfl
    | false =>
      simp only [Bool.false_eq_true, if_false, Bool.not_false, Bool.true_and]
      repeat' split
      · exact congrArg some (decide_eq_decide.2 (by omega))
      · exact congrArg some (decide_eq_decide.2 (by omega))
      · rw [← decide_not, ← Bool.decide_and]
        exact congrArg some (decide_eq_decide.2 (by omega))
  have j1 : ∀ (k : Nat) (x z : Bool), stanchionref16_MayReq.j1 (k + 3) x z a0 a1 a2 a3 t o y v l h m = some (x && z && decide ((1 ≤ a0 ∧ a0 ≤ 6) ∧ t.size ≤ 16 ∧ (t.size = 0 ∨ a0 = 4 ∨ a0 = 6) ∧ ((a0 = 5 ∧ (1 ≤ o ∧ o ≤ 6) ∧ y.size ≤ 32 ∧ v.size ≤ 64 ∧ l.size ≤ 32 ∧ h.size ≤ 32) ∨
      (¬ a0 = 5 ∧ o = 0 ∧ y.size = 0 ∧ v.size = 0 ∧ l.size = 0 ∧ h.size = 0 ∧ m = 0)))) := by
    intro k x z
    rw [stanchionref16_MayReq.j1]
    simp only [j2, Bool.not_true, Bool.false_and]
    cases x with
    | false =>
      simp only [Bool.false_eq_true, if_false, Bool.false_and, ite_self]
    | true =>
      cases z with
      | false =>
        simp only [Bool.false_eq_true, if_false, Bool.false_and, Bool.and_false, ite_self]
      | true =>
        simp only [if_true, Bool.true_and]
        repeat' split
        · exact congrArg some (decide_eq_false (by omega)).symm
        · exact congrArg some (decide_eq_false (by omega)).symm
        · rw [← decide_not, ← Bool.decide_and]
          exact congrArg some (decide_eq_decide.2 (by omega))
  have j0 : ∀ (k : Nat) (x : Bool), stanchionref16_MayReq.j0 (k + 4) x a0 a1 a2 a3 t o y v l h m = some (x && decide ((0 ≤ a3 ∧ a3 ≤ 1073741824) ∧ (0 ≤ m ∧ m ≤ 1073741824) ∧ (1 ≤ a0 ∧ a0 ≤ 6) ∧ t.size ≤ 16 ∧ (t.size = 0 ∨ a0 = 4 ∨ a0 = 6) ∧ ((a0 = 5 ∧ (1 ≤ o ∧ o ≤ 6) ∧ y.size ≤ 32 ∧ v.size ≤ 64 ∧ l.size ≤ 32 ∧ h.size ≤ 32) ∨
      (¬ a0 = 5 ∧ o = 0 ∧ y.size = 0 ∧ v.size = 0 ∧ l.size = 0 ∧ h.size = 0 ∧ m = 0)))) := by
    intro k x
    rw [stanchionref16_MayReq.j0, small_r, small_r, bsm, bsm]
    simp only [j1, decide_eq_true_eq, Bool.and_false, Bool.false_and]
    cases x with
    | false => simp only [Bool.false_and, ite_self]
    | true =>
      simp only [Bool.true_and]
      split
      · rw [← Bool.decide_and]
        exact congrArg some (decide_eq_decide.2 (by omega))
      · exact congrArg some (decide_eq_false (by omega)).symm
  unfold stanchionref16_MayReq.f mayQ
  rw [small_r, small_r, bsm, bsm]
  simp only [j0, decide_eq_true_eq, Bool.false_and]
  split
  · rw [← Bool.decide_and]
    exact congrArg some (decide_eq_decide.2 (by omega))
  · exact congrArg some (decide_eq_false (by omega)).symm
def refQ (x : ByteArray × Bool) (a0 a1 a2 a3 : Int) (t : ByteArray) (o : Int) (y v l h : ByteArray) (m : Int) : Q12 :=
  if x.2 = false then zq 3 else if ¬ x.1.size = 0 then zq 3 else if decide (mayQ a0 a1 a2 a3 t o y v l h m) = true then (a0, a1, a2, a3, t, o, y, v, l, h, m, 0) else zq 3
/-- What the reference's TakeReq gives. -/
def refReqF (s : ByteArray) : Q12 :=
  if 2048 < s.size then zq 4 else
  nr (s, true) fun a1 x1 => nr x1 fun a2 x2 => nr x2 fun a3 x3 => nr x3 fun a4 x4 => tr x4 16 fun a5 x5 =>
  if a1 = 5 then nr x5 fun a6 x6 => tr x6 32 fun a7 x7 => tr x7 64 fun a8 x8 => tr x8 32 fun a9 x9 => tr x9 32 fun a10 x10 => nr x10 fun a11 x11 =>
    refQ x11 a1 a2 a3 a4 a5 a6 a7 a8 a9 a10 a11
  else refQ x5 a1 a2 a3 a4 a5 0 ⟨#[]⟩ ⟨#[]⟩ ⟨#[]⟩ ⟨#[]⟩ 0
theorem ref_all (s : ByteArray) (w : World) : Calls Tryd.prog 12 #[.string s] w fun e w' => e = .returned (outQ (refReqF s)) ∧ Below w.heap.size w w' := by
  by_cases hs : 2048 < s.size
  · unfold refReqF
    rw [if_pos hs]
    exact ref_big s w hs
  obtain ⟨v1, h1⟩ : ∃ v, tkR s true = v := ⟨_, rfl⟩
  obtain ⟨v2, h2⟩ : ∃ v, tkR v1.2.1 v1.2.2 = v := ⟨_, rfl⟩
  obtain ⟨v3, h3⟩ : ∃ v, tkR v2.2.1 v2.2.2 = v := ⟨_, rfl⟩
  obtain ⟨v4, h4⟩ : ∃ v, tkR v3.2.1 v3.2.2 = v := ⟨_, rfl⟩
  obtain ⟨v5, h5⟩ : ∃ v, rdR v4.2.1 v4.2.2 16 = v := ⟨_, rfl⟩
  have hF : refReqF s = if v1.1 = 5 then nr v5.2 fun a6 x6 => tr x6 32 fun a7 x7 => tr x7 64 fun a8 x8 => tr x8 32 fun a9 x9 => tr x9 32 fun a10 x10 => nr x10 fun a11 x11 =>
    refQ x11 v1.1 v2.1 v3.1 v4.1 v5.1 a6 a7 a8 a9 a10 a11
  else refQ v5.2 v1.1 v2.1 v3.1 v4.1 v5.1 0 ⟨#[]⟩ ⟨#[]⟩ ⟨#[]⟩ ⟨#[]⟩ 0 := by
    unfold refReqF
    rw [if_neg hs, nr_of _ h1, nr_of _ h2, nr_of _ h3, nr_of _ h4, tr_of _ h5]
  by_cases hk : v1.1 = 5
  · rw [if_pos hk] at hF
    obtain ⟨v6, h6⟩ : ∃ v, tkR v5.2.1 v5.2.2 = v := ⟨_, rfl⟩
    obtain ⟨v7, h7⟩ : ∃ v, rdR v6.2.1 v6.2.2 32 = v := ⟨_, rfl⟩
    obtain ⟨v8, h8⟩ : ∃ v, rdR v7.2.1 v7.2.2 64 = v := ⟨_, rfl⟩
    obtain ⟨v9, h9⟩ : ∃ v, rdR v8.2.1 v8.2.2 32 = v := ⟨_, rfl⟩
    obtain ⟨v10, h10⟩ : ∃ v, rdR v9.2.1 v9.2.2 32 = v := ⟨_, rfl⟩
    obtain ⟨v11, h11⟩ : ∃ v, tkR v10.2.1 v10.2.2 = v := ⟨_, rfl⟩
    rw [nr_of _ h6, tr_of _ h7, tr_of _ h8, tr_of _ h9, tr_of _ h10, nr_of _ h11] at hF
    exact ref_walk5 s w (by omega) v1 v2 v3 v4 v5 v6 v7 v8 v9 v10 v11 h1 h2 h3 h4 h5 h6 h7 h8 h9 h10 h11 hk _ (ref_may _ _ _ _ _ _ _ _ _ _ _ 0) _ hF.symm
  · rw [if_neg hk] at hF
    exact ref_walk s w (by omega) v1 v2 v3 v4 v5 h1 h2 h3 h4 h5 hk _ (ref_may _ _ _ _ _ _ _ _ _ _ _ 0) _ hF.symm
def stanchionref16_TakeReq.f (s : ByteArray) : Option Q12 := some (refReqF s)
theorem stanchionref16_TakeReq.calls (a0 : ByteArray) (r1 r2 r3 r4 : Int) (r5 : ByteArray) (r6 : Int) (r7 r8 r9 r10 : ByteArray) (r11 r12 : Int) (w : World) (h : stanchionref16_TakeReq.f a0 = some (r1, r2, r3, r4, r5, r6, r7, r8, r9, r10, r11, r12)) :
    Calls Tryd.prog 12 #[.string a0] w fun e w' => e = .returned (.tuple #[.agg #[.int .i64 r1, .int .i64 r2, .int .i64 r3, .int .i64 r4, .string r5, .int .i64 r6, .string r7, .string r8, .string r9, .string r10, .int .i64 r11], .int .i64 r12]) ∧ Below w.heap.size w w' := by
  have e := Option.some.inj h
  have c := ref_all a0 w
  rw [e] at c
  exact c
end Go.Proofs.YtlpcidjmaeicoaaDoor.QWi

/-! QWix2 -/
namespace Go.Proofs.YtlpcidjmaeicoaaDoor.QWi
open Go.RowKit Go.Proofs.YtlpcidjmaeicoaaDoorW.PrintWords Go.Proofs.YtlpcidjmaeicoaaDoorW.PrintLast Go.Proofs.YtlpcidjmaeicoaaDoorW.PrintMore
attribute [local go_sem] max2_int min2_int max_two min_two max_three min_three max_four min_four   -- for this text's walks alone
set_option linter.unusedVariables false
set_option linter.unusedSimpArgs false

theorem eqA25 (d : Nat) (w : World) (x0 y0 : Int) (x1 y1 : Int) (x2 y2 : Int) (x3 y3 : Int) (x4 y4 : ByteArray) (x5 y5 : Int) (x6 y6 : ByteArray) (x7 y7 : ByteArray) (x8 y8 : ByteArray) (x9 y9 : ByteArray) (x10 y10 : Int) :
    (Op.equalIn (d + 3) 25 (.agg #[.int .i64 x0, .int .i64 x1, .int .i64 x2, .int .i64 x3, .string x4, .int .i64 x5, .string x6, .string x7, .string x8, .string x9, .int .i64 x10]) (.agg #[.int .i64 y0, .int .i64 y1, .int .i64 y2, .int .i64 y3, .string y4, .int .i64 y5, .string y6, .string y7, .string y8, .string y9, .int .i64 y10])).run Tryd.prog w = .ok (x0 == y0 && (x1 == y1 && (x2 == y2 && (x3 == y3 && (x4.toList == y4.toList && ((x5 == y5 && (x6.toList == y6.toList && (x7.toList == y7.toList && (x8.toList == y8.toList && (x9.toList == y9.toList && (x10 == y10)))))))))))) w := by
  refine eqA_of Tryd.underlying25 (by kernel_rfl) ?_
  refine eqf_cons (by rfl) (by go_simp; rfl) (by go_simp; rfl) (by go_simp) ?_
  refine eqf_cons (by rfl) (by go_simp; rfl) (by go_simp; rfl) (by go_simp) ?_
  refine eqf_cons (by rfl) (by go_simp; rfl) (by go_simp; rfl) (by go_simp) ?_
  refine eqf_cons (by rfl) (by go_simp; rfl) (by go_simp; rfl) (by go_simp) ?_
  refine eqf_cons (by rfl) (by go_simp; rfl) (by go_simp; rfl) (by go_simp) ?_
  exact eqf_last (by rfl) (by go_simp) (by go_simp) (eqA23 (d + 0) w _ _ _ _ _ _ _ _ _ _ _ _)
end Go.Proofs.YtlpcidjmaeicoaaDoor.QWi
