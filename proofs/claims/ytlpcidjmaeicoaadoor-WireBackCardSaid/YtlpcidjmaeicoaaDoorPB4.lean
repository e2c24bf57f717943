/- A request, and a reply, that may be are taken from their bytes as they were (the statement WireBack, as a card). Condition: the package variable errors.errorType holds what the program's text lays there (the given tie) (texts QWixB, OpenRow, OpenPairs, Was, Enc, ReqP, RepP, SameP, BackP, Laid, UpWireBack) -/
import Derived.Test.YtlpcidjmaeicoaaDoorRows
import Derived.SliceStrings
import Derived.ChangeSlices
import Derived.Deep.SlicePairs
import Derived.Test.YtlpcidjmaeicoaaDoorCards
import Derived.Test.YtlpcidjmaeicoaaDoorTie
import Derived.RowKit
import Derived.LaidLaws
import Derived.LaidHandle
import Derived.Deep.DeepHandedRow
import Derived.Lib.LaidTab
import Derived.WalkKit
import Derived.ProofKit
import Derived.OpenShut
import Derived.ShutString
import Derived.ChangeOld
import Derived.Below
import Derived.Carry
import Derived.SevenTiedAt
import Derived.Test.YtlpcidjmaeicoaaDoorPB3
/-! QWixB -/
namespace Go.Proofs.YtlpcidjmaeicoaaDoor.QWi
open Go.RowKit Go.Proofs.YtlpcidjmaeicoaaDoorW.PrintWords Go.Proofs.YtlpcidjmaeicoaaDoorW.PrintLast Go.Proofs.YtlpcidjmaeicoaaDoorW.PrintMore
attribute [local go_sem] max2_int min2_int max_two min_two max_three min_three max_four min_four   -- for this text's walks alone
set_option linter.unusedVariables false
set_option linter.unusedSimpArgs false

attribute [local go_sem high] eqA25
-- NOT PRINTED: function 45 (wire_reader_took)

-- NOT PRINTED: function 25 (wire_reader_num)

-- NOT PRINTED: function 26 (wire_reader_text)

-- NOT PRINTED: function 57 (reflectlite_ValueOf)

-- NOT PRINTED: function 58 (reflectlite_Value_Type)

-- NOT PRINTED: function 59 (reflectlite_Value_IsNil)

-- NOT PRINTED: function 61 (reflectlite_TypeOf)

-- NOT PRINTED: function 66 (reflectlite_Value_Elem)

-- NOT PRINTED: function 67 (reflectlite_Value_Set)

-- NOT PRINTED: function 60 (errors_as)

-- NOT PRINTED: function 47 (errors_As)

-- NOT PRINTED: function 62 (errors_is)

-- NOT PRINTED: function 48 (errors_Is)

-- NOT PRINTED: function 27 (wire_reader_end)

/-! ### stanchionlaw16_WireBack: function 7 -/
def stanchionlaw16_WireBack.j0 : Nat → Bool → Int → Int → Int → Int → ByteArray → Bool → List (S74) → Bool → Option (Bool)
  | 0, _, _, _, _, _, _, _, _, _ => none
  | k + 1, x5, x301000, x301001, x301002, x301003, x301004, x301005, x301006, x301007 => (wire_Reply.f k x301000 x301001 x301002 x301003 x301004 x301005 x301006 x301007).bind fun bt317 => (if bt317.2 = 0 then ((wire_TakeReply.f bt317.1).bind fun bt319 => ((wire_Same.f k x301000 x301001 x301002 x301003 x301004 x301005 x301006 x301007 bt319.1 bt319.2.1 bt319.2.2.1 bt319.2.2.2.1 bt319.2.2.2.2.1 bt319.2.2.2.2.2.1 bt319.2.2.2.2.2.2.1 bt319.2.2.2.2.2.2.2.1).bind fun t331 => (if t331 = true then (if bt319.2.2.2.2.2.2.2.2 = 0 then (some x5) else (some false)) else (some false)))) else (some x5))
def stanchionlaw16_WireBack.f (k : Nat) (a0_0 : Int) (a0_1 : Int) (a0_2 : Int) (a0_3 : Int) (a0_4 : ByteArray) (a0_5 : Int) (a0_6 : ByteArray) (a0_7 : ByteArray) (a0_8 : ByteArray) (a0_9 : ByteArray) (a0_10 : Int) (a1_0 : Int) (a1_1 : Int) (a1_2 : Int) (a1_3 : Int) (a1_4 : ByteArray) (a1_5 : Bool) (l1_6 : List (S74)) (a1_7 : Bool) : Option (Bool) := (stanchionlaw16_shown.f k).bind fun t301 => ((wire_Req.f k a0_0 a0_1 a0_2 a0_3 a0_4 a0_5 a0_6 a0_7 a0_8 a0_9 a0_10).bind fun bt302 => (if bt302.2 = 0 then ((wire_TakeReq.f bt302.1).bind fun bt304 => (if (!(bt304.1 == a0_0) || (!(bt304.2.1 == a0_1) || (!(bt304.2.2.1 == a0_2) || (!(bt304.2.2.2.1 == a0_3) || (!(bt304.2.2.2.2.1.toList == a0_4.toList) || ((!(bt304.2.2.2.2.2.1 == a0_5) || (!(bt304.2.2.2.2.2.2.1.toList == a0_6.toList) || (!(bt304.2.2.2.2.2.2.2.1.toList == a0_7.toList) || (!(bt304.2.2.2.2.2.2.2.2.1.toList == a0_8.toList) || (!(bt304.2.2.2.2.2.2.2.2.2.1.toList == a0_9.toList) || (!(bt304.2.2.2.2.2.2.2.2.2.2.1 == a0_10))))))))))))) = true then (some false) else (if bt304.2.2.2.2.2.2.2.2.2.2.2 = 0 then (stanchionlaw16_WireBack.j0 k t301 a1_0 a1_1 a1_2 a1_3 a1_4 a1_5 l1_6 a1_7) else (some false)))) else (stanchionlaw16_WireBack.j0 k t301 a1_0 a1_1 a1_2 a1_3 a1_4 a1_5 l1_6 a1_7)))
set_option maxHeartbeats 8000000 in
set_option maxRecDepth 100000 in
theorem stanchionlaw16_WireBack.calls (k : Nat) (a0_0 : Int) (a0_1 : Int) (a0_2 : Int) (a0_3 : Int) (a0_4 : ByteArray) (a0_5 : Int) (a0_6 : ByteArray) (a0_7 : ByteArray) (a0_8 : ByteArray) (a0_9 : ByteArray) (a0_10 : Int) (a1_0 : Int) (a1_1 : Int) (a1_2 : Int) (a1_3 : Int) (a1_4 : ByteArray) (a1_5 : Bool) (A1_6 : Option Addr) (c1_6 : Nat) (l1_6 : List (S74)) (a1_7 : Bool) (r : Bool) (w : World) (hr1_6 : Kd.C k74 w A1_6 l1_6.length l1_6) (hc1_6 : l1_6.length ≤ c1_6) (h : stanchionlaw16_WireBack.f k a0_0 a0_1 a0_2 a0_3 a0_4 a0_5 a0_6 a0_7 a0_8 a0_9 a0_10 a1_0 a1_1 a1_2 a1_3 a1_4 a1_5 l1_6 a1_7 = some r) (hr0 : r = true) (hgl0 : Go.Proofs.YtlpcidjmaeicoaaDoor.Reader.Handle w) :
    Calls Tryd.prog 7 #[.agg #[.int .i64 a0_0, .int .i64 a0_1, .int .i64 a0_2, .int .i64 a0_3, .string a0_4, .int .i64 a0_5, .string a0_6, .string a0_7, .string a0_8, .string a0_9, .int .i64 a0_10], .agg #[.int .i64 a1_0, .int .i64 a1_1, .int .i64 a1_2, .int .i64 a1_3, .string a1_4, .bool a1_5, .slice A1_6 l1_6.length c1_6, .bool a1_7]] w fun e w' => e = .returned (.bool r) ∧ Below w.heap.size w w' := by
  have hr := Aside0.mk hr0
  clear hr0
  have HGL := Aside0.mk hgl0
  clear hgl0
  have hu25 := Tryd.underlying25
  have hu41 := Tryd.underlying41
  have HR1_6 := Aside0.mk hr1_6
  have HC1_6 := Aside0.mk hc1_6
  clear hr1_6 hc1_6
  have HB := Aside0.mk (Below.refl w.heap.size w)
  have H : ((stanchionlaw16_shown.f k).bind fun t301 => ((wire_Req.f k a0_0 a0_1 a0_2 a0_3 a0_4 a0_5 a0_6 a0_7 a0_8 a0_9 a0_10).bind fun bt302 => (if bt302.2 = 0 then ((wire_TakeReq.f bt302.1).bind fun bt304 => (if (!(bt304.1 == a0_0) || (!(bt304.2.1 == a0_1) || (!(bt304.2.2.1 == a0_2) || (!(bt304.2.2.2.1 == a0_3) || (!(bt304.2.2.2.2.1.toList == a0_4.toList) || ((!(bt304.2.2.2.2.2.1 == a0_5) || (!(bt304.2.2.2.2.2.2.1.toList == a0_6.toList) || (!(bt304.2.2.2.2.2.2.2.1.toList == a0_7.toList) || (!(bt304.2.2.2.2.2.2.2.2.1.toList == a0_8.toList) || (!(bt304.2.2.2.2.2.2.2.2.2.1.toList == a0_9.toList) || (!(bt304.2.2.2.2.2.2.2.2.2.2.1 == a0_10))))))))))))) = true then (some false) else (if bt304.2.2.2.2.2.2.2.2.2.2.2 = 0 then (stanchionlaw16_WireBack.j0 k t301 a1_0 a1_1 a1_2 a1_3 a1_4 a1_5 l1_6 a1_7) else (some false)))) else (stanchionlaw16_WireBack.j0 k t301 a1_0 a1_1 a1_2 a1_3 a1_4 a1_5 l1_6 a1_7)))) = some r := h
  clear h
  replace H := Option.bind_eq_some_iff.mp H
  obtain ⟨t301, A30, H⟩ := H
  replace H : ((wire_Req.f k a0_0 a0_1 a0_2 a0_3 a0_4 a0_5 a0_6 a0_7 a0_8 a0_9 a0_10).bind fun bt302 => (if bt302.2 = 0 then ((wire_TakeReq.f bt302.1).bind fun bt304 => (if (!(bt304.1 == a0_0) || (!(bt304.2.1 == a0_1) || (!(bt304.2.2.1 == a0_2) || (!(bt304.2.2.2.1 == a0_3) || (!(bt304.2.2.2.2.1.toList == a0_4.toList) || ((!(bt304.2.2.2.2.2.1 == a0_5) || (!(bt304.2.2.2.2.2.2.1.toList == a0_6.toList) || (!(bt304.2.2.2.2.2.2.2.1.toList == a0_7.toList) || (!(bt304.2.2.2.2.2.2.2.2.1.toList == a0_8.toList) || (!(bt304.2.2.2.2.2.2.2.2.2.1.toList == a0_9.toList) || (!(bt304.2.2.2.2.2.2.2.2.2.2.1 == a0_10))))))))))))) = true then (some false) else (if bt304.2.2.2.2.2.2.2.2.2.2.2 = 0 then (stanchionlaw16_WireBack.j0 k t301 a1_0 a1_1 a1_2 a1_3 a1_4 a1_5 l1_6 a1_7) else (some false)))) else (stanchionlaw16_WireBack.j0 k t301 a1_0 a1_1 a1_2 a1_3 a1_4 a1_5 l1_6 a1_7))) = some r := H
  have A3 := Aside0.mk A30
  clear A30
  replace H := Option.bind_eq_some_iff.mp H
  obtain ⟨⟨t302, t303⟩, A40, H⟩ := H
  replace H : (if t303 = 0 then ((wire_TakeReq.f t302).bind fun bt304 => (if (!(bt304.1 == a0_0) || (!(bt304.2.1 == a0_1) || (!(bt304.2.2.1 == a0_2) || (!(bt304.2.2.2.1 == a0_3) || (!(bt304.2.2.2.2.1.toList == a0_4.toList) || ((!(bt304.2.2.2.2.2.1 == a0_5) || (!(bt304.2.2.2.2.2.2.1.toList == a0_6.toList) || (!(bt304.2.2.2.2.2.2.2.1.toList == a0_7.toList) || (!(bt304.2.2.2.2.2.2.2.2.1.toList == a0_8.toList) || (!(bt304.2.2.2.2.2.2.2.2.2.1.toList == a0_9.toList) || (!(bt304.2.2.2.2.2.2.2.2.2.2.1 == a0_10))))))))))))) = true then (some false) else (if bt304.2.2.2.2.2.2.2.2.2.2.2 = 0 then (stanchionlaw16_WireBack.j0 k t301 a1_0 a1_1 a1_2 a1_3 a1_4 a1_5 l1_6 a1_7) else (some false)))) else (stanchionlaw16_WireBack.j0 k t301 a1_0 a1_1 a1_2 a1_3 a1_4 a1_5 l1_6 a1_7)) = some r := H
  have A4 := Aside0.mk A40
  clear A40
  have HC5 := Aside0.mk H
  clear H
  go_enter Tryd.func7, Tryd.ntmps7
  go_upto_if 21 with (first | ((with_reducible refine gate_dst (N := 2) rfl ?_); refine box_event ?hg (N := 2) ?hd (cs := #[.int .i64 a0_0, .int .i64 a0_1, .int .i64 a0_2, .int .i64 a0_3, .string a0_4, .int .i64 a0_5, .string a0_6, .string a0_7, .string a0_8, .string a0_9, .int .i64 a0_10]) (t := 25) ?hr ?_; (case hd => rfl); (case hg => rfl); (case hr => first | (go_simp; done) | (go_simp; rfl)); intro gb299 hg w6 hbox hb; have n0_ := Aside0.mk (below_step (by repeat (first | (with_reducible first | exact HB.out | apply below_alloc | apply pw_below_drewN | apply below_drew1) | exact HB.out)) hb); have n1_ := Aside0.mk (hbox); have n2_ := Aside0.mk ((by rw [hg]; exact (below_size (by repeat (first | (with_reducible first | exact HB.out | apply below_alloc | apply pw_below_drewN | apply below_drew1) | exact HB.out))) : w.heap.size ≤ gb299)); have n3_ := Aside0.mk ((by rw [hg]; exact (below_size (by repeat (first | (with_reducible first | exact HB.out | apply below_alloc | apply pw_below_drewN | apply below_drew1) | exact HB.out))) : w.heap.size ≤ gb299)); clear HB; have HB := n0_; have BK299 := n1_; have GW299 := n2_; have GE299 := n3_; clear n0_ n1_ n2_ n3_; clear hb hbox hg) | ((with_reducible refine gate_dst (N := 3) rfl ?_); refine box_event ?hg (N := 3) ?hd (cs := #[.int .i64 a1_0, .int .i64 a1_1, .int .i64 a1_2, .int .i64 a1_3, .string a1_4, .bool a1_5, .slice A1_6 l1_6.length c1_6, .bool a1_7]) (t := 41) ?hr ?_; (case hd => rfl); (case hg => rfl); (case hr => first | (go_simp; done) | (go_simp; rfl)); intro gb300 hg w7 hbox hb; have n0_ := Aside0.mk (blk_below (g := gb299) (o := .cells #[.int .i64 a0_0, .int .i64 a0_1, .int .i64 a0_2, .int .i64 a0_3, .string a0_4, .int .i64 a0_5, .string a0_6, .string a0_7, .string a0_8, .string a0_9, .int .i64 a0_10] 25 (0, 0)) (by (with_reducible repeat (first | refine blk_drewN ?_ _ | refine blk_drew ?_ | refine blk_alloc ?_ _)); exact BK299.out) hb); have n1_ := Aside0.mk (below_step (by repeat (first | (with_reducible first | exact HB.out | apply below_alloc | apply pw_below_drewN | apply below_drew1 | refine below_set ?_ GE299.out) | exact HB.out)) hb); have n2_ := Aside0.mk (hbox); have n3_ := Aside0.mk ((by rw [hg]; exact (below_size (by repeat (first | (with_reducible first | exact HB.out | apply below_alloc | apply pw_below_drewN | apply below_drew1 | refine below_set ?_ GE299.out) | exact HB.out))) : w.heap.size ≤ gb300)); have n4_ := Aside0.mk ((by rw [hg]; exact (below_size (by repeat (first | (with_reducible first | exact HB.out | apply below_alloc | apply pw_below_drewN | apply below_drew1 | refine below_set ?_ GE299.out) | exact HB.out))) : w.heap.size ≤ gb300)); have n5_ := Aside0.mk ((by rw [hg]; exact Nat.ne_of_lt (blk_lt (g := gb299) (o := .cells #[.int .i64 a0_0, .int .i64 a0_1, .int .i64 a0_2, .int .i64 a0_3, .string a0_4, .int .i64 a0_5, .string a0_6, .string a0_7, .string a0_8, .string a0_9, .int .i64 a0_10] 25 (0, 0)) (by (with_reducible repeat (first | refine blk_drewN ?_ _ | refine blk_drew ?_ | refine blk_alloc ?_ _)); exact BK299.out)) : gb299 ≠ gb300)); have n6_ := Aside0.mk ((by rw [hg]; exact Nat.ne_of_gt (blk_lt (g := gb299) (o := .cells #[.int .i64 a0_0, .int .i64 a0_1, .int .i64 a0_2, .int .i64 a0_3, .string a0_4, .int .i64 a0_5, .string a0_6, .string a0_7, .string a0_8, .string a0_9, .int .i64 a0_10] 25 (0, 0)) (by (with_reducible repeat (first | refine blk_drewN ?_ _ | refine blk_drew ?_ | refine blk_alloc ?_ _)); exact BK299.out)) : gb300 ≠ gb299)); clear BK299; clear HB; have BK299 := n0_; have HB := n1_; have BK300 := n2_; have GW300 := n3_; have GE300 := n4_; have NB299_300 := n5_; have NB300_299 := n6_; clear n0_ n1_ n2_ n3_ n4_ n5_ n6_; clear hb hbox hg) | ((with_reducible refine gate_callee (f := 8) rfl ?_); refine goesL_ (some 14) rfl rfl Tryd.func8 (by kernel_rfl) rfl #[] rfl (by (try simp only [List.map_toArray, List.map_cons, List.map_nil]); first | done | rfl | (simp only [List.length_drop, List.length_take]; rfl)) ?_; (with_reducible refine (stanchionlaw16_shown.calls k  t301 _ A3.out).mono ?_); rintro e w8 ⟨rfl, hb⟩; refine ⟨_, rfl, ?_⟩; have n0_ := Aside0.mk (blk_below (g := gb299) (o := .cells #[.int .i64 a0_0, .int .i64 a0_1, .int .i64 a0_2, .int .i64 a0_3, .string a0_4, .int .i64 a0_5, .string a0_6, .string a0_7, .string a0_8, .string a0_9, .int .i64 a0_10] 25 (0, 0)) (by (with_reducible repeat (first | refine blk_drewN ?_ _ | refine blk_drew ?_ | refine blk_alloc ?_ _)); exact BK299.out) hb); have n1_ := Aside0.mk (blk_below (g := gb300) (o := .cells #[.int .i64 a1_0, .int .i64 a1_1, .int .i64 a1_2, .int .i64 a1_3, .string a1_4, .bool a1_5, .slice A1_6 l1_6.length c1_6, .bool a1_7] 41 (0, 0)) (by (with_reducible repeat (first | refine blk_drewN ?_ _ | refine blk_drew ?_ | refine blk_alloc ?_ _)); exact BK300.out) hb); have n2_ := Aside0.mk (below_step (by repeat (first | (with_reducible first | exact HB.out | apply below_alloc | apply pw_below_drewN | apply below_drew1 | refine below_set ?_ GE299.out | refine below_set ?_ GE300.out) | exact HB.out)) hb); clear BK299; clear BK300; clear HB; have BK299 := n0_; have BK300 := n1_; have HB := n2_; clear n0_ n1_ n2_; (try clear hb); (try clear hb2); (try clear hk); (try clear hi); have hnb9 := NB299_300.out; have hnc9 := NB300_299.out; have hcz10_0 : w8.cell? ⟨gb299, 0, none⟩ = some (.int .i64 a0_0) := (blk_cell BK299.out 0).trans rfl; have hcz10_1 : w8.cell? ⟨gb299, 1, none⟩ = some (.int .i64 a0_1) := (blk_cell BK299.out 1).trans rfl; have hcz10_2 : w8.cell? ⟨gb299, 2, none⟩ = some (.int .i64 a0_2) := (blk_cell BK299.out 2).trans rfl; have hcz10_3 : w8.cell? ⟨gb299, 3, none⟩ = some (.int .i64 a0_3) := (blk_cell BK299.out 3).trans rfl; have hcz10_4 : w8.cell? ⟨gb299, 4, none⟩ = some (.string a0_4) := (blk_cell BK299.out 4).trans rfl; have hcz10_5 : w8.cell? ⟨gb299, 5, none⟩ = some (.int .i64 a0_5) := (blk_cell BK299.out 5).trans rfl; have hcz10_6 : w8.cell? ⟨gb299, 6, none⟩ = some (.string a0_6) := (blk_cell BK299.out 6).trans rfl; have hcz10_7 : w8.cell? ⟨gb299, 7, none⟩ = some (.string a0_7) := (blk_cell BK299.out 7).trans rfl; have hcz10_8 : w8.cell? ⟨gb299, 8, none⟩ = some (.string a0_8) := (blk_cell BK299.out 8).trans rfl; have hcz10_9 : w8.cell? ⟨gb299, 9, none⟩ = some (.string a0_9) := (blk_cell BK299.out 9).trans rfl; have hcz10_10 : w8.cell? ⟨gb299, 10, none⟩ = some (.int .i64 a0_10) := (blk_cell BK299.out 10).trans rfl; have hfz10_0 := blk_frozen BK299.out 0; have hfz10_1 := blk_frozen BK299.out 1; have hfz10_2 := blk_frozen BK299.out 2; have hfz10_3 := blk_frozen BK299.out 3; have hfz10_4 := blk_frozen BK299.out 4; have hfz10_5 := blk_frozen BK299.out 5; have hfz10_6 := blk_frozen BK299.out 6; have hfz10_7 := blk_frozen BK299.out 7; have hfz10_8 := blk_frozen BK299.out 8; have hfz10_9 := blk_frozen BK299.out 9; have hfz10_10 := blk_frozen BK299.out 10) | ((with_reducible refine gate_callee (f := 9) rfl ?_); refine goesL_ (some 17) rfl rfl Tryd.func9 (by kernel_rfl) rfl #[.agg #[.int .i64 a0_0, .int .i64 a0_1, .int .i64 a0_2, .int .i64 a0_3, .string a0_4, .int .i64 a0_5, .string a0_6, .string a0_7, .string a0_8, .string a0_9, .int .i64 a0_10]] rfl (by (try simp only [List.map_toArray, List.map_cons, List.map_nil]); first | done | rfl | (simp only [List.length_drop, List.length_take]; rfl)) ?_; (with_reducible refine (wire_Req.calls k a0_0 a0_1 a0_2 a0_3 a0_4 a0_5 a0_6 a0_7 a0_8 a0_9 a0_10 t302 t303 _ A4.out).mono ?_); rintro e w11 ⟨rfl, hb⟩; refine ⟨_, rfl, ?_⟩; have n0_ := Aside0.mk (blk_below (g := gb299) (o := .cells #[.int .i64 a0_0, .int .i64 a0_1, .int .i64 a0_2, .int .i64 a0_3, .string a0_4, .int .i64 a0_5, .string a0_6, .string a0_7, .string a0_8, .string a0_9, .int .i64 a0_10] 25 (0, 0)) (by (with_reducible repeat (first | refine blk_drewN ?_ _ | refine blk_drew ?_ | refine blk_alloc ?_ _)); exact BK299.out) hb); have n1_ := Aside0.mk (blk_below (g := gb300) (o := .cells #[.int .i64 a1_0, .int .i64 a1_1, .int .i64 a1_2, .int .i64 a1_3, .string a1_4, .bool a1_5, .slice A1_6 l1_6.length c1_6, .bool a1_7] 41 (0, 0)) (by (with_reducible repeat (first | refine blk_drewN ?_ _ | refine blk_drew ?_ | refine blk_alloc ?_ _)); exact BK300.out) hb); have n2_ := Aside0.mk (below_step (by repeat (first | (with_reducible first | exact HB.out | apply below_alloc | apply pw_below_drewN | apply below_drew1 | refine below_set ?_ GE299.out | refine below_set ?_ GE300.out) | exact HB.out)) hb); clear BK299; clear BK300; clear HB; have BK299 := n0_; have BK300 := n1_; have HB := n2_; clear n0_ n1_ n2_; (try clear hb); (try clear hb2); (try clear hk); (try clear hi)))
  (try simp only [Act.put, List.setIfInBounds_toArray, List.set_cons_zero, List.set_cons_succ])
  go_cut [] (fun wc => ∃ (kq : Nat), Aside0 (stanchionlaw16_WireBack.j0 kq t301 a1_0 a1_1 a1_2 a1_3 a1_4 a1_5 l1_6 a1_7 = some r) ∧ Aside0 (kq ≤ k) ∧ Aside0 (wc.heap[gb299]? = some (.cells #[.int .i64 a0_0, .int .i64 a0_1, .int .i64 a0_2, .int .i64 a0_3, .string a0_4, .int .i64 a0_5, .string a0_6, .string a0_7, .string a0_8, .string a0_9, .int .i64 a0_10] 25 (0, 0))) ∧ Aside0 (wc.heap[gb300]? = some (.cells #[.int .i64 a1_0, .int .i64 a1_1, .int .i64 a1_2, .int .i64 a1_3, .string a1_4, .bool a1_5, (.slice A1_6 l1_6.length c1_6), .bool a1_7] 41 (0, 0))) ∧ Aside0 (Below w.heap.size w wc))
  case first =>
    have H := HC5.out
    clear HC5
    by_cases c12 : t303 = 0
    · rw [if_pos c12] at H
      have c12b0 : (t303 == 0) = true := beq_iff_eq.mpr c12
      have c12b1 : (t303 != 0) = false := bne_eq_false_iff_eq.mpr c12
      clear c12
      (first | rw [c12b0] | (simp only [i64_w, i32_w]; rw [c12b0]) | skip)
      replace H := Option.bind_eq_some_iff.mp H
      obtain ⟨⟨t304, t305, t306, t307, t308, t309, t310, t311, t312, t313, t314, t315⟩, A130, H⟩ := H
      replace H : (if (!(t304 == a0_0) || (!(t305 == a0_1) || (!(t306 == a0_2) || (!(t307 == a0_3) || (!(t308.toList == a0_4.toList) || ((!(t309 == a0_5) || (!(t310.toList == a0_6.toList) || (!(t311.toList == a0_7.toList) || (!(t312.toList == a0_8.toList) || (!(t313.toList == a0_9.toList) || (!(t314 == a0_10))))))))))))) = true then (some false) else (if t315 = 0 then (stanchionlaw16_WireBack.j0 k t301 a1_0 a1_1 a1_2 a1_3 a1_4 a1_5 l1_6 a1_7) else (some false))) = some r := H
      have A13 := Aside0.mk A130
      clear A130
      by_cases c14 : (!(t304 == a0_0) || (!(t305 == a0_1) || (!(t306 == a0_2) || (!(t307 == a0_3) || (!(t308.toList == a0_4.toList) || ((!(t309 == a0_5) || (!(t310.toList == a0_6.toList) || (!(t311.toList == a0_7.toList) || (!(t312.toList == a0_8.toList) || (!(t313.toList == a0_9.toList) || (!(t314 == a0_10))))))))))))) = true
      · rw [if_pos c14] at H
        have c14b0 : (!(t304 == a0_0) || (!(t305 == a0_1) || (!(t306 == a0_2) || (!(t307 == a0_3) || (!(t308.toList == a0_4.toList) || ((!(t309 == a0_5) || (!(t310.toList == a0_6.toList) || (!(t311.toList == a0_7.toList) || (!(t312.toList == a0_8.toList) || (!(t313.toList == a0_9.toList) || (!(t314 == a0_10))))))))))))) = true := c14
        clear c14
        obtain rfl := Option.some.inj H
        cases hr.out
      · rw [if_neg c14] at H
        have c14b0 : (!(t304 == a0_0) || (!(t305 == a0_1) || (!(t306 == a0_2) || (!(t307 == a0_3) || (!(t308.toList == a0_4.toList) || ((!(t309 == a0_5) || (!(t310.toList == a0_6.toList) || (!(t311.toList == a0_7.toList) || (!(t312.toList == a0_8.toList) || (!(t313.toList == a0_9.toList) || (!(t314 == a0_10))))))))))))) = false := by simpa using c14
        clear c14
        by_cases c22 : t315 = 0
        · rw [if_pos c22] at H
          have c22b0 : (t315 == 0) = true := beq_iff_eq.mpr c22
          have c22b1 : (t315 != 0) = false := bne_eq_false_iff_eq.mpr c22
          clear c22
          have H' := Aside0.mk H
          clear H
          go_wp2_with (first | ((with_reducible refine gate_callee (f := 11) rfl ?_); refine goesL_ (some 24) rfl rfl Tryd.func11 (by kernel_rfl) rfl #[.string t302] rfl (by (try simp only [List.map_toArray, List.map_cons, List.map_nil]); first | done | rfl | (simp only [List.length_drop, List.length_take]; rfl)) ?_; (with_reducible refine (wire_TakeReq.calls t302 t304 t305 t306 t307 t308 t309 t310 t311 t312 t313 t314 t315 _ A13.out (handle_at HGL.out (by repeat (first | (with_reducible first | exact HB.out | apply below_alloc | apply pw_below_drewN | apply below_drew1 | refine below_set ?_ GE299.out | refine below_set ?_ GE300.out) | exact HB.out)))).mono ?_); rintro e w23 ⟨rfl, hb⟩; refine ⟨_, rfl, ?_⟩; have n0_ := Aside0.mk (blk_below (g := gb299) (o := .cells #[.int .i64 a0_0, .int .i64 a0_1, .int .i64 a0_2, .int .i64 a0_3, .string a0_4, .int .i64 a0_5, .string a0_6, .string a0_7, .string a0_8, .string a0_9, .int .i64 a0_10] 25 (0, 0)) (by (with_reducible repeat (first | refine blk_drewN ?_ _ | refine blk_drew ?_ | refine blk_alloc ?_ _)); exact BK299.out) hb); have n1_ := Aside0.mk (blk_below (g := gb300) (o := .cells #[.int .i64 a1_0, .int .i64 a1_1, .int .i64 a1_2, .int .i64 a1_3, .string a1_4, .bool a1_5, .slice A1_6 l1_6.length c1_6, .bool a1_7] 41 (0, 0)) (by (with_reducible repeat (first | refine blk_drewN ?_ _ | refine blk_drew ?_ | refine blk_alloc ?_ _)); exact BK300.out) hb); have n2_ := Aside0.mk (below_step (by repeat (first | (with_reducible first | exact HB.out | apply below_alloc | apply pw_below_drewN | apply below_drew1 | refine below_set ?_ GE299.out | refine below_set ?_ GE300.out) | exact HB.out)) hb); clear BK299; clear BK300; clear HB; have BK299 := n0_; have BK300 := n1_; have HB := n2_; clear n0_ n1_ n2_; (try clear hb); (try clear hb2); (try clear hk); (try clear hi)) | ((with_reducible refine gate_dst (N := 8) rfl ?_); refine box_event ?hg (N := 8) ?hd (cs := #[.int .i64 0, .int .i64 0, .int .i64 0, .int .i64 0, .string (⟨#[]⟩ : ByteArray), .int .i64 0, .string (⟨#[]⟩ : ByteArray), .string (⟨#[]⟩ : ByteArray), .string (⟨#[]⟩ : ByteArray), .string (⟨#[]⟩ : ByteArray), .int .i64 0]) (t := 25) ?hr ?_; (case hd => rfl); (case hg => rfl); (case hr => first | (go_simp; done) | (go_simp; rfl)); intro gb316 hg w24 hbox hb; have n0_ := Aside0.mk (blk_below (g := gb299) (o := .cells #[.int .i64 a0_0, .int .i64 a0_1, .int .i64 a0_2, .int .i64 a0_3, .string a0_4, .int .i64 a0_5, .string a0_6, .string a0_7, .string a0_8, .string a0_9, .int .i64 a0_10] 25 (0, 0)) (by (with_reducible repeat (first | refine blk_drewN ?_ _ | refine blk_drew ?_ | refine blk_alloc ?_ _)); exact BK299.out) hb); have n1_ := Aside0.mk (blk_below (g := gb300) (o := .cells #[.int .i64 a1_0, .int .i64 a1_1, .int .i64 a1_2, .int .i64 a1_3, .string a1_4, .bool a1_5, .slice A1_6 l1_6.length c1_6, .bool a1_7] 41 (0, 0)) (by (with_reducible repeat (first | refine blk_drewN ?_ _ | refine blk_drew ?_ | refine blk_alloc ?_ _)); exact BK300.out) hb); have n2_ := Aside0.mk (below_step (by repeat (first | (with_reducible first | exact HB.out | apply below_alloc | apply pw_below_drewN | apply below_drew1 | refine below_set ?_ GE299.out | refine below_set ?_ GE300.out) | exact HB.out)) hb); have n3_ := Aside0.mk (hbox); have n4_ := Aside0.mk ((by rw [hg]; exact (below_size (by repeat (first | (with_reducible first | exact HB.out | apply below_alloc | apply pw_below_drewN | apply below_drew1 | refine below_set ?_ GE299.out | refine below_set ?_ GE300.out) | exact HB.out))) : w.heap.size ≤ gb316)); have n5_ := Aside0.mk ((by rw [hg]; exact (below_size (by repeat (first | (with_reducible first | exact HB.out | apply below_alloc | apply pw_below_drewN | apply below_drew1 | refine below_set ?_ GE299.out | refine below_set ?_ GE300.out) | exact HB.out))) : w.heap.size ≤ gb316)); have n6_ := Aside0.mk ((by rw [hg]; exact Nat.ne_of_lt (blk_lt (g := gb299) (o := .cells #[.int .i64 a0_0, .int .i64 a0_1, .int .i64 a0_2, .int .i64 a0_3, .string a0_4, .int .i64 a0_5, .string a0_6, .string a0_7, .string a0_8, .string a0_9, .int .i64 a0_10] 25 (0, 0)) (by (with_reducible repeat (first | refine blk_drewN ?_ _ | refine blk_drew ?_ | refine blk_alloc ?_ _)); exact BK299.out)) : gb299 ≠ gb316)); have n7_ := Aside0.mk ((by rw [hg]; exact Nat.ne_of_gt (blk_lt (g := gb299) (o := .cells #[.int .i64 a0_0, .int .i64 a0_1, .int .i64 a0_2, .int .i64 a0_3, .string a0_4, .int .i64 a0_5, .string a0_6, .string a0_7, .string a0_8, .string a0_9, .int .i64 a0_10] 25 (0, 0)) (by (with_reducible repeat (first | refine blk_drewN ?_ _ | refine blk_drew ?_ | refine blk_alloc ?_ _)); exact BK299.out)) : gb316 ≠ gb299)); have n8_ := Aside0.mk ((by rw [hg]; exact Nat.ne_of_lt (blk_lt (g := gb300) (o := .cells #[.int .i64 a1_0, .int .i64 a1_1, .int .i64 a1_2, .int .i64 a1_3, .string a1_4, .bool a1_5, .slice A1_6 l1_6.length c1_6, .bool a1_7] 41 (0, 0)) (by (with_reducible repeat (first | refine blk_drewN ?_ _ | refine blk_drew ?_ | refine blk_alloc ?_ _)); exact BK300.out)) : gb300 ≠ gb316)); have n9_ := Aside0.mk ((by rw [hg]; exact Nat.ne_of_gt (blk_lt (g := gb300) (o := .cells #[.int .i64 a1_0, .int .i64 a1_1, .int .i64 a1_2, .int .i64 a1_3, .string a1_4, .bool a1_5, .slice A1_6 l1_6.length c1_6, .bool a1_7] 41 (0, 0)) (by (with_reducible repeat (first | refine blk_drewN ?_ _ | refine blk_drew ?_ | refine blk_alloc ?_ _)); exact BK300.out)) : gb316 ≠ gb300)); clear BK299; clear BK300; clear HB; have BK299 := n0_; have BK300 := n1_; have HB := n2_; have BK316 := n3_; have GW316 := n4_; have GE316 := n5_; have NB299_316 := n6_; have NB316_299 := n7_; have NB300_316 := n8_; have NB316_300 := n9_; clear n0_ n1_ n2_ n3_ n4_ n5_ n6_ n7_ n8_ n9_; clear hb hbox hg; have hnb25 := NB316_299.out; have hnc25 := NB299_316.out; have hnb26 := NB316_300.out; have hnc26 := NB300_316.out; have hcz27_0 : w24.cell? ⟨gb316, 0, none⟩ = some (.int .i64 0) := (blk_cell BK316.out 0).trans rfl; have hcz27_1 : w24.cell? ⟨gb316, 1, none⟩ = some (.int .i64 0) := (blk_cell BK316.out 1).trans rfl; have hcz27_2 : w24.cell? ⟨gb316, 2, none⟩ = some (.int .i64 0) := (blk_cell BK316.out 2).trans rfl; have hcz27_3 : w24.cell? ⟨gb316, 3, none⟩ = some (.int .i64 0) := (blk_cell BK316.out 3).trans rfl; have hcz27_4 : w24.cell? ⟨gb316, 4, none⟩ = some (.string (⟨#[]⟩ : ByteArray)) := (blk_cell BK316.out 4).trans rfl; have hcz27_5 : w24.cell? ⟨gb316, 5, none⟩ = some (.int .i64 0) := (blk_cell BK316.out 5).trans rfl; have hcz27_6 : w24.cell? ⟨gb316, 6, none⟩ = some (.string (⟨#[]⟩ : ByteArray)) := (blk_cell BK316.out 6).trans rfl; have hcz27_7 : w24.cell? ⟨gb316, 7, none⟩ = some (.string (⟨#[]⟩ : ByteArray)) := (blk_cell BK316.out 7).trans rfl; have hcz27_8 : w24.cell? ⟨gb316, 8, none⟩ = some (.string (⟨#[]⟩ : ByteArray)) := (blk_cell BK316.out 8).trans rfl; have hcz27_9 : w24.cell? ⟨gb316, 9, none⟩ = some (.string (⟨#[]⟩ : ByteArray)) := (blk_cell BK316.out 9).trans rfl; have hcz27_10 : w24.cell? ⟨gb316, 10, none⟩ = some (.int .i64 0) := (blk_cell BK316.out 10).trans rfl; have hfz27_0 := blk_frozen BK316.out 0; have hfz27_1 := blk_frozen BK316.out 1; have hfz27_2 := blk_frozen BK316.out 2; have hfz27_3 := blk_frozen BK316.out 3; have hfz27_4 := blk_frozen BK316.out 4; have hfz27_5 := blk_frozen BK316.out 5; have hfz27_6 := blk_frozen BK316.out 6; have hfz27_7 := blk_frozen BK316.out 7; have hfz27_8 := blk_frozen BK316.out 8; have hfz27_9 := blk_frozen BK316.out 9; have hfz27_10 := blk_frozen BK316.out 10; have hnb28 := NB299_300.out; have hnc28 := NB300_299.out; have hcz29_0 : w24.cell? ⟨gb299, 0, none⟩ = some (.int .i64 a0_0) := (blk_cell BK299.out 0).trans rfl; have hcz29_1 : w24.cell? ⟨gb299, 1, none⟩ = some (.int .i64 a0_1) := (blk_cell BK299.out 1).trans rfl; have hcz29_2 : w24.cell? ⟨gb299, 2, none⟩ = some (.int .i64 a0_2) := (blk_cell BK299.out 2).trans rfl; have hcz29_3 : w24.cell? ⟨gb299, 3, none⟩ = some (.int .i64 a0_3) := (blk_cell BK299.out 3).trans rfl; have hcz29_4 : w24.cell? ⟨gb299, 4, none⟩ = some (.string a0_4) := (blk_cell BK299.out 4).trans rfl; have hcz29_5 : w24.cell? ⟨gb299, 5, none⟩ = some (.int .i64 a0_5) := (blk_cell BK299.out 5).trans rfl; have hcz29_6 : w24.cell? ⟨gb299, 6, none⟩ = some (.string a0_6) := (blk_cell BK299.out 6).trans rfl; have hcz29_7 : w24.cell? ⟨gb299, 7, none⟩ = some (.string a0_7) := (blk_cell BK299.out 7).trans rfl; have hcz29_8 : w24.cell? ⟨gb299, 8, none⟩ = some (.string a0_8) := (blk_cell BK299.out 8).trans rfl; have hcz29_9 : w24.cell? ⟨gb299, 9, none⟩ = some (.string a0_9) := (blk_cell BK299.out 9).trans rfl; have hcz29_10 : w24.cell? ⟨gb299, 10, none⟩ = some (.int .i64 a0_10) := (blk_cell BK299.out 10).trans rfl; have hfz29_0 := blk_frozen BK299.out 0; have hfz29_1 := blk_frozen BK299.out 1; have hfz29_2 := blk_frozen BK299.out 2; have hfz29_3 := blk_frozen BK299.out 3; have hfz29_4 := blk_frozen BK299.out 4; have hfz29_5 := blk_frozen BK299.out 5; have hfz29_6 := blk_frozen BK299.out 6; have hfz29_7 := blk_frozen BK299.out 7; have hfz29_8 := blk_frozen BK299.out 8; have hfz29_9 := blk_frozen BK299.out 9; have hfz29_10 := blk_frozen BK299.out 10))
          go_meet
          case rel => exact ⟨_, H', ⟨by first | omega | exact Nat.le_refl _⟩, ⟨by (with_reducible repeat (first | refine blk_drewN ?_ _ | refine blk_drew ?_ | refine blk_alloc ?_ _)); refine blk_far ?_ NB299_316.out _; (with_reducible repeat (first | refine blk_drewN ?_ _ | refine blk_drew ?_ | refine blk_alloc ?_ _)); refine blk_far ?_ NB299_316.out _; (with_reducible repeat (first | refine blk_drewN ?_ _ | refine blk_drew ?_ | refine blk_alloc ?_ _)); refine blk_far ?_ NB299_316.out _; (with_reducible repeat (first | refine blk_drewN ?_ _ | refine blk_drew ?_ | refine blk_alloc ?_ _)); refine blk_far ?_ NB299_316.out _; (with_reducible repeat (first | refine blk_drewN ?_ _ | refine blk_drew ?_ | refine blk_alloc ?_ _)); refine blk_far ?_ NB299_316.out _; (with_reducible repeat (first | refine blk_drewN ?_ _ | refine blk_drew ?_ | refine blk_alloc ?_ _)); refine blk_far ?_ NB299_316.out _; (with_reducible repeat (first | refine blk_drewN ?_ _ | refine blk_drew ?_ | refine blk_alloc ?_ _)); refine blk_far ?_ NB299_316.out _; (with_reducible repeat (first | refine blk_drewN ?_ _ | refine blk_drew ?_ | refine blk_alloc ?_ _)); refine blk_far ?_ NB299_316.out _; (with_reducible repeat (first | refine blk_drewN ?_ _ | refine blk_drew ?_ | refine blk_alloc ?_ _)); refine blk_far ?_ NB299_316.out _; (with_reducible repeat (first | refine blk_drewN ?_ _ | refine blk_drew ?_ | refine blk_alloc ?_ _)); refine blk_far ?_ NB299_316.out _; (with_reducible repeat (first | refine blk_drewN ?_ _ | refine blk_drew ?_ | refine blk_alloc ?_ _)); refine blk_far ?_ NB299_316.out _; (with_reducible repeat (first | refine blk_drewN ?_ _ | refine blk_drew ?_ | refine blk_alloc ?_ _)); exact BK299.out⟩, ⟨by (with_reducible repeat (first | refine blk_drewN ?_ _ | refine blk_drew ?_ | refine blk_alloc ?_ _)); refine blk_far ?_ NB300_316.out _; (with_reducible repeat (first | refine blk_drewN ?_ _ | refine blk_drew ?_ | refine blk_alloc ?_ _)); refine blk_far ?_ NB300_316.out _; (with_reducible repeat (first | refine blk_drewN ?_ _ | refine blk_drew ?_ | refine blk_alloc ?_ _)); refine blk_far ?_ NB300_316.out _; (with_reducible repeat (first | refine blk_drewN ?_ _ | refine blk_drew ?_ | refine blk_alloc ?_ _)); refine blk_far ?_ NB300_316.out _; (with_reducible repeat (first | refine blk_drewN ?_ _ | refine blk_drew ?_ | refine blk_alloc ?_ _)); refine blk_far ?_ NB300_316.out _; (with_reducible repeat (first | refine blk_drewN ?_ _ | refine blk_drew ?_ | refine blk_alloc ?_ _)); refine blk_far ?_ NB300_316.out _; (with_reducible repeat (first | refine blk_drewN ?_ _ | refine blk_drew ?_ | refine blk_alloc ?_ _)); refine blk_far ?_ NB300_316.out _; (with_reducible repeat (first | refine blk_drewN ?_ _ | refine blk_drew ?_ | refine blk_alloc ?_ _)); refine blk_far ?_ NB300_316.out _; (with_reducible repeat (first | refine blk_drewN ?_ _ | refine blk_drew ?_ | refine blk_alloc ?_ _)); refine blk_far ?_ NB300_316.out _; (with_reducible repeat (first | refine blk_drewN ?_ _ | refine blk_drew ?_ | refine blk_alloc ?_ _)); refine blk_far ?_ NB300_316.out _; (with_reducible repeat (first | refine blk_drewN ?_ _ | refine blk_drew ?_ | refine blk_alloc ?_ _)); refine blk_far ?_ NB300_316.out _; (with_reducible repeat (first | refine blk_drewN ?_ _ | refine blk_drew ?_ | refine blk_alloc ?_ _)); exact BK300.out⟩, ⟨by repeat (first | (with_reducible first | exact HB.out | apply below_alloc | apply pw_below_drewN | apply below_drew1 | refine below_set ?_ GE299.out | refine below_set ?_ GE300.out | refine below_set ?_ GE316.out) | exact HB.out)⟩⟩
        · rw [if_neg c22] at H
          have c22b0 : (t315 == 0) = false := beq_eq_false_iff_ne.mpr c22
          have c22b1 : (t315 != 0) = true := bne_iff_ne.mpr c22
          obtain rfl := Option.some.inj H
          cases hr.out
    · rw [if_neg c12] at H
      have c12b0 : (t303 == 0) = false := beq_eq_false_iff_ne.mpr c12
      have c12b1 : (t303 != 0) = true := bne_iff_ne.mpr c12
      (first | rw [c12b0] | (simp only [i64_w, i32_w]; rw [c12b0]) | skip)
      have H' := Aside0.mk H
      clear H
      go_wp2
      go_meet
      case rel => exact ⟨_, H', ⟨by first | omega | exact Nat.le_refl _⟩, ⟨by (with_reducible repeat (first | refine blk_drewN ?_ _ | refine blk_drew ?_ | refine blk_alloc ?_ _)); exact BK299.out⟩, ⟨by (with_reducible repeat (first | refine blk_drewN ?_ _ | refine blk_drew ?_ | refine blk_alloc ?_ _)); exact BK300.out⟩, ⟨by repeat (first | (with_reducible first | exact HB.out | apply below_alloc | apply pw_below_drewN | apply below_drew1 | refine below_set ?_ GE299.out | refine below_set ?_ GE300.out) | exact HB.out)⟩⟩
  case rest =>
    clear HC5
    try clear c1
    try clear c2
    try clear p2
    try clear c3
    try clear c7
    try clear c8
    try clear c9
    try clear c11
    try clear c12
    try clear c12b0
    try clear c12b1
    try clear c14
    try clear c14b0
    try clear c17
    try clear c18
    try clear c20
    try clear c22
    try clear c22b0
    try clear c22b1
    try clear c25
    try clear c26
    try clear c28
    try clear c32
    try clear c33
    try clear c35
    try clear hcz10_0
    try clear hcz10_1
    try clear hcz10_10
    try clear hcz10_2
    try clear hcz10_3
    try clear hcz10_4
    try clear hcz10_5
    try clear hcz10_6
    try clear hcz10_7
    try clear hcz10_8
    try clear hcz10_9
    try clear hcz19_0
    try clear hcz19_1
    try clear hcz19_10
    try clear hcz19_2
    try clear hcz19_3
    try clear hcz19_4
    try clear hcz19_5
    try clear hcz19_6
    try clear hcz19_7
    try clear hcz19_8
    try clear hcz19_9
    try clear hcz21_0
    try clear hcz21_1
    try clear hcz21_10
    try clear hcz21_2
    try clear hcz21_3
    try clear hcz21_4
    try clear hcz21_5
    try clear hcz21_6
    try clear hcz21_7
    try clear hcz21_8
    try clear hcz21_9
    try clear hcz27_0
    try clear hcz27_1
    try clear hcz27_10
    try clear hcz27_2
    try clear hcz27_3
    try clear hcz27_4
    try clear hcz27_5
    try clear hcz27_6
    try clear hcz27_7
    try clear hcz27_8
    try clear hcz27_9
    try clear hcz29_0
    try clear hcz29_1
    try clear hcz29_10
    try clear hcz29_2
    try clear hcz29_3
    try clear hcz29_4
    try clear hcz29_5
    try clear hcz29_6
    try clear hcz29_7
    try clear hcz29_8
    try clear hcz29_9
    try clear hcz34_0
    try clear hcz34_1
    try clear hcz34_10
    try clear hcz34_2
    try clear hcz34_3
    try clear hcz34_4
    try clear hcz34_5
    try clear hcz34_6
    try clear hcz34_7
    try clear hcz34_8
    try clear hcz34_9
    try clear hcz36_0
    try clear hcz36_1
    try clear hcz36_10
    try clear hcz36_2
    try clear hcz36_3
    try clear hcz36_4
    try clear hcz36_5
    try clear hcz36_6
    try clear hcz36_7
    try clear hcz36_8
    try clear hcz36_9
    try clear hfz10_0
    try clear hfz10_1
    try clear hfz10_10
    try clear hfz10_2
    try clear hfz10_3
    try clear hfz10_4
    try clear hfz10_5
    try clear hfz10_6
    try clear hfz10_7
    try clear hfz10_8
    try clear hfz10_9
    try clear hfz19_0
    try clear hfz19_1
    try clear hfz19_10
    try clear hfz19_2
    try clear hfz19_3
    try clear hfz19_4
    try clear hfz19_5
    try clear hfz19_6
    try clear hfz19_7
    try clear hfz19_8
    try clear hfz19_9
    try clear hfz21_0
    try clear hfz21_1
    try clear hfz21_10
    try clear hfz21_2
    try clear hfz21_3
    try clear hfz21_4
    try clear hfz21_5
    try clear hfz21_6
    try clear hfz21_7
    try clear hfz21_8
    try clear hfz21_9
    try clear hfz27_0
    try clear hfz27_1
    try clear hfz27_10
    try clear hfz27_2
    try clear hfz27_3
    try clear hfz27_4
    try clear hfz27_5
    try clear hfz27_6
    try clear hfz27_7
    try clear hfz27_8
    try clear hfz27_9
    try clear hfz29_0
    try clear hfz29_1
    try clear hfz29_10
    try clear hfz29_2
    try clear hfz29_3
    try clear hfz29_4
    try clear hfz29_5
    try clear hfz29_6
    try clear hfz29_7
    try clear hfz29_8
    try clear hfz29_9
    try clear hfz34_0
    try clear hfz34_1
    try clear hfz34_10
    try clear hfz34_2
    try clear hfz34_3
    try clear hfz34_4
    try clear hfz34_5
    try clear hfz34_6
    try clear hfz34_7
    try clear hfz34_8
    try clear hfz34_9
    try clear hfz36_0
    try clear hfz36_1
    try clear hfz36_10
    try clear hfz36_2
    try clear hfz36_3
    try clear hfz36_4
    try clear hfz36_5
    try clear hfz36_6
    try clear hfz36_7
    try clear hfz36_8
    try clear hfz36_9
    obtain ⟨kq, HA, HJ4, BK299, BK300, HB⟩ := hcut
    cases kq with
    | zero => exact absurd HA.out (by simp [stanchionlaw16_WireBack.j0])
    | succ kj4 =>
      have H := HA.out
      clear HA
      simp only [stanchionlaw16_WireBack.j0] at H
      replace H := Option.bind_eq_some_iff.mp H
      obtain ⟨⟨t317, t318⟩, A370, H⟩ := H
      replace H : (if t318 = 0 then ((wire_TakeReply.f t317).bind fun bt319 => ((wire_Same.f kj4 a1_0 a1_1 a1_2 a1_3 a1_4 a1_5 l1_6 a1_7 bt319.1 bt319.2.1 bt319.2.2.1 bt319.2.2.2.1 bt319.2.2.2.2.1 bt319.2.2.2.2.2.1 bt319.2.2.2.2.2.2.1 bt319.2.2.2.2.2.2.2.1).bind fun t331 => (if t331 = true then (if bt319.2.2.2.2.2.2.2.2 = 0 then (some t301) else (some false)) else (some false)))) else (some t301)) = some r := H
      have A37 := Aside0.mk A370
      clear A370
      by_cases c38 : t318 = 0
      · rw [if_pos c38] at H
        have c38b0 : (t318 == 0) = true := beq_iff_eq.mpr c38
        have c38b1 : (t318 != 0) = false := bne_eq_false_iff_eq.mpr c38
        clear c38
        replace H := Option.bind_eq_some_iff.mp H
        obtain ⟨⟨t319, t320, t321, t322, t323, t324, t325, t328, t329⟩, A390, H⟩ := H
        replace H : ((wire_Same.f kj4 a1_0 a1_1 a1_2 a1_3 a1_4 a1_5 l1_6 a1_7 t319 t320 t321 t322 t323 t324 t325 t328).bind fun t331 => (if t331 = true then (if t329 = 0 then (some t301) else (some false)) else (some false))) = some r := H
        have A39 := Aside0.mk A390
        clear A390
        replace H := Option.bind_eq_some_iff.mp H
        obtain ⟨t331, A400, H⟩ := H
        replace H : (if t331 = true then (if t329 = 0 then (some t301) else (some false)) else (some false)) = some r := H
        have A40 := Aside0.mk A400
        clear A400
        by_cases c41 : t331 = true
        · subst c41
          have H1 : (if t329 = 0 then (some t301) else (some false)) = some r := by rw [if_pos rfl] at H; exact H
          clear H
          have H := H1
          clear H1
          by_cases c42 : t329 = 0
          · rw [if_pos c42] at H
            have c42b0 : (t329 == 0) = true := beq_iff_eq.mpr c42
            have c42b1 : (t329 != 0) = false := bne_eq_false_iff_eq.mpr c42
            clear c42
            obtain rfl := Option.some.inj H
            have hnb43 := NB300_299.out
            have hnc43 := NB299_300.out
            have hcz44_0 : wc.cell? ⟨gb300, 0, none⟩ = some (.int .i64 a1_0) := (blk_cell BK300.out 0).trans rfl
            have hcz44_1 : wc.cell? ⟨gb300, 1, none⟩ = some (.int .i64 a1_1) := (blk_cell BK300.out 1).trans rfl
            have hcz44_2 : wc.cell? ⟨gb300, 2, none⟩ = some (.int .i64 a1_2) := (blk_cell BK300.out 2).trans rfl
            have hcz44_3 : wc.cell? ⟨gb300, 3, none⟩ = some (.int .i64 a1_3) := (blk_cell BK300.out 3).trans rfl
            have hcz44_4 : wc.cell? ⟨gb300, 4, none⟩ = some (.string a1_4) := (blk_cell BK300.out 4).trans rfl
            have hcz44_5 : wc.cell? ⟨gb300, 5, none⟩ = some (.bool a1_5) := (blk_cell BK300.out 5).trans rfl
            have hcz44_6 : wc.cell? ⟨gb300, 6, none⟩ = some (.slice A1_6 l1_6.length c1_6) := (blk_cell BK300.out 6).trans rfl
            have hcz44_7 : wc.cell? ⟨gb300, 7, none⟩ = some (.bool a1_7) := (blk_cell BK300.out 7).trans rfl
            have hfz44_0 := blk_frozen BK300.out 0
            have hfz44_1 := blk_frozen BK300.out 1
            have hfz44_2 := blk_frozen BK300.out 2
            have hfz44_3 := blk_frozen BK300.out 3
            have hfz44_4 := blk_frozen BK300.out 4
            have hfz44_5 := blk_frozen BK300.out 5
            have hfz44_6 := blk_frozen BK300.out 6
            have hfz44_7 := blk_frozen BK300.out 7
            go_wp2_with (first | ((with_reducible refine gate_callee (f := 15) rfl ?_); refine goesL_ (some 36) rfl rfl Tryd.func15 (by kernel_rfl) rfl #[.agg #[.int .i64 a1_0, .int .i64 a1_1, .int .i64 a1_2, .int .i64 a1_3, .string a1_4, .bool a1_5, .slice A1_6 l1_6.length c1_6, .bool a1_7]] rfl (by (try simp only [List.map_toArray, List.map_cons, List.map_nil]); first | done | rfl | (simp only [List.length_drop, List.length_take]; rfl)) ?_; (with_reducible refine (wire_Reply.calls kj4 a1_0 a1_1 a1_2 a1_3 a1_4 a1_5 _ _ l1_6 a1_7 t317 t318 _ ?side1 ?side2 A37.out).mono ?_); (case side1 => repeat (first | exact (Kd.C_below HR1_6.out HB.out) | (with_reducible refine Kd.C_alloc ?_ _) | (with_reducible refine Kd.C_drewN ?_ _) | (with_reducible refine Kd.C_drew ?_))); (case side2 => exact HC1_6.out); rintro e w45 ⟨rfl, hb⟩; refine ⟨_, rfl, ?_⟩; have n0_ := Aside0.mk (blk_below (g := gb299) (o := .cells #[.int .i64 a0_0, .int .i64 a0_1, .int .i64 a0_2, .int .i64 a0_3, .string a0_4, .int .i64 a0_5, .string a0_6, .string a0_7, .string a0_8, .string a0_9, .int .i64 a0_10] 25 (0, 0)) (by (with_reducible repeat (first | refine blk_drewN ?_ _ | refine blk_drew ?_ | refine blk_alloc ?_ _)); exact BK299.out) hb); have n1_ := Aside0.mk (blk_below (g := gb300) (o := .cells #[.int .i64 a1_0, .int .i64 a1_1, .int .i64 a1_2, .int .i64 a1_3, .string a1_4, .bool a1_5, .slice A1_6 l1_6.length c1_6, .bool a1_7] 41 (0, 0)) (by (with_reducible repeat (first | refine blk_drewN ?_ _ | refine blk_drew ?_ | refine blk_alloc ?_ _)); exact BK300.out) hb); have n2_ := Aside0.mk (below_step (by repeat (first | (with_reducible first | exact HB.out | apply below_alloc | apply pw_below_drewN | apply below_drew1 | refine below_set ?_ GE299.out | refine below_set ?_ GE300.out) | exact HB.out)) hb); clear BK299; clear BK300; clear HB; have BK299 := n0_; have BK300 := n1_; have HB := n2_; clear n0_ n1_ n2_; (try clear hb); (try clear hb2); (try clear hk); (try clear hi)) | ((with_reducible refine gate_callee (f := 17) rfl ?_); refine goesL_ (some 43) rfl rfl Tryd.func17 (by kernel_rfl) rfl #[.string t317] rfl (by (try simp only [List.map_toArray, List.map_cons, List.map_nil]); first | done | rfl | (simp only [List.length_drop, List.length_take]; rfl)) ?_; (with_reducible refine (wire_TakeReply.calls t317 t319 t320 t321 t322 t323 t324 t325 t328 t329 _ A39.out (handle_at HGL.out (by repeat (first | (with_reducible first | exact HB.out | apply below_alloc | apply pw_below_drewN | apply below_drew1 | refine below_set ?_ GE299.out | refine below_set ?_ GE300.out) | exact HB.out)))).mono ?_); rintro e w46 ⟨v326, rfl, ho0, hb⟩; refine ⟨_, rfl, ?_⟩; have n0_ := Aside0.mk (Kd.R_lower ho0 (below_size (by repeat (first | (with_reducible first | exact HB.out | apply below_alloc | apply pw_below_drewN | apply below_drew1 | refine below_set ?_ GE299.out | refine below_set ?_ GE300.out) | exact HB.out)))); have n1_ := Aside0.mk (blk_below (g := gb299) (o := .cells #[.int .i64 a0_0, .int .i64 a0_1, .int .i64 a0_2, .int .i64 a0_3, .string a0_4, .int .i64 a0_5, .string a0_6, .string a0_7, .string a0_8, .string a0_9, .int .i64 a0_10] 25 (0, 0)) (by (with_reducible repeat (first | refine blk_drewN ?_ _ | refine blk_drew ?_ | refine blk_alloc ?_ _)); exact BK299.out) hb); have n2_ := Aside0.mk (blk_below (g := gb300) (o := .cells #[.int .i64 a1_0, .int .i64 a1_1, .int .i64 a1_2, .int .i64 a1_3, .string a1_4, .bool a1_5, .slice A1_6 l1_6.length c1_6, .bool a1_7] 41 (0, 0)) (by (with_reducible repeat (first | refine blk_drewN ?_ _ | refine blk_drew ?_ | refine blk_alloc ?_ _)); exact BK300.out) hb); have n3_ := Aside0.mk (below_step (by repeat (first | (with_reducible first | exact HB.out | apply below_alloc | apply pw_below_drewN | apply below_drew1 | refine below_set ?_ GE299.out | refine below_set ?_ GE300.out) | exact HB.out)) hb); clear BK299; clear BK300; clear HB; have HO327 := n0_; have BK299 := n1_; have BK300 := n2_; have HB := n3_; clear n0_ n1_ n2_ n3_; (try clear hb); (try clear hb2); (try clear hk); (try clear hi); (try clear ho0)) | ((with_reducible refine gate_dst (N := 12) rfl ?_); refine box_event ?hg (N := 12) ?hd (cs := #[.int .i64 0, .int .i64 0, .int .i64 0, .int .i64 0, .string (⟨#[]⟩ : ByteArray), .bool false, .slice none 0 0, .bool false]) (t := 41) ?hr ?_; (case hd => rfl); (case hg => rfl); (case hr => first | (go_simp; done) | (go_simp; rfl)); intro gb330 hg w47 hbox hb; have n0_ := Aside0.mk (Kd.R_below (by (with_reducible repeat (first | apply Kd.R_alloc | apply Kd.R_drewN | apply Kd.R_drew)); exact HO327.out) hb); have n1_ := Aside0.mk (blk_below (g := gb299) (o := .cells #[.int .i64 a0_0, .int .i64 a0_1, .int .i64 a0_2, .int .i64 a0_3, .string a0_4, .int .i64 a0_5, .string a0_6, .string a0_7, .string a0_8, .string a0_9, .int .i64 a0_10] 25 (0, 0)) (by (with_reducible repeat (first | refine blk_drewN ?_ _ | refine blk_drew ?_ | refine blk_alloc ?_ _)); exact BK299.out) hb); have n2_ := Aside0.mk (blk_below (g := gb300) (o := .cells #[.int .i64 a1_0, .int .i64 a1_1, .int .i64 a1_2, .int .i64 a1_3, .string a1_4, .bool a1_5, .slice A1_6 l1_6.length c1_6, .bool a1_7] 41 (0, 0)) (by (with_reducible repeat (first | refine blk_drewN ?_ _ | refine blk_drew ?_ | refine blk_alloc ?_ _)); exact BK300.out) hb); have n3_ := Aside0.mk (below_step (by repeat (first | (with_reducible first | exact HB.out | apply below_alloc | apply pw_below_drewN | apply below_drew1 | refine below_set ?_ GE299.out | refine below_set ?_ GE300.out) | exact HB.out)) hb); have n4_ := Aside0.mk (hbox); have n5_ := Aside0.mk ((by rw [hg]; exact (below_size (by repeat (first | (with_reducible first | exact HB.out | apply below_alloc | apply pw_below_drewN | apply below_drew1 | refine below_set ?_ GE299.out | refine below_set ?_ GE300.out) | exact HB.out))) : w.heap.size ≤ gb330)); have n6_ := Aside0.mk ((by rw [hg]; exact (below_size (by repeat (first | (with_reducible first | exact HB.out | apply below_alloc | apply pw_below_drewN | apply below_drew1 | refine below_set ?_ GE299.out | refine below_set ?_ GE300.out) | exact HB.out))) : w.heap.size ≤ gb330)); have n7_ := Aside0.mk ((by rw [hg]; exact Nat.ne_of_lt (blk_lt (g := gb299) (o := .cells #[.int .i64 a0_0, .int .i64 a0_1, .int .i64 a0_2, .int .i64 a0_3, .string a0_4, .int .i64 a0_5, .string a0_6, .string a0_7, .string a0_8, .string a0_9, .int .i64 a0_10] 25 (0, 0)) (by (with_reducible repeat (first | refine blk_drewN ?_ _ | refine blk_drew ?_ | refine blk_alloc ?_ _)); exact BK299.out)) : gb299 ≠ gb330)); have n8_ := Aside0.mk ((by rw [hg]; exact Nat.ne_of_gt (blk_lt (g := gb299) (o := .cells #[.int .i64 a0_0, .int .i64 a0_1, .int .i64 a0_2, .int .i64 a0_3, .string a0_4, .int .i64 a0_5, .string a0_6, .string a0_7, .string a0_8, .string a0_9, .int .i64 a0_10] 25 (0, 0)) (by (with_reducible repeat (first | refine blk_drewN ?_ _ | refine blk_drew ?_ | refine blk_alloc ?_ _)); exact BK299.out)) : gb330 ≠ gb299)); have n9_ := Aside0.mk ((by rw [hg]; exact Nat.ne_of_lt (blk_lt (g := gb300) (o := .cells #[.int .i64 a1_0, .int .i64 a1_1, .int .i64 a1_2, .int .i64 a1_3, .string a1_4, .bool a1_5, .slice A1_6 l1_6.length c1_6, .bool a1_7] 41 (0, 0)) (by (with_reducible repeat (first | refine blk_drewN ?_ _ | refine blk_drew ?_ | refine blk_alloc ?_ _)); exact BK300.out)) : gb300 ≠ gb330)); have n10_ := Aside0.mk ((by rw [hg]; exact Nat.ne_of_gt (blk_lt (g := gb300) (o := .cells #[.int .i64 a1_0, .int .i64 a1_1, .int .i64 a1_2, .int .i64 a1_3, .string a1_4, .bool a1_5, .slice A1_6 l1_6.length c1_6, .bool a1_7] 41 (0, 0)) (by (with_reducible repeat (first | refine blk_drewN ?_ _ | refine blk_drew ?_ | refine blk_alloc ?_ _)); exact BK300.out)) : gb330 ≠ gb300)); clear HO327; clear BK299; clear BK300; clear HB; have HO327 := n0_; have BK299 := n1_; have BK300 := n2_; have HB := n3_; have BK330 := n4_; have GW330 := n5_; have GE330 := n6_; have NB299_330 := n7_; have NB330_299 := n8_; have NB300_330 := n9_; have NB330_300 := n10_; clear n0_ n1_ n2_ n3_ n4_ n5_ n6_ n7_ n8_ n9_ n10_; clear hb hbox hg; have hnb48 := NB330_299.out; have hnc48 := NB299_330.out; have hnb49 := NB330_300.out; have hnc49 := NB300_330.out; have hcz50_0 : w47.cell? ⟨gb330, 0, none⟩ = some (.int .i64 0) := (blk_cell BK330.out 0).trans rfl; have hcz50_1 : w47.cell? ⟨gb330, 1, none⟩ = some (.int .i64 0) := (blk_cell BK330.out 1).trans rfl; have hcz50_2 : w47.cell? ⟨gb330, 2, none⟩ = some (.int .i64 0) := (blk_cell BK330.out 2).trans rfl; have hcz50_3 : w47.cell? ⟨gb330, 3, none⟩ = some (.int .i64 0) := (blk_cell BK330.out 3).trans rfl; have hcz50_4 : w47.cell? ⟨gb330, 4, none⟩ = some (.string (⟨#[]⟩ : ByteArray)) := (blk_cell BK330.out 4).trans rfl; have hcz50_5 : w47.cell? ⟨gb330, 5, none⟩ = some (.bool false) := (blk_cell BK330.out 5).trans rfl; have hcz50_6 : w47.cell? ⟨gb330, 6, none⟩ = some (.slice none 0 0) := (blk_cell BK330.out 6).trans rfl; have hcz50_7 : w47.cell? ⟨gb330, 7, none⟩ = some (.bool false) := (blk_cell BK330.out 7).trans rfl; have hfz50_0 := blk_frozen BK330.out 0; have hfz50_1 := blk_frozen BK330.out 1; have hfz50_2 := blk_frozen BK330.out 2; have hfz50_3 := blk_frozen BK330.out 3; have hfz50_4 := blk_frozen BK330.out 4; have hfz50_5 := blk_frozen BK330.out 5; have hfz50_6 := blk_frozen BK330.out 6; have hfz50_7 := blk_frozen BK330.out 7; obtain ⟨Ao51, co51, eo51⟩ := Kd.R_slice HO327.out; subst eo51; have hcz52_0 : w47.cell? ⟨gb300, 0, none⟩ = some (.int .i64 a1_0) := (blk_cell BK300.out 0).trans rfl; have hcz52_1 : w47.cell? ⟨gb300, 1, none⟩ = some (.int .i64 a1_1) := (blk_cell BK300.out 1).trans rfl; have hcz52_2 : w47.cell? ⟨gb300, 2, none⟩ = some (.int .i64 a1_2) := (blk_cell BK300.out 2).trans rfl; have hcz52_3 : w47.cell? ⟨gb300, 3, none⟩ = some (.int .i64 a1_3) := (blk_cell BK300.out 3).trans rfl; have hcz52_4 : w47.cell? ⟨gb300, 4, none⟩ = some (.string a1_4) := (blk_cell BK300.out 4).trans rfl; have hcz52_5 : w47.cell? ⟨gb300, 5, none⟩ = some (.bool a1_5) := (blk_cell BK300.out 5).trans rfl; have hcz52_6 : w47.cell? ⟨gb300, 6, none⟩ = some (.slice A1_6 l1_6.length c1_6) := (blk_cell BK300.out 6).trans rfl; have hcz52_7 : w47.cell? ⟨gb300, 7, none⟩ = some (.bool a1_7) := (blk_cell BK300.out 7).trans rfl; have hfz52_0 := blk_frozen BK300.out 0; have hfz52_1 := blk_frozen BK300.out 1; have hfz52_2 := blk_frozen BK300.out 2; have hfz52_3 := blk_frozen BK300.out 3; have hfz52_4 := blk_frozen BK300.out 4; have hfz52_5 := blk_frozen BK300.out 5; have hfz52_6 := blk_frozen BK300.out 6; have hfz52_7 := blk_frozen BK300.out 7) | ((with_reducible refine gate_callee (f := 20) rfl ?_); refine goesL_ (some 48) rfl rfl Tryd.func20 (by kernel_rfl) rfl #[.agg #[.int .i64 a1_0, .int .i64 a1_1, .int .i64 a1_2, .int .i64 a1_3, .string a1_4, .bool a1_5, .slice A1_6 l1_6.length c1_6, .bool a1_7], .agg #[.int .i64 t319, .int .i64 t320, .int .i64 t321, .int .i64 t322, .string t323, .bool t324, .slice Ao51 t325.length co51, .bool t328]] rfl (by (try simp only [List.map_toArray, List.map_cons, List.map_nil]); first | done | rfl | (simp only [List.length_drop, List.length_take]; rfl)) ?_; (with_reducible refine (wire_Same.calls kj4 a1_0 a1_1 a1_2 a1_3 a1_4 a1_5 _ _ l1_6 a1_7 t319 t320 t321 t322 t323 t324 _ _ t325 t328 true _ ?side1 ?side2 ?side3 ?side4 A40.out).mono ?_); (case side1 => exact Kd.C_below HR1_6.out (by repeat (first | (with_reducible first | exact HB.out | apply below_alloc | apply pw_below_drewN | apply below_drew1 | refine below_set ?_ GE299.out | refine below_set ?_ GE300.out | refine below_set ?_ GE330.out) | exact HB.out))); (case side2 => exact HC1_6.out); (case side3 => refine (Kd.R_reads' (e := 74) (base := w.heap.size) (ok := fun k_ => True) (n := t325.length) (c := co51) ?_).2.2; exact (by (with_reducible repeat (first | apply Kd.R_alloc | apply Kd.R_drewN | apply Kd.R_drew)); exact (Kd.R_mono (Kd.R_far (p := ⟨gb330, 7, none⟩) (Kd.R_far (p := ⟨gb330, 6, none⟩) (Kd.R_far (p := ⟨gb330, 5, none⟩) (Kd.R_far (p := ⟨gb330, 4, none⟩) (Kd.R_far (p := ⟨gb330, 3, none⟩) (Kd.R_far (p := ⟨gb330, 2, none⟩) (Kd.R_far (p := ⟨gb330, 1, none⟩) (Kd.R_far (p := ⟨gb330, 0, none⟩) (Kd.R_types HO327.out BK330.out (by decide)) (fun _ hk => hk.2) (.int .i64 t319)) (fun _ hk => hk.2) (.int .i64 t320)) (fun _ hk => hk.2) (.int .i64 t321)) (fun _ hk => hk.2) (.int .i64 t322)) (fun _ hk => hk.2) (.string t323)) (fun _ hk => hk.2) (.bool t324)) (fun _ hk => hk.2) (.slice Ao51 t325.length co51)) (fun _ hk => hk.2) (.bool t328)) (fun _ h_ => h_.1)))); (case side4 => exact (Kd.R_reads' HO327.out).2.1); rintro e w53 ⟨rfl, hb⟩; refine ⟨_, rfl, ?_⟩; have n0_ := Aside0.mk (Kd.R_below (by (with_reducible repeat (first | apply Kd.R_alloc | apply Kd.R_drewN | apply Kd.R_drew)); exact (Kd.R_mono (Kd.R_far (p := ⟨gb330, 7, none⟩) (Kd.R_far (p := ⟨gb330, 6, none⟩) (Kd.R_far (p := ⟨gb330, 5, none⟩) (Kd.R_far (p := ⟨gb330, 4, none⟩) (Kd.R_far (p := ⟨gb330, 3, none⟩) (Kd.R_far (p := ⟨gb330, 2, none⟩) (Kd.R_far (p := ⟨gb330, 1, none⟩) (Kd.R_far (p := ⟨gb330, 0, none⟩) (Kd.R_types HO327.out BK330.out (by decide)) (fun _ hk => hk.2) (.int .i64 t319)) (fun _ hk => hk.2) (.int .i64 t320)) (fun _ hk => hk.2) (.int .i64 t321)) (fun _ hk => hk.2) (.int .i64 t322)) (fun _ hk => hk.2) (.string t323)) (fun _ hk => hk.2) (.bool t324)) (fun _ hk => hk.2) (.slice Ao51 t325.length co51)) (fun _ hk => hk.2) (.bool t328)) (fun _ h_ => h_.1))) hb); have n1_ := Aside0.mk (blk_below (g := gb299) (o := .cells #[.int .i64 a0_0, .int .i64 a0_1, .int .i64 a0_2, .int .i64 a0_3, .string a0_4, .int .i64 a0_5, .string a0_6, .string a0_7, .string a0_8, .string a0_9, .int .i64 a0_10] 25 (0, 0)) (by (with_reducible repeat (first | refine blk_drewN ?_ _ | refine blk_drew ?_ | refine blk_alloc ?_ _)); refine blk_far ?_ NB299_330.out _; (with_reducible repeat (first | refine blk_drewN ?_ _ | refine blk_drew ?_ | refine blk_alloc ?_ _)); refine blk_far ?_ NB299_330.out _; (with_reducible repeat (first | refine blk_drewN ?_ _ | refine blk_drew ?_ | refine blk_alloc ?_ _)); refine blk_far ?_ NB299_330.out _; (with_reducible repeat (first | refine blk_drewN ?_ _ | refine blk_drew ?_ | refine blk_alloc ?_ _)); refine blk_far ?_ NB299_330.out _; (with_reducible repeat (first | refine blk_drewN ?_ _ | refine blk_drew ?_ | refine blk_alloc ?_ _)); refine blk_far ?_ NB299_330.out _; (with_reducible repeat (first | refine blk_drewN ?_ _ | refine blk_drew ?_ | refine blk_alloc ?_ _)); refine blk_far ?_ NB299_330.out _; (with_reducible repeat (first | refine blk_drewN ?_ _ | refine blk_drew ?_ | refine blk_alloc ?_ _)); refine blk_far ?_ NB299_330.out _; (with_reducible repeat (first | refine blk_drewN ?_ _ | refine blk_drew ?_ | refine blk_alloc ?_ _)); refine blk_far ?_ NB299_330.out _; (with_reducible repeat (first | refine blk_drewN ?_ _ | refine blk_drew ?_ | refine blk_alloc ?_ _)); exact BK299.out) hb); have n2_ := Aside0.mk (blk_below (g := gb300) (o := .cells #[.int .i64 a1_0, .int .i64 a1_1, .int .i64 a1_2, .int .i64 a1_3, .string a1_4, .bool a1_5, .slice A1_6 l1_6.length c1_6, .bool a1_7] 41 (0, 0)) (by (with_reducible repeat (first | refine blk_drewN ?_ _ | refine blk_drew ?_ | refine blk_alloc ?_ _)); refine blk_far ?_ NB300_330.out _; (with_reducible repeat (first | refine blk_drewN ?_ _ | refine blk_drew ?_ | refine blk_alloc ?_ _)); refine blk_far ?_ NB300_330.out _; (with_reducible repeat (first | refine blk_drewN ?_ _ | refine blk_drew ?_ | refine blk_alloc ?_ _)); refine blk_far ?_ NB300_330.out _; (with_reducible repeat (first | refine blk_drewN ?_ _ | refine blk_drew ?_ | refine blk_alloc ?_ _)); refine blk_far ?_ NB300_330.out _; (with_reducible repeat (first | refine blk_drewN ?_ _ | refine blk_drew ?_ | refine blk_alloc ?_ _)); refine blk_far ?_ NB300_330.out _; (with_reducible repeat (first | refine blk_drewN ?_ _ | refine blk_drew ?_ | refine blk_alloc ?_ _)); refine blk_far ?_ NB300_330.out _; (with_reducible repeat (first | refine blk_drewN ?_ _ | refine blk_drew ?_ | refine blk_alloc ?_ _)); refine blk_far ?_ NB300_330.out _; (with_reducible repeat (first | refine blk_drewN ?_ _ | refine blk_drew ?_ | refine blk_alloc ?_ _)); refine blk_far ?_ NB300_330.out _; (with_reducible repeat (first | refine blk_drewN ?_ _ | refine blk_drew ?_ | refine blk_alloc ?_ _)); exact BK300.out) hb); have n3_ := Aside0.mk (blk_below (g := gb330) (o := .cells #[.int .i64 t319, .int .i64 t320, .int .i64 t321, .int .i64 t322, .string t323, .bool t324, .slice Ao51 t325.length co51, .bool t328] 41 (0, 0)) (by (with_reducible repeat (first | refine blk_drewN ?_ _ | refine blk_drew ?_ | refine blk_alloc ?_ _)); refine blk_put (cs := #[.int .i64 t319, .int .i64 t320, .int .i64 t321, .int .i64 t322, .string t323, .bool t324, .slice Ao51 t325.length co51, .bool false]) ?_ 7 _ rfl; (with_reducible repeat (first | refine blk_drewN ?_ _ | refine blk_drew ?_ | refine blk_alloc ?_ _)); refine blk_put (cs := #[.int .i64 t319, .int .i64 t320, .int .i64 t321, .int .i64 t322, .string t323, .bool t324, .slice none 0 0, .bool false]) ?_ 6 _ rfl; (with_reducible repeat (first | refine blk_drewN ?_ _ | refine blk_drew ?_ | refine blk_alloc ?_ _)); refine blk_put (cs := #[.int .i64 t319, .int .i64 t320, .int .i64 t321, .int .i64 t322, .string t323, .bool false, .slice none 0 0, .bool false]) ?_ 5 _ rfl; (with_reducible repeat (first | refine blk_drewN ?_ _ | refine blk_drew ?_ | refine blk_alloc ?_ _)); refine blk_put (cs := #[.int .i64 t319, .int .i64 t320, .int .i64 t321, .int .i64 t322, .string (⟨#[]⟩ : ByteArray), .bool false, .slice none 0 0, .bool false]) ?_ 4 _ rfl; (with_reducible repeat (first | refine blk_drewN ?_ _ | refine blk_drew ?_ | refine blk_alloc ?_ _)); refine blk_put (cs := #[.int .i64 t319, .int .i64 t320, .int .i64 t321, .int .i64 0, .string (⟨#[]⟩ : ByteArray), .bool false, .slice none 0 0, .bool false]) ?_ 3 _ rfl; (with_reducible repeat (first | refine blk_drewN ?_ _ | refine blk_drew ?_ | refine blk_alloc ?_ _)); refine blk_put (cs := #[.int .i64 t319, .int .i64 t320, .int .i64 0, .int .i64 0, .string (⟨#[]⟩ : ByteArray), .bool false, .slice none 0 0, .bool false]) ?_ 2 _ rfl; (with_reducible repeat (first | refine blk_drewN ?_ _ | refine blk_drew ?_ | refine blk_alloc ?_ _)); refine blk_put (cs := #[.int .i64 t319, .int .i64 0, .int .i64 0, .int .i64 0, .string (⟨#[]⟩ : ByteArray), .bool false, .slice none 0 0, .bool false]) ?_ 1 _ rfl; (with_reducible repeat (first | refine blk_drewN ?_ _ | refine blk_drew ?_ | refine blk_alloc ?_ _)); refine blk_put (cs := #[.int .i64 0, .int .i64 0, .int .i64 0, .int .i64 0, .string (⟨#[]⟩ : ByteArray), .bool false, .slice none 0 0, .bool false]) ?_ 0 _ rfl; (with_reducible repeat (first | refine blk_drewN ?_ _ | refine blk_drew ?_ | refine blk_alloc ?_ _)); exact BK330.out) hb); have n4_ := Aside0.mk (below_step (by repeat (first | (with_reducible first | exact HB.out | apply below_alloc | apply pw_below_drewN | apply below_drew1 | refine below_set ?_ GE299.out | refine below_set ?_ GE300.out | refine below_set ?_ GE330.out) | exact HB.out)) hb); clear HO327; clear BK299; clear BK300; clear BK330; clear HB; have HO327 := n0_; have BK299 := n1_; have BK300 := n2_; have BK330 := n3_; have HB := n4_; clear n0_ n1_ n2_ n3_ n4_; (try clear hb); (try clear hb2); (try clear hk); (try clear hi)))
            go_ret
            exact ⟨by first | rfl | (simp [errW_none, errW_some] <;> rfl) | (simp [*, errW_none, errW_some] <;> rfl), by repeat (first | (with_reducible first | exact HB.out | apply below_alloc | apply pw_below_drewN | apply below_drew1 | refine below_set ?_ GE299.out | refine below_set ?_ GE300.out | refine below_set ?_ GE330.out) | exact HB.out)⟩
          · rw [if_neg c42] at H
            have c42b0 : (t329 == 0) = false := beq_eq_false_iff_ne.mpr c42
            have c42b1 : (t329 != 0) = true := bne_iff_ne.mpr c42
            obtain rfl := Option.some.inj H
            cases hr.out
        · replace c41 := Bool.eq_false_iff.mpr c41
          subst c41
          have H1 : (some false) = some r := by rw [if_neg (show ¬ (false = true) by decide)] at H; exact H
          clear H
          have H := H1
          clear H1
          obtain rfl := Option.some.inj H
          cases hr.out
      · rw [if_neg c38] at H
        have c38b0 : (t318 == 0) = false := beq_eq_false_iff_ne.mpr c38
        have c38b1 : (t318 != 0) = true := bne_iff_ne.mpr c38
        obtain rfl := Option.some.inj H
        have hnb76 := NB300_299.out
        have hnc76 := NB299_300.out
        have hcz77_0 : wc.cell? ⟨gb300, 0, none⟩ = some (.int .i64 a1_0) := (blk_cell BK300.out 0).trans rfl
        have hcz77_1 : wc.cell? ⟨gb300, 1, none⟩ = some (.int .i64 a1_1) := (blk_cell BK300.out 1).trans rfl
        have hcz77_2 : wc.cell? ⟨gb300, 2, none⟩ = some (.int .i64 a1_2) := (blk_cell BK300.out 2).trans rfl
        have hcz77_3 : wc.cell? ⟨gb300, 3, none⟩ = some (.int .i64 a1_3) := (blk_cell BK300.out 3).trans rfl
        have hcz77_4 : wc.cell? ⟨gb300, 4, none⟩ = some (.string a1_4) := (blk_cell BK300.out 4).trans rfl
        have hcz77_5 : wc.cell? ⟨gb300, 5, none⟩ = some (.bool a1_5) := (blk_cell BK300.out 5).trans rfl
        have hcz77_6 : wc.cell? ⟨gb300, 6, none⟩ = some (.slice A1_6 l1_6.length c1_6) := (blk_cell BK300.out 6).trans rfl
        have hcz77_7 : wc.cell? ⟨gb300, 7, none⟩ = some (.bool a1_7) := (blk_cell BK300.out 7).trans rfl
        have hfz77_0 := blk_frozen BK300.out 0
        have hfz77_1 := blk_frozen BK300.out 1
        have hfz77_2 := blk_frozen BK300.out 2
        have hfz77_3 := blk_frozen BK300.out 3
        have hfz77_4 := blk_frozen BK300.out 4
        have hfz77_5 := blk_frozen BK300.out 5
        have hfz77_6 := blk_frozen BK300.out 6
        have hfz77_7 := blk_frozen BK300.out 7
        go_wp2_with (first | ((with_reducible refine gate_callee (f := 15) rfl ?_); refine goesL_ (some 36) rfl rfl Tryd.func15 (by kernel_rfl) rfl #[.agg #[.int .i64 a1_0, .int .i64 a1_1, .int .i64 a1_2, .int .i64 a1_3, .string a1_4, .bool a1_5, .slice A1_6 l1_6.length c1_6, .bool a1_7]] rfl (by (try simp only [List.map_toArray, List.map_cons, List.map_nil]); first | done | rfl | (simp only [List.length_drop, List.length_take]; rfl)) ?_; (with_reducible refine (wire_Reply.calls kj4 a1_0 a1_1 a1_2 a1_3 a1_4 a1_5 _ _ l1_6 a1_7 t317 t318 _ ?side1 ?side2 A37.out).mono ?_); (case side1 => repeat (first | exact (Kd.C_below HR1_6.out HB.out) | (with_reducible refine Kd.C_alloc ?_ _) | (with_reducible refine Kd.C_drewN ?_ _) | (with_reducible refine Kd.C_drew ?_))); (case side2 => exact HC1_6.out); rintro e w78 ⟨rfl, hb⟩; refine ⟨_, rfl, ?_⟩; have n0_ := Aside0.mk (blk_below (g := gb299) (o := .cells #[.int .i64 a0_0, .int .i64 a0_1, .int .i64 a0_2, .int .i64 a0_3, .string a0_4, .int .i64 a0_5, .string a0_6, .string a0_7, .string a0_8, .string a0_9, .int .i64 a0_10] 25 (0, 0)) (by (with_reducible repeat (first | refine blk_drewN ?_ _ | refine blk_drew ?_ | refine blk_alloc ?_ _)); exact BK299.out) hb); have n1_ := Aside0.mk (blk_below (g := gb300) (o := .cells #[.int .i64 a1_0, .int .i64 a1_1, .int .i64 a1_2, .int .i64 a1_3, .string a1_4, .bool a1_5, .slice A1_6 l1_6.length c1_6, .bool a1_7] 41 (0, 0)) (by (with_reducible repeat (first | refine blk_drewN ?_ _ | refine blk_drew ?_ | refine blk_alloc ?_ _)); exact BK300.out) hb); have n2_ := Aside0.mk (below_step (by repeat (first | (with_reducible first | exact HB.out | apply below_alloc | apply pw_below_drewN | apply below_drew1 | refine below_set ?_ GE299.out | refine below_set ?_ GE300.out) | exact HB.out)) hb); clear BK299; clear BK300; clear HB; have BK299 := n0_; have BK300 := n1_; have HB := n2_; clear n0_ n1_ n2_; (try clear hb); (try clear hb2); (try clear hk); (try clear hi)))
        go_ret
        exact ⟨by first | rfl | (simp [errW_none, errW_some] <;> rfl) | (simp [*, errW_none, errW_some] <;> rfl), by repeat (first | (with_reducible first | exact HB.out | apply below_alloc | apply pw_below_drewN | apply below_drew1 | refine below_set ?_ GE299.out | refine below_set ?_ GE300.out) | exact HB.out)⟩

end Go.Proofs.YtlpcidjmaeicoaaDoor.QWi

/-! OpenRow -/
/- A row of texts (or of numbers) among the arguments, opened for the printed contracts; what the bound on the bulk says of it. -/
namespace Go.Proofs.YtlpcidjmaeicoaaDoor.OpenRow
open Go Go.ChangeShapes Go.WideShapes Go.RowKit Go.Proofs.YtlpcidjmaeicoaaDoorW.PrintWords

/-- How many letters and texts a row holds. -/
def rowBulk : List ByteArray → Nat
  | [] => 0
  | t :: l => t.size + 1 + rowBulk l
theorem one_le {H : Type} (d : DataW H) : 1 ≤ Rows.uptoBulk d := by
  cases d with
  | lit l => cases l <;> simp [Rows.uptoBulk]
  | nil => simp [Rows.uptoBulk]
  | ptr d => simp [Rows.uptoBulk]
  | slice elems spare => simp [Rows.uptoBulk]
  | agg parts => simp [Rows.uptoBulk]
  | iface t d => simp [Rows.uptoBulk]
  | map entries => simp [Rows.uptoBulk]
  | held h => simp [Rows.uptoBulk]
theorem length_le {H : Type} (l : List (DataW H)) : l.length ≤ Rows.uptoBulkAll l := by
  induction l with
  | nil => simp [Rows.uptoBulkAll]
  | cons x r ih =>
    have := one_le x
    simp only [Rows.uptoBulkAll, List.length_cons]
    omega
section
variable {H : Type} {enc : TypeId × Value → H} {P : Program} {W : World} {t e : TypeId} {fuel : Nat} {A0 : Option Addr} {n0 c0 : Nat} {x : DataW H × List MemPlace}
theorem slice_value {cs : List Value} (ht : P.underlying t = some (.slice e)) (h : DataW.trod enc P W 0 (fun _ => true) true fuel t cs = some x) : ∃ A n c, cs = [.slice A n c] := by
  rcases DataW.trod_slice ht h with ⟨h0, _⟩ | ⟨a, len, cap, _, _, _, _, h0, _⟩
  · exact ⟨_, _, _, h0⟩
  · exact ⟨_, _, _, h0⟩
theorem slice_value1 {v : Value} (ht : P.underlying t = some (.slice e)) (h : DataW.trod enc P W 0 (fun _ => true) true fuel t [v] = some x) : ∃ A n c, v = .slice A n c := by
  obtain ⟨A, n, c, h⟩ := slice_value ht h
  exact ⟨A, n, c, by simpa using h⟩
end
theorem agg_bulk {H : Type} {d : DataW H} {p : List MemPlace} {xs : List (DataW H × List MemPlace)} (h : (d, p) = (.agg (xs.map (·.1)), xs.flatMap (·.2))) : Rows.uptoBulk d = Rows.uptoBulkAll (xs.map (·.1)) + 1 := by
  obtain rfl := (Prod.mk.inj h).1
  simp only [Rows.uptoBulk]
theorem agg_bulk1 {H : Type} {y : DataW H × List MemPlace} {xs : List (DataW H × List MemPlace)} (h : y = (.agg (xs.map (·.1)), xs.flatMap (·.2))) : Rows.uptoBulk y.1 = Rows.uptoBulkAll (xs.map (·.1)) + 1 := by
  subst h
  simp only [Rows.uptoBulk]
theorem str_bulk0 {H : Type} (s : ByteArray) : Rows.uptoBulk (DataW.lit (H := H) (.string s.data.toList)) = s.size + 1 := by
  simp only [Rows.uptoBulk]
  rw [Array.length_toList]
  rfl
theorem str_bulk {H : Type} {y : DataW H × List MemPlace} {s : ByteArray} (h : y = (.lit (.string s.data.toList), [])) : Rows.uptoBulk y.1 = s.size + 1 := by
  subst h
  exact str_bulk0 s
end Go.Proofs.YtlpcidjmaeicoaaDoor.OpenRow

/-! OpenPairs -/
/- A row of pairs among the arguments, opened for the printed contracts. -/
namespace Go.Proofs.YtlpcidjmaeicoaaDoor.OpenPairs
open Go Go.ChangeShapes Go.WideShapes Go.RowKit Go.Proofs.YtlpcidjmaeicoaaDoorW.PrintWords Go.Proofs.YtlpcidjmaeicoaaDoor.QWi

theorem cellsPair : Tryd.prog.cellsOf 74 = 2 := by kernel_rfl
theorem cellsStr : Tryd.prog.cellsOf 9 = 1 := by kernel_rfl
theorem open_pairs {H : Type} {enc : TypeId × Value → H} {W : World} {fuel : Nat} {A0 : Option Addr} {n0 c0 : Nat} {x : DataW H × List MemPlace}
    (h : DataW.trod enc Tryd.prog W 0 (fun _ => true) true fuel 39 [.slice A0 n0 c0] = some x) :
    ∃ l : List S74, n0 = l.length ∧ Kd.C k74 W A0 l.length l ∧ l.length ≤ c0 ∧ l.length + 1 ≤ Rows.uptoBulk x.1 ∧ (l.length ≤ 9223372036854775807 ∧ ∀ x ∈ l, x.f0.size ≤ 9223372036854775807) := by
  rcases Deep.open_slice_pairs Tryd.underlying39 Tryd.underlying74 cellsPair rfl rfl cellsStr cellsStr h with ⟨hcs, rfl⟩ | ⟨a, len, cap, m, n, V0, V1, D0, D1, P0, P1, hcs, _, hl, hm, hmm, rfl, hx⟩
  · simp only [List.cons.injEq, and_true, Value.slice.injEq] at hcs
    obtain ⟨rfl, rfl, rfl⟩ := hcs
    exact ⟨[], rfl, Kd.C_nil _ _, Nat.zero_le _, by simp [Rows.uptoBulk], Nat.zero_le _, fun _ h => by cases h⟩
  · simp only [List.cons.injEq, and_true, Value.slice.injEq] at hcs
    obtain ⟨rfl, rfl, rfl⟩ := hcs
    rw [if_pos rfl] at hmm
    unfold maxLen at hm
    have each : ∀ i, i < m → ∃ s : S74, V0 i = .string s.f0 ∧ V1 i = .string s.f1 ∧ s.f0.size ≤ 9223372036854775807 := by
      intro i hi
      obtain ⟨_, _, g0, g1⟩ := hx i hi
      obtain ⟨s0, e0, _, z0⟩ := DataW.trod_string Tryd.underlying9 g0
      obtain ⟨s1, e1, _⟩ := DataW.trod_string Tryd.underlying9 g1
      exact ⟨⟨s0, s1⟩, by simpa using e0, by simpa using e1, z0⟩
    obtain ⟨f, hf⟩ : ∃ f : Nat → S74, ∀ i, i < m → V0 i = .string (f i).f0 ∧ V1 i = .string (f i).f1 ∧ (f i).f0.size ≤ 9223372036854775807 := by
      refine ⟨fun i => if hi : i < m then Classical.choose (each i hi) else z74, fun i hi => ?_⟩
      simp only [dif_pos hi]
      exact Classical.choose_spec (each i hi)
    have hlen : ((List.range n0).map f).length = n0 := by rw [List.length_map, List.length_range]
    refine ⟨(List.range n0).map f, hlen.symm, ⟨rfl, by omega, fun hn => ⟨a, rfl, fun j p hj => ?_⟩⟩, by omega, ?_, by omega, fun x hx => ?_⟩
    · have hj2 : j < n0 := by
        have := (List.getElem?_eq_some_iff.1 hj).1
        omega
      rw [List.getElem?_map, List.getElem?_range hj2] at hj
      obtain rfl : f j = p := by simpa using hj
      obtain ⟨c0', c1', _, _⟩ := hx j (by omega)
      obtain ⟨v0, v1, _⟩ := hf j (by omega)
      rw [v0] at c0'
      rw [v1] at c1'
      refine ⟨[.string (f j).f0, .string (f j).f1], rfl, k74_mk W (f j), fun i u hu => ?_⟩
      match i, hu with
      | 0, hu =>
        obtain rfl : Value.string (f j).f0 = u := by simpa using hu
        exact c0'
      | 1, hu =>
        obtain rfl : Value.string (f j).f1 = u := by simpa using hu
        exact c1'
      | i + 2, hu => simp at hu
    · simp only [Rows.uptoBulk]
      refine Nat.succ_le_succ (Nat.le_trans (Nat.le_trans (Nat.le_of_eq ?_) (OpenRow.length_le _)) (Nat.le_add_right ..))
      simp
    · obtain ⟨i, hi, rfl⟩ := List.mem_map.1 hx
      exact (hf i (by have := List.mem_range.1 hi; omega)).2.2
end Go.Proofs.YtlpcidjmaeicoaaDoor.OpenPairs

/-! Was -/
/- What is taken was written: a text that begins bytes is told by its own encoding. -/
namespace Go.Proofs.YtlpcidjmaeicoaaDoor.DecPure
open Go Go.Proofs.YtlpcidjmaeicoaaDoor.DecM Go.Proofs.YtlpcidjmaeicoaaDoor.Giv

end Go.Proofs.YtlpcidjmaeicoaaDoor.DecPure

/-! Enc -/
/- Numbers and texts written and taken, one behind the other: plain laws. -/
namespace Go.Proofs.YtlpcidjmaeicoaaDoor.Enc
open Go Go.RowKit Go.Proofs.YtlpcidjmaeicoaaDoor.DecM Go.Proofs.YtlpcidjmaeicoaaDoor.Giv Go.Proofs.YtlpcidjmaeicoaaDoor.Wire Go.Proofs.YtlpcidjmaeicoaaDoor.Reader

theorem asc (a b c : ByteArray) : a ++ b ++ c = a ++ (b ++ c) := by
  apply bytes_ext
  simp only [data_append, List.append_assoc]
theorem app_empty (a : ByteArray) : a ++ (⟨#[]⟩ : ByteArray) = a := by
  apply bytes_ext
  simp only [data_append, List.append_nil]
theorem size_nil {s : ByteArray} (h : s.size = 0) : s = (⟨#[]⟩ : ByteArray) := by
  apply bytes_ext
  have := len_size s
  rw [h] at this
  exact List.eq_nil_of_length_eq_zero this
/-! ### a number, a text -/
theorem nx_back {α : Type} (n : Int) (r : ByteArray) (m : Int) (f : Int → ByteArray × Bool → α) (hn : 0 ≤ n ∧ n ≤ m) (hm : m ≤ 1073741824) : nx (numS n.toNat ++ r, false) m f = f n (r, false) := by
  have e := take_back n.toNat (by unfold two64; omega) r
  have en : ((n.toNat : Nat) : Int) = n := by omega
  rw [en] at e
  refine nx_of f (?_ : _ = (n, r, false))
  show numR (numS n.toNat ++ r) false m = _
  unfold numR
  rw [e]
  exact if_neg (by simp; omega)
theorem tx_back {α : Type} (t r : ByteArray) (m : Int) (f : ByteArray → ByteArray × Bool → α) (ht : (t.size : Int) ≤ m) (hm : m ≤ 1073741824) : tx (textS t ++ r, false) m f = f t (r, false) := by
  have e := DecPure.text_back t r m (by omega)
  rw [if_neg (by omega)] at e
  refine tx_of f (?_ : _ = (t, r, false))
  show textR (textS t ++ r) false m = _
  unfold textR
  rw [e]
  exact if_neg (by simp)
/-! ### what is written -/
theorem nums_one (a : Int) : numsS [a] = numS a.toNat := by
  apply bytes_ext
  simp [numsS, numP, glue]
theorem nums_cons (a b : Int) (l : List Int) : numsS (a :: b :: l) = numS a.toNat ++ numsS (b :: l) := by
  apply bytes_ext
  rw [data_append]
  simp [numsS, numP, glue]
theorem texts_one (t : ByteArray) : textsW [t] = textS t := by
  apply bytes_ext
  simp [textsW, textP, glue, textW, textS]
theorem texts_cons (t u : ByteArray) (l : List ByteArray) : textsW (t :: u :: l) = textS t ++ textsW (u :: l) := by
  apply bytes_ext
  rw [data_append]
  simp [textsW, textP, glue, textW, textS]
theorem numS_le (d n : Nat) (h : n < 10 ^ (d + 1)) : (numS n).size ≤ d + 2 := by
  have h1 := numL_len d n h
  unfold numS
  rw [strOfNums_size, List.length_append]
  simp
  omega
theorem numS_ge (n : Nat) : 1 ≤ (numS n).size := by
  unfold numS
  rw [strOfNums_size, List.length_append]
  simp
theorem num_size (n : Int) (h : 0 ≤ n ∧ n ≤ 1073741824) : (numS n.toNat).size ≤ 11 := numS_le 9 n.toNat (by omega)
theorem text_size (t : ByteArray) (h : t.size ≤ 64) : (textS t).size ≤ 3 + t.size := by
  have := numS_le 1 t.size (by omega)
  unfold textS
  rw [ByteArray.size_append]
  omega
theorem glue_len (l : List ByteArray) (d : Nat) (h : ∀ t ∈ l, t.size ≤ d) : (glue l).length ≤ d * l.length := by
  induction l with
  | nil => exact Nat.zero_le _
  | cons t l ih =>
    have e : glue (t :: l) = t.data.toList ++ glue l := rfl
    have h1 := h t (List.mem_cons_self ..)
    have h2 := ih fun u hu => h u (List.mem_cons_of_mem _ hu)
    rw [e, List.length_append, List.length_cons, len_size, Nat.mul_succ]
    omega
theorem nums_some (l : List Int) (hl : l.length ≤ 16) (h : ∀ x ∈ l, 0 ≤ x ∧ x ≤ 1073741824) : QWi.wire_nums.f l = some (numsS l) := by
  unfold QWi.wire_nums.f
  rw [if_pos ⟨by omega, List.all_eq_true.2 fun x hx => by have := h x hx; simp; omega⟩]
theorem texts_some (l : List ByteArray) (hl : l.length ≤ 16) (h : ∀ t ∈ l, t.size ≤ 64) : QWi.wire_texts.f l = some (textsW l) := by
  unfold QWi.wire_texts.f
  have h1 := glue_len (textP l) 67 (fun t ht => by
    obtain ⟨u, hu, rfl⟩ := List.mem_map.1 ht
    have := h u hu
    have h2 : (textW u).size ≤ 3 + u.size := text_size u this
    omega)
  have h2 : (textP l).length = l.length := List.length_map ..
  rw [h2] at h1
  rw [if_pos ⟨by omega, by omega⟩]
end Go.Proofs.YtlpcidjmaeicoaaDoor.Enc

/-! ReqP -/
/- Requests as bytes: plain laws. -/
namespace Go.Proofs.YtlpcidjmaeicoaaDoor.Enc
open Go Go.RowKit Go.Proofs.YtlpcidjmaeicoaaDoor.DecM Go.Proofs.YtlpcidjmaeicoaaDoor.Giv Go.Proofs.YtlpcidjmaeicoaaDoor.Wire Go.Proofs.YtlpcidjmaeicoaaDoor.Reader Go.Proofs.YtlpcidjmaeicoaaDoor.QWi

/-- A request's bytes. -/
def encQ (a0 a1 a2 a3 : Int) (t : ByteArray) (o : Int) (y v l h : ByteArray) (m : Int) : ByteArray :=
  numS a0.toNat ++ (numS a1.toNat ++ (numS a2.toNat ++ (numS a3.toNat ++ (textS t ++ (if a0 = 5 then numS o.toNat ++ (textS y ++ (textS v ++ (textS l ++ (textS h ++ numS m.toNat)))) else ⟨#[]⟩)))))
theorem encQ_size {a0 a1 a2 a3 : Int} {t : ByteArray} {o : Int} {y v l h : ByteArray} {m : Int} (hm : mayQ a0 a1 a2 a3 t o y v l h m) : 1 ≤ (encQ a0 a1 a2 a3 t o y v l h m).size ∧ (encQ a0 a1 a2 a3 t o y v l h m).size ≤ 2000 := by
  obtain ⟨p0, p1, p2, p3, p4, p5⟩ := hm
  have n0 := num_size a0 (by omega)
  have n1 := num_size a1 p1
  have n2 := num_size a2 p2
  have n3 := num_size a3 p3
  have n4 := text_size t (by omega)
  have n5 := numS_ge a0.toNat
  unfold encQ
  by_cases h5 : a0 = 5
  · rcases p5 with ⟨_, _, q2, q3, q4, q5, q6, q7⟩ | ⟨q0, _⟩
    · have m0 := num_size o (by omega)
      have m1 := num_size m q7
      have m2 := text_size y (by omega)
      have m3 := text_size v (by omega)
      have m4 := text_size l (by omega)
      have m5 := text_size h (by omega)
      simp only [if_pos h5, ByteArray.size_append]
      omega
    · exact absurd h5 q0
  · have e : (⟨#[]⟩ : ByteArray).size = 0 := rfl
    simp only [if_neg h5, ByteArray.size_append, e]
    omega
/-- What wire.Req gives. -/
theorem req_f (k : Nat) (a0 a1 a2 a3 : Int) (t : ByteArray) (o : Int) (y v l h : ByteArray) (m : Int) :
    wire_Req.f (k + 1) a0 a1 a2 a3 t o y v l h m = some (if mayQ a0 a1 a2 a3 t o y v l h m then (encQ a0 a1 a2 a3 t o y v l h m, 0) else (⟨#[]⟩, 1)) := by
  unfold wire_Req.f
  rw [wire_may, bsm]
  by_cases hm : mayQ a0 a1 a2 a3 t o y v l h m
  · rw [if_pos hm, if_pos (decide_eq_true hm)]
    have hs := encQ_size hm
    obtain ⟨p0, p1, p2, p3, p4, p5⟩ := hm
    have e1 : numsS [a0, a1, a2, a3] ++ textsW [t] = numS a0.toNat ++ (numS a1.toNat ++ (numS a2.toNat ++ (numS a3.toNat ++ textS t))) := by
      rw [nums_cons, nums_cons, nums_cons, nums_one, texts_one, asc, asc, asc]
    have k1 : (numsS [a0, a1, a2, a3]).size + (textsW [t]).size ≤ 9223372036854775807 := by
      rw [← ByteArray.size_append, e1]
      have n0 := num_size a0 (by omega)
      have n1 := num_size a1 p1
      have n2 := num_size a2 p2
      have n3 := num_size a3 p3
      have n4 := text_size t (by omega)
      simp only [ByteArray.size_append]
      omega
    rw [nums_some [a0, a1, a2, a3] (by simp) (by
      intro x hx
      simp only [List.mem_cons, List.not_mem_nil, or_false] at hx
      rcases hx with rfl | rfl | rfl | rfl
      · omega
      · exact p1
      · exact p2
      · exact p3), bsm, texts_some [t] (by simp) (by
      intro x hx
      rw [List.mem_singleton.1 hx]
      omega), bsm, if_pos k1]
    by_cases h5 : a0 = 5
    · rcases p5 with ⟨_, _, q2, q3, q4, q5, q6, q7⟩ | ⟨q0, _⟩
      · have e2 : numsS [o] ++ textsW [y, v, l, h] = numS o.toNat ++ (textS y ++ (textS v ++ (textS l ++ textS h))) := by
          rw [nums_one, texts_cons, texts_cons, texts_cons, texts_one]
        have m0 := num_size o (by omega)
        have m1 := num_size m q7
        have m2 := text_size y (by omega)
        have m3 := text_size v (by omega)
        have m4 := text_size l (by omega)
        have m5 := text_size h (by omega)
        have e3 : (numsS [o] ++ textsW [y, v, l, h]) ++ numsS [m] = numS o.toNat ++ (textS y ++ (textS v ++ (textS l ++ (textS h ++ numS m.toNat)))) := by
          rw [e2, nums_one, asc, asc, asc, asc]
        have e4 : (numsS [a0, a1, a2, a3] ++ textsW [t]) ++ ((numsS [o] ++ textsW [y, v, l, h]) ++ numsS [m]) = encQ a0 a1 a2 a3 t o y v l h m := by
          unfold encQ
          rw [e1, e3, if_pos h5, asc, asc, asc, asc]
        rw [if_pos h5, nums_some [o] (by simp) (by
          intro x hx
          rw [List.mem_singleton.1 hx]
          omega), bsm, texts_some [y, v, l, h] (by simp) (by
          intro x hx
          simp only [List.mem_cons, List.not_mem_nil, or_false] at hx
          rcases hx with rfl | rfl | rfl | rfl
          · omega
          · omega
          · omega
          · omega), bsm, if_pos (by rw [← ByteArray.size_append, e2]; simp only [ByteArray.size_append]; omega), nums_some [m] (by simp) (by
          intro x hx
          rw [List.mem_singleton.1 hx]
          exact q7), bsm, if_pos (by rw [← ByteArray.size_append, e3]; simp only [ByteArray.size_append]; omega), if_pos (by rw [← ByteArray.size_append, e4]; omega), e4]
      · exact absurd h5 q0
    · have e4 : numsS [a0, a1, a2, a3] ++ textsW [t] = encQ a0 a1 a2 a3 t o y v l h m := by
        unfold encQ
        rw [e1, if_neg h5, app_empty]
      rw [if_neg h5, e4]
  · rw [if_neg hm, if_neg (fun h => hm (of_decide_eq_true h))]
/-- The fields, one behind the other. -/
def parseQ {α : Type} (x : ByteArray × Bool) (f : Int → Int → Int → Int → ByteArray → Int → ByteArray → ByteArray → ByteArray → ByteArray → Int → ByteArray × Bool → α) : α :=
  nx x 6 fun a1 x1 => nx x1 1073741824 fun a2 x2 => nx x2 1073741824 fun a3 x3 => nx x3 1073741824 fun a4 x4 => tx x4 16 fun a5 x5 =>
  if a1 = 5 then nx x5 6 fun a6 x6 => tx x6 32 fun a7 x7 => tx x7 64 fun a8 x8 => tx x8 32 fun a9 x9 => tx x9 32 fun a10 x10 => nx x10 1073741824 fun a11 x11 => f a1 a2 a3 a4 a5 a6 a7 a8 a9 a10 a11 x11
  else f a1 a2 a3 a4 a5 0 ⟨#[]⟩ ⟨#[]⟩ ⟨#[]⟩ ⟨#[]⟩ 0 x5
theorem takeReq_parse (s : ByteArray) : takeReqF s = if 2048 < s.size then zq 4 else parseQ (s, false) fun a0 a1 a2 a3 t o y v l h m x => lastQ x (goodQ a0 a1 a2 a3 t o y v l h m) := rfl
theorem parse_back {α : Type} {a0 a1 a2 a3 : Int} {t : ByteArray} {o : Int} {y v l h : ByteArray} {m : Int} (hm : mayQ a0 a1 a2 a3 t o y v l h m) (r : ByteArray) (f : Int → Int → Int → Int → ByteArray → Int → ByteArray → ByteArray → ByteArray → ByteArray → Int → ByteArray × Bool → α) :
    parseQ (encQ a0 a1 a2 a3 t o y v l h m ++ r, false) f = f a0 a1 a2 a3 t o y v l h m (r, false) := by
  obtain ⟨p0, p1, p2, p3, p4, p5⟩ := hm
  unfold parseQ encQ
  rw [asc, nx_back a0 _ 6 _ (by omega) (by omega), asc, nx_back a1 _ _ _ p1 (by omega), asc, nx_back a2 _ _ _ p2 (by omega), asc, nx_back a3 _ _ _ p3 (by omega), asc, tx_back t _ _ _ (by omega) (by omega)]
  rcases p5 with ⟨q0, q1, q2, q3, q4, q5, q6, q7⟩ | ⟨q0, q1, q2, q3, q4, q5, q6, _⟩
  · rw [if_pos q0, if_pos q0, asc, nx_back o _ 6 _ (by omega) (by omega), asc, tx_back y _ _ _ (by omega) (by omega), asc, tx_back v _ _ _ (by omega) (by omega), asc, tx_back l _ _ _ (by omega) (by omega), asc, tx_back h _ _ _ (by omega) (by omega), nx_back m _ _ _ q7 (by omega)]
  · rw [if_neg q0, if_neg q0, q1, size_nil q2, size_nil q3, size_nil q4, size_nil q5, q6]
    have e : (⟨#[]⟩ : ByteArray) ++ r = r := by
      apply bytes_ext
      simp only [data_append, List.nil_append]
    rw [e]
theorem take_of {a0 a1 a2 a3 : Int} {t : ByteArray} {o : Int} {y v l h : ByteArray} {m : Int} (hm : mayQ a0 a1 a2 a3 t o y v l h m) : takeReqF (encQ a0 a1 a2 a3 t o y v l h m) = (a0, a1, a2, a3, t, o, y, v, l, h, m, 0) := by
  have hs := encQ_size hm
  have e := parse_back hm (⟨#[]⟩ : ByteArray) (fun a0 a1 a2 a3 t o y v l h m x => lastQ x (goodQ a0 a1 a2 a3 t o y v l h m))
  rw [app_empty] at e
  rw [takeReq_parse, if_neg (by omega), e]
  unfold lastQ goodQ
  rw [if_neg (by rintro (h | h); · cases h
                 · exact h rfl), if_pos hm]
/-- The document's example. -/
theorem shown_f (k : Nat) : stanchionlaw16_shown.f (k + 1) = some true := by
  unfold stanchionlaw16_shown.f
  have h1 : (⟨#[116]⟩ : ByteArray).size = 1 := rfl
  have h0 : (⟨#[]⟩ : ByteArray).size = 0 := rfl
  have hm : mayQ 4 1 2 3 (⟨#[116]⟩ : ByteArray) 0 (⟨#[]⟩ : ByteArray) (⟨#[]⟩ : ByteArray) (⟨#[]⟩ : ByteArray) (⟨#[]⟩ : ByteArray) 0 := by
    unfold mayQ
    rw [h1, h0]
    decide
  rw [req_f, bsm, if_pos hm]
  have e : (encQ 4 1 2 3 (⟨#[116]⟩ : ByteArray) 0 (⟨#[]⟩ : ByteArray) (⟨#[]⟩ : ByteArray) (⟨#[]⟩ : ByteArray) (⟨#[]⟩ : ByteArray) 0).toList = ([52, 59, 49, 59, 50, 59, 51, 59, 49, 59, 116] : List UInt8) := by
    rw [Lib.toList_data]
    unfold encQ textS
    simp only [data_append, numS_data, h1]
    rw [show (4 : Int).toNat = 4 from rfl, show (1 : Int).toNat = 1 from rfl, show (2 : Int).toNat = 2 from rfl, show (3 : Int).toNat = 3 from rfl, figL_small (by omega), figL_small (by omega), figL_small (by omega), figL_small (by omega)]
    rfl
  rw [if_pos e]
  rfl
end Go.Proofs.YtlpcidjmaeicoaaDoor.Enc

/-! RepP -/
/- Replies as bytes: plain laws. -/
namespace Go.Proofs.YtlpcidjmaeicoaaDoor.Enc
open Go Go.RowKit Go.Proofs.YtlpcidjmaeicoaaDoor.DecM Go.Proofs.YtlpcidjmaeicoaaDoor.Giv Go.Proofs.YtlpcidjmaeicoaaDoor.Wire Go.Proofs.YtlpcidjmaeicoaaDoor.Reader Go.Proofs.YtlpcidjmaeicoaaDoor.QWi Go.Proofs.YtlpcidjmaeicoaaDoorW.PrintWords

theorem bsp {α β : Type} (a : α) (f : α → Option β) : (some a).bind f = f a := Eq.trans (Option.bind_some a f) (Eq.refl _)
def flagI (b : Bool) : Int := if b = true then 1 else 0
theorem flagI_is (b : Bool) : (flagI b == 1) = b := by
  cases b <;> rfl
theorem flagI_01 (b : Bool) : 0 ≤ flagI b ∧ flagI b ≤ 1 := by
  cases b with
  | true => exact ⟨by decide, by decide⟩
  | false => exact ⟨by decide, by decide⟩
def encRows : List S74 → ByteArray
  | [] => ⟨#[]⟩
  | p :: l => textS p.f0 ++ (textS p.f1 ++ encRows l)
/-- A reply's bytes. -/
def encP (p : S41) : ByteArray :=
  numS p.f0.toNat ++ (numS p.f1.toNat ++ (numS p.f2.toNat ++ (numS p.f3.toNat ++ (textS p.f4 ++ (numS (flagI p.f5).toNat ++ (numS (flagI p.f7).toNat ++ (numS (p.f6.length : Int).toNat ++ encRows p.f6)))))))
def mayP (p : S41) : Bool := mayB p.f0 p.f1 p.f2 p.f3 p.f4 p.f5 p.f6 p.f7
theorem numB_is {x : Int} (h : QWi.numB x = true) : 0 ≤ x ∧ x ≤ 1073741824 := by
  unfold QWi.numB at h
  simpa using h
/-- What a reply that may be keeps to. -/
theorem mayP_is {p : S41} (h : mayP p = true) : (0 ≤ p.f0 ∧ p.f0 ≤ 1073741824) ∧ (0 ≤ p.f1 ∧ p.f1 ≤ 1073741824) ∧ (0 ≤ p.f2 ∧ p.f2 ≤ 1073741824) ∧ (0 ≤ p.f3 ∧ p.f3 ≤ 16) ∧ p.f4.size ≤ 64 ∧ p.f6.length ≤ 16 ∧ ∀ x ∈ p.f6, x.f0.size ≤ 32 ∧ x.f1.size ≤ 64 := by
  have e := mayReply_some p.f0 p.f1 p.f2 p.f3 p.f4 p.f5 p.f6 p.f7
  rw [show mayB p.f0 p.f1 p.f2 p.f3 p.f4 p.f5 p.f6 p.f7 = true from h] at e
  unfold wire_mayReply.f at e
  by_cases c0 : QWi.numB p.f0 = false
  · rw [if_pos c0] at e
    cases e
  rw [if_neg c0] at e
  by_cases c1 : QWi.numB p.f1 = false
  · rw [if_pos c1] at e
    cases e
  rw [if_neg c1] at e
  by_cases c2 : QWi.numB p.f2 = false
  · rw [if_pos c2] at e
    cases e
  rw [if_neg c2] at e
  by_cases c3 : p.f3 < 0
  · rw [if_pos c3] at e
    cases e
  rw [if_neg c3] at e
  by_cases c4 : 16 < p.f3
  · rw [if_pos c4] at e
    cases e
  rw [if_neg c4] at e
  by_cases c5 : 64 < (p.f4.size : Int)
  · rw [if_pos c5] at e
    cases e
  rw [if_neg c5] at e
  by_cases c6 : 16 < (p.f6.length : Int)
  · rw [if_pos c6] at e
    cases e
  rw [if_neg c6] at e
  have c9 : p.f6.any longP = false := by
    by_cases c7 : table_Right.f 20 p.f6 = some false
    · rw [if_pos c7] at e
      cases e
    rw [if_neg c7] at e
    by_cases c8 : table_Right.f 20 p.f6 = some true
    · rw [if_pos c8] at e
      by_cases c9 : p.f6.any longP = true
      · rw [if_pos c9] at e
        cases e
      · exact Bool.eq_false_iff.mpr c9
    · rw [if_neg c8] at e
      cases e
  refine ⟨numB_is (by simpa using c0), numB_is (by simpa using c1), numB_is (by simpa using c2), ⟨by omega, by omega⟩, by omega, by omega, fun x hx => ?_⟩
  have h1 := List.any_eq_false.1 c9 x hx
  unfold longP at h1
  simp at h1
  omega
theorem encRows_size (l : List S74) (h : ∀ x ∈ l, x.f0.size ≤ 32 ∧ x.f1.size ≤ 64) : (encRows l).size ≤ 102 * l.length := by
  induction l with
  | nil => exact Nat.zero_le _
  | cons p l ih =>
    have h1 := h p (List.mem_cons_self ..)
    have h2 := ih fun x hx => h x (List.mem_cons_of_mem _ hx)
    have k1 := text_size p.f0 (by omega)
    have k2 := text_size p.f1 (by omega)
    show (textS p.f0 ++ (textS p.f1 ++ encRows l)).size ≤ _
    rw [ByteArray.size_append, ByteArray.size_append, List.length_cons, Nat.mul_succ]
    omega
theorem encP_size {p : S41} (hm : mayP p = true) : 1 ≤ (encP p).size ∧ (encP p).size ≤ 2000 := by
  obtain ⟨p0, p1, p2, p3, p4, p5, p6⟩ := mayP_is hm
  have n0 := num_size p.f0 p0
  have n1 := num_size p.f1 p1
  have n2 := num_size p.f2 p2
  have n3 := num_size p.f3 (by omega)
  have n4 := text_size p.f4 (by omega)
  have n5 := numS_le 0 (flagI p.f5).toNat (by have := flagI_01 p.f5; omega)
  have n6 := numS_le 0 (flagI p.f7).toNat (by have := flagI_01 p.f7; omega)
  have n7 := numS_le 1 (p.f6.length : Int).toNat (by omega)
  have n8 := encRows_size p.f6 p6
  have n9 := numS_ge p.f0.toNat
  unfold encP
  simp only [ByteArray.size_append]
  omega
theorem rd_at (l : List S74) (i : Nat) (hi : i < l.length) : rd_T74 l (i : Int) = l[i] := by
  unfold rd_T74
  rw [Int.toNat_natCast, List.getD_eq_getElem?_getD, List.getElem?_eq_getElem hi]
  rfl
theorem reply_l0 (l : List S74) (hl : l.length ≤ 16) (ha : ∀ x ∈ l, x.f0.size ≤ 32 ∧ x.f1.size ≤ 64) : ∀ (d i : Nat) (x : ByteArray) (k : Nat), l.length - i = d → i ≤ l.length → x.size + 102 * d ≤ 100000 → d < k →
    wire_Reply.l0 k x l (l.length : Int) (i : Int) = some (x ++ encRows (l.drop i), 0) := by
  intro d
  induction d with
  | zero =>
    intro i x k hd hi hx hk
    obtain ⟨k, rfl⟩ : ∃ j, k = j + 1 := ⟨k - 1, by omega⟩
    rw [wire_Reply.l0, if_neg (by omega), List.drop_eq_nil_of_le (by omega)]
    show _ = some (x ++ (⟨#[]⟩ : ByteArray), 0)
    rw [app_empty]
  | succ d ih =>
    intro i x k hd hi hx hk
    obtain ⟨k, rfl⟩ : ∃ j, k = j + 1 := ⟨k - 1, by omega⟩
    have hlt : i < l.length := by omega
    obtain ⟨s1, s2⟩ := ha l[i] (List.getElem_mem hlt)
    have k1 := text_size (l[i]).f0 (by omega)
    have k2 := text_size (l[i]).f1 s2
    have e := ih (i + 1) (x ++ (textS (l[i]).f0 ++ textS (l[i]).f1)) k (by omega) (by omega) (by simp only [ByteArray.size_append]; omega) (by omega)
    rw [wire_Reply.l0, if_pos (by omega), if_pos (by omega), if_pos (by omega), rd_at l i hlt, texts_some [(l[i]).f0, (l[i]).f1] (by simp) (by
      intro t ht
      simp only [List.mem_cons, List.not_mem_nil, or_false] at ht
      rcases ht with rfl | rfl
      · omega
      · exact s2), bsp, texts_cons, texts_one, if_pos (by simp only [ByteArray.size_append]; omega), w_nat i (by omega), e, List.drop_eq_getElem_cons hlt]
    show _ = some (x ++ (textS (l[i]).f0 ++ (textS (l[i]).f1 ++ encRows (l.drop (i + 1)))), 0)
    rw [asc, asc]
/-- What wire.Reply gives. -/
theorem reply_f (k : Nat) (p : S41) : wire_Reply.f (k + 18) p.f0 p.f1 p.f2 p.f3 p.f4 p.f5 p.f6 p.f7 = some (if mayP p = true then (encP p, 0) else (⟨#[]⟩, 1)) := by
  unfold wire_Reply.f
  rw [mayReply_some, bsp, show mayB p.f0 p.f1 p.f2 p.f3 p.f4 p.f5 p.f6 p.f7 = mayP p from rfl]
  by_cases hm : mayP p = true
  · rw [if_pos hm, if_pos hm]
    have hz := encP_size hm
    obtain ⟨p0, p1, p2, p3, p4, p5, p6⟩ := mayP_is hm
    have n0 := num_size p.f0 p0
    have n1 := num_size p.f1 p1
    have n2 := num_size p.f2 p2
    have n3 := num_size p.f3 (by omega)
    have n4 := text_size p.f4 (by omega)
    have b5 := flagI_01 p.f5
    have b7 := flagI_01 p.f7
    have n5 := num_size (flagI p.f5) (by omega)
    have n6 := num_size (flagI p.f7) (by omega)
    have n7 := num_size (p.f6.length : Int) (by omega)
    have n8 := encRows_size p.f6 p6
    have fl : ∀ b, wire_flag.f b = some (flagI b) := fun b => by
      unfold wire_flag.f flagI
      cases b <;> rfl
    have e1 : numsS [p.f0, p.f1, p.f2, p.f3] ++ textsW [p.f4] = numS p.f0.toNat ++ (numS p.f1.toNat ++ (numS p.f2.toNat ++ (numS p.f3.toNat ++ textS p.f4))) := by
      rw [nums_cons, nums_cons, nums_cons, nums_one, texts_one, asc, asc, asc]
    have e2 : numsS [flagI p.f5, flagI p.f7, (p.f6.length : Int)] = numS (flagI p.f5).toNat ++ (numS (flagI p.f7).toNat ++ numS (p.f6.length : Int).toNat) := by
      rw [nums_cons, nums_cons, nums_one]
    rw [nums_some [p.f0, p.f1, p.f2, p.f3] (by simp) (by
      intro x hx
      simp only [List.mem_cons, List.not_mem_nil, or_false] at hx
      rcases hx with rfl | rfl | rfl | rfl
      · exact p0
      · exact p1
      · exact p2
      · omega), bsp, texts_some [p.f4] (by simp) (by
      intro x hx
      rw [List.mem_singleton.1 hx]
      omega), bsp, if_pos (by rw [← ByteArray.size_append, e1]; simp only [ByteArray.size_append]; omega), fl, bsp, fl, bsp, nums_some [flagI p.f5, flagI p.f7, (p.f6.length : Int)] (by simp) (by
      intro x hx
      simp only [List.mem_cons, List.not_mem_nil, or_false] at hx
      rcases hx with rfl | rfl | rfl
      · omega
      · omega
      · omega), bsp, if_pos (by rw [← ByteArray.size_append, e1, e2]; simp only [ByteArray.size_append]; omega)]
    have e3 := reply_l0 p.f6 p5 p6 p.f6.length 0 (numsS [p.f0, p.f1, p.f2, p.f3] ++ textsW [p.f4] ++ numsS [flagI p.f5, flagI p.f7, (p.f6.length : Int)]) (k + 18) (by omega) (by omega) (by rw [e1, e2]; simp only [ByteArray.size_append]; omega) (by omega)
    rw [show ((0 : Nat) : Int) = 0 from rfl] at e3
    rw [e3, e1, e2, List.drop_zero]
    unfold encP
    simp only [asc]
  · rw [if_neg hm, if_neg hm]
/-! ### rows -/
theorem rows_back (l : List S74) (ha : ∀ x ∈ l, x.f0.size ≤ 32 ∧ x.f1.size ≤ 64) (r : ByteArray) : ∀ i, i ≤ l.length → rowsI (encRows l ++ r, false) i = (l.take i, encRows (l.drop i) ++ r, false) := by
  intro i
  induction i with
  | zero => exact fun _ => rfl
  | succ i ih =>
    intro hi
    have hlt : i < l.length := by omega
    obtain ⟨s1, s2⟩ := ha l[i] (List.getElem_mem hlt)
    show rowStep (rowsI (encRows l ++ r, false) i) = _
    rw [ih (by omega)]
    unfold rowStep
    rw [List.drop_eq_getElem_cons hlt]
    show tx ((textS (l[i]).f0 ++ (textS (l[i]).f1 ++ encRows (l.drop (i + 1)))) ++ r, false) 32 _ = _
    rw [asc, tx_back _ _ _ _ (by omega) (by omega), asc, tx_back _ _ _ _ (by omega) (by omega), List.take_succ_eq_append_getElem hlt]
theorem rows_all (l : List S74) (ha : ∀ x ∈ l, x.f0.size ≤ 32 ∧ x.f1.size ≤ 64) (r : ByteArray) : rowsI (encRows l ++ r, false) l.length = (l, r, false) := by
  rw [rows_back l ha r _ (Nat.le_refl _), List.take_length, List.drop_length]
  show (l, (⟨#[]⟩ : ByteArray) ++ r, false) = _
  have e : (⟨#[]⟩ : ByteArray) ++ r = r := by
    apply bytes_ext
    simp only [data_append, List.nil_append]
  rw [e]
/-- The fields, one behind the other. -/
def parseP {α : Type} (x : ByteArray × Bool) (f : Int → Int → Int → Int → ByteArray → Int → Int → Int → ByteArray × Bool → α) : α :=
  nx x 1073741824 fun a1 x1 => nx x1 1073741824 fun a2 x2 => nx x2 1073741824 fun a3 x3 => nx x3 16 fun a4 x4 => tx x4 64 fun a5 x5 => nx x5 1 fun a6 x6 => nx x6 1 fun a7 x7 => nx x7 16 fun a8 x8 => f a1 a2 a3 a4 a5 a6 a7 a8 x8
theorem takeReply_parse (s : ByteArray) : takeReplyF s = parseP (s, false) fun a1 a2 a3 a4 a5 a6 a7 a8 x8 => goodP a1 a2 a3 a4 a5 (a6 == 1) (a7 == 1) (rowsI x8 a8.toNat) := rfl
theorem parseP_back {α : Type} {p : S41} (hm : mayP p = true) (r : ByteArray) (f : Int → Int → Int → Int → ByteArray → Int → Int → Int → ByteArray × Bool → α) :
    parseP (encP p ++ r, false) f = f p.f0 p.f1 p.f2 p.f3 p.f4 (flagI p.f5) (flagI p.f7) (p.f6.length : Int) (encRows p.f6 ++ r, false) := by
  obtain ⟨p0, p1, p2, p3, p4, p5, p6⟩ := mayP_is hm
  have b5 := flagI_01 p.f5
  have b7 := flagI_01 p.f7
  unfold parseP encP
  rw [asc, nx_back _ _ _ _ p0 (by omega), asc, nx_back _ _ _ _ p1 (by omega), asc, nx_back _ _ _ _ p2 (by omega), asc, nx_back _ _ _ _ p3 (by omega), asc, tx_back _ _ _ _ (by omega) (by omega), asc, nx_back _ _ _ _ b5 (by omega), asc, nx_back _ _ _ _ b7 (by omega), asc, nx_back _ _ _ _ (by omega) (by omega)]
theorem take_p_all {p : S41} (hm : mayP p = true) (u : ByteArray) : takeReplyF (encP p ++ u) = if u.size = 0 then (p, 0) else (z41, 3) := by
  rw [takeReply_parse, parseP_back hm]
  have ha := (mayP_is hm).2.2.2.2.2.2
  rw [Int.toNat_natCast, rows_all p.f6 ha u, flagI_is, flagI_is]
  unfold goodP
  by_cases hu : u.size = 0
  · rw [if_pos hu, if_neg (by rintro (h | h); · cases h
                              · exact h hu), if_pos (show mayB p.f0 p.f1 p.f2 p.f3 p.f4 p.f5 p.f6 p.f7 = true from hm)]
  · rw [if_neg hu, if_pos (.inr hu)]
theorem take_p {p : S41} (hm : mayP p = true) : takeReplyF (encP p) = (p, 0) := by
  have e := take_p_all hm (⟨#[]⟩ : ByteArray)
  rw [app_empty] at e
  exact e
end Go.Proofs.YtlpcidjmaeicoaaDoor.Enc

/-! SameP -/
/- wire.Same in plain Lean. -/
namespace Go.Proofs.YtlpcidjmaeicoaaDoor.Enc
open Go Go.RowKit Go.Proofs.YtlpcidjmaeicoaaDoor.DecM Go.Proofs.YtlpcidjmaeicoaaDoor.Giv Go.Proofs.YtlpcidjmaeicoaaDoor.Wire Go.Proofs.YtlpcidjmaeicoaaDoor.Reader Go.Proofs.YtlpcidjmaeicoaaDoor.QWi Go.Proofs.YtlpcidjmaeicoaaDoorW.PrintWords

theorem str_iff (a b : ByteArray) : a.toList = b.toList ↔ a = b := by
  rw [Lib.toList_data, Lib.toList_data]
  exact ⟨fun h => bytes_ext h, fun h => by rw [h]⟩
theorem str_beq (a b : ByteArray) : (a.toList == b.toList) = decide (a = b) := by
  rw [Bool.eq_iff_iff, beq_iff_eq, decide_eq_true_eq]
  exact str_iff a b
/-- Are two pairs the same? -/
def eqT (p q : S74) : Bool := decide (p.f0 = q.f0) && decide (p.f1 = q.f1)
def eqL : List S74 → List S74 → Bool
  | [], [] => true
  | p :: l, q :: l' => eqT p q && eqL l l'
  | _, _ => false
theorem eqL_self (l : List S74) : eqL l l = true := by
  induction l with
  | nil => rfl
  | cons p l ih =>
    show (eqT p p && eqL l l) = true
    rw [ih]
    unfold eqT
    simp
theorem eqL_iff (l l' : List S74) : eqL l l' = true ↔ l = l' := by
  induction l generalizing l' with
  | nil =>
    cases l' with
    | nil => exact ⟨fun _ => rfl, fun _ => rfl⟩
    | cons => exact ⟨fun h => (by cases h), fun h => (by cases h)⟩
  | cons p l ih =>
    cases l' with
    | nil => exact ⟨fun h => (by cases h), fun h => (by cases h)⟩
    | cons q l' =>
      show (eqT p q && eqL l l') = true ↔ _
      rw [Bool.and_eq_true, ih, List.cons.injEq]
      unfold eqT
      obtain ⟨p0, p1⟩ := p
      obtain ⟨q0, q1⟩ := q
      simp
theorem eqL_len (l l' : List S74) (h : ¬ l.length = l'.length) : eqL l l' = false := by
  by_cases e : eqL l l' = true
  · exact absurd (by rw [(eqL_iff l l').1 e]) h
  · exact Bool.eq_false_iff.mpr e
theorem equal_l0 (l l' : List S74) (he : l.length = l'.length) (hn : l.length ≤ 9223372036854775807) : ∀ (d i k : Nat), l.length - i = d → i ≤ l.length → d < k → api_Pair_37.l0 k l l' (l.length : Int) (i : Int) = some (eqL (l.drop i) (l'.drop i)) := by
  intro d
  induction d with
  | zero =>
    intro i k hd hi hk
    obtain ⟨k, rfl⟩ : ∃ j, k = j + 1 := ⟨k - 1, by omega⟩
    rw [api_Pair_37.l0, if_neg (by omega), List.drop_eq_nil_of_le (by omega), List.drop_eq_nil_of_le (by omega)]
    rfl
  | succ d ih =>
    intro i k hd hi hk
    obtain ⟨k, rfl⟩ : ∃ j, k = j + 1 := ⟨k - 1, by omega⟩
    have h1 : i < l.length := by omega
    have h2 : i < l'.length := by omega
    have e := ih (i + 1) k (by omega) (by omega) (by omega)
    rw [api_Pair_37.l0, if_pos (by omega), if_pos (by omega), if_pos (by omega), if_pos (by omega), rd_at l i h1, rd_at l' i h2, w_nat i (by omega), e, str_beq, str_beq, List.drop_eq_getElem_cons h1, List.drop_eq_getElem_cons h2]
    show _ = some (eqT l[i] l'[i] && eqL (l.drop (i + 1)) (l'.drop (i + 1)))
    unfold eqT
    generalize decide ((l[i]).f0 = (l'[i]).f0) = x
    generalize decide ((l[i]).f1 = (l'[i]).f1) = y
    cases x <;> cases y <;> rfl
theorem equal_f (k : Nat) (l l' : List S74) (hn : l.length ≤ 9223372036854775807) (hk : l.length < k) : api_Pair_37.f k l l' = some (eqL l l') := by
  unfold api_Pair_37.f
  by_cases he : l.length = l'.length
  · rw [if_pos (by omega)]
    exact equal_l0 l l' he hn l.length 0 k rfl (Nat.zero_le _) hk
  · rw [if_neg (by omega), eqL_len l l' he]
/-- Are two replies the same? -/
def sameP (p q : S41) : Bool := decide (p.f0 = q.f0) && (decide (p.f1 = q.f1) && (decide (p.f2 = q.f2) && (decide (p.f3 = q.f3) && (decide (p.f4 = q.f4) && ((p.f5 == q.f5) && (eqL p.f6 q.f6 && (p.f7 == q.f7)))))))
theorem sameP_self (p : S41) : sameP p p = true := by
  unfold sameP
  rw [eqL_self]
  simp
theorem same_f (k : Nat) (p q : S41) (hn : p.f6.length ≤ 9223372036854775807) (hk : p.f6.length < k) :
    wire_Same.f k p.f0 p.f1 p.f2 p.f3 p.f4 p.f5 p.f6 p.f7 q.f0 q.f1 q.f2 q.f3 q.f4 q.f5 q.f6 q.f7 = some (sameP p q) := by
  unfold wire_Same.f sameP
  rw [equal_f k _ _ hn hk, bsp]
  simp only [str_iff]
  by_cases c0 : p.f0 = q.f0
  · by_cases c1 : p.f1 = q.f1
    · by_cases c2 : p.f2 = q.f2
      · by_cases c3 : p.f3 = q.f3
        · by_cases c4 : p.f4 = q.f4
          · rw [if_pos c0, if_pos c1, if_pos c2, if_pos c3, if_pos c4, decide_eq_true c0, decide_eq_true c1, decide_eq_true c2, decide_eq_true c3, decide_eq_true c4]
            generalize (p.f5 == q.f5) = x
            generalize eqL p.f6 q.f6 = y
            cases x <;> cases y <;> rfl
          · rw [if_pos c0, if_pos c1, if_pos c2, if_pos c3, if_neg c4, decide_eq_true c0, decide_eq_true c1, decide_eq_true c2, decide_eq_true c3, decide_eq_false c4]
            rfl
        · rw [if_pos c0, if_pos c1, if_pos c2, if_neg c3, decide_eq_true c0, decide_eq_true c1, decide_eq_true c2, decide_eq_false c3]
          rfl
      · rw [if_pos c0, if_pos c1, if_neg c2, decide_eq_true c0, decide_eq_true c1, decide_eq_false c2]
        rfl
    · rw [if_pos c0, if_neg c1, decide_eq_true c0, decide_eq_false c1]
      rfl
  · rw [if_neg c0, decide_eq_false c0]
    rfl
theorem takeR_f (s : ByteArray) (hs : s.size ≤ 100000) : wire_TakeReply.f s = some (flatP (takeReplyF s)) := by
  unfold wire_TakeReply.f
  exact if_pos (by omega)
end Go.Proofs.YtlpcidjmaeicoaaDoor.Enc

/-! BackP -/
/- WireBack in plain Lean: a request, and a reply, that may be are taken from their bytes as they were. -/
namespace Go.Proofs.YtlpcidjmaeicoaaDoor.Enc
open Go Go.RowKit Go.Proofs.YtlpcidjmaeicoaaDoor.DecM Go.Proofs.YtlpcidjmaeicoaaDoor.Giv Go.Proofs.YtlpcidjmaeicoaaDoor.Wire Go.Proofs.YtlpcidjmaeicoaaDoor.Reader Go.Proofs.YtlpcidjmaeicoaaDoor.QWi Go.Proofs.YtlpcidjmaeicoaaDoorW.PrintWords

theorem back_j0 (k : Nat) (p : S41) : stanchionlaw16_WireBack.j0 (k + 19) true p.f0 p.f1 p.f2 p.f3 p.f4 p.f5 p.f6 p.f7 = some true := by
  rw [stanchionlaw16_WireBack.j0, reply_f, bsp]
  by_cases hm : mayP p = true
  · have hz := encP_size hm
    have hl := (mayP_is hm).2.2.2.2.2.1
    rw [if_pos hm, if_pos rfl]
    dsimp only
    rw [takeR_f _ (by omega), take_p hm, bsp]
    show ((wire_Same.f (k + 18) p.f0 p.f1 p.f2 p.f3 p.f4 p.f5 p.f6 p.f7 p.f0 p.f1 p.f2 p.f3 p.f4 p.f5 p.f6 p.f7).bind fun t => if t = true then (if (0 : Int) = 0 then some true else some false) else some false) = some true
    rw [same_f _ p p (by omega) (by omega), bsp, sameP_self]
    rfl
  · rw [if_neg hm]
    exact if_neg (by decide)
theorem fields_ne (a0 a1 a2 a3 : Int) (t : ByteArray) (o : Int) (y v l h : ByteArray) (m : Int) :
    (!(a0 == a0) || (!(a1 == a1) || (!(a2 == a2) || (!(a3 == a3) || (!(t.toList == t.toList) || ((!(o == o) || (!(y.toList == y.toList) || (!(v.toList == v.toList) || (!(l.toList == l.toList) || (!(h.toList == h.toList) || (!(m == m))))))))))))) = false := by
  simp only [beq_self_eq_true, Bool.not_true, Bool.or_self]
theorem Back (a0 a1 a2 a3 : Int) (t : ByteArray) (o : Int) (y v l h : ByteArray) (m : Int) (b0 b1 b2 b3 : Int) (b4 : ByteArray) (b5 : Bool) (b6 : List S74) (b7 : Bool) :
    ∃ k, stanchionlaw16_WireBack.f k a0 a1 a2 a3 t o y v l h m b0 b1 b2 b3 b4 b5 b6 b7 = some true := by
  refine ⟨0 + 19, ?_⟩
  have hj := back_j0 0 ⟨b0, b1, b2, b3, b4, b5, b6, b7⟩
  unfold stanchionlaw16_WireBack.f
  rw [shown_f, bsp, req_f, bsp]
  by_cases hm : mayQ a0 a1 a2 a3 t o y v l h m
  · rw [if_pos hm, if_pos rfl]
    unfold wire_TakeReq.f
    rw [bsp]
    dsimp only
    rw [take_of hm]
    dsimp only
    rw [fields_ne, if_neg (by decide), if_pos rfl]
    exact hj
  · rw [if_neg hm, if_neg (by decide)]
    exact hj
end Go.Proofs.YtlpcidjmaeicoaaDoor.Enc

/-! Laid -/
/- The one variable that the rows list, errors.errorType: what the condition gives a walk, and a world that meets it (after the worked proof Toyas). -/
namespace Go.Proofs.YtlpcidjmaeicoaaDoor.Laid
open Go Go.RowKit Go.ChangeShapes Go.WideShapes Go.ChangeAt

def list : List (String × DataW Unit) := [("errors.errorType", Rows.laid_errors_errorType)]
theorem et : Tryd.prog.globalNamed "errors.errorType" = some 0 := by kernel_rfl
theorem rt : (Tryd.prog.cutTypes.find? (·.1 == "internal/reflectlite.rtype")).map (·.2) = some 129 := by kernel_rfl
theorem oneRow : ((List.range 172).filter fun t => Tryd.prog.rowNamed t [101, 114, 114, 111, 114]) = [58] := by kernel_rfl
theorem size : Tryd.prog.types.size = 172 := by kernel_rfl
theorem handle_of_laid {W : World} (h : laidMetH Tryd.prog list W) : Reader.Handle W := by
  have h' : laidMet Tryd.prog [] W ∧ handlesMet Tryd.prog list W := h
  obtain ⟨name, u, ty, e1, e2, e3, e4, e5⟩ := h'.2 _ (List.mem_singleton.2 rfl)
  have en : name = [101, 114, 114, 111, 114] := (Option.some.inj e1).symm
  subst en
  obtain rfl := Option.some.inj (rt.symm.trans e2)
  have hm : ty ∈ (List.range 172).filter fun t => Tryd.prog.rowNamed t [101, 114, 114, 111, 114] := List.mem_filter.2 ⟨List.mem_range.2 (by rw [← size]; exact e3), e4⟩
  rw [oneRow] at hm
  obtain rfl := List.mem_singleton.1 hm
  have hh : typeHandle Tryd.prog 58 = .pointer (some ⟨1, 58, none⟩) := by kernel_rfl
  rw [hh] at e5
  unfold Reader.Handle
  simpa using World.var?_cell et e5 0
/-- A world that meets the condition: the settled one, the variable's cell laid. -/
noncomputable def world (os : Os) : World :=
  { World.holding Tryd.prog os ⟨#[], #[], []⟩ with heap := (World.holding Tryd.prog os ⟨#[], #[], []⟩).heap.modify 0 fun
      | .cells _ t frozen => .cells #[.iface 129 (.agg #[.pointer (some ⟨1, 58, none⟩)])] t frozen
      | o => o }
theorem world_met (os : Os) (args : Array Value) : laidMetH Tryd.prog list ((world os).forCall (fun _ _ => 0) ⟨#[], args, []⟩).memory :=
  laidMetH_of_parts (laidMet_nil _ _) (by kernel_rfl)
end Go.Proofs.YtlpcidjmaeicoaaDoor.Laid

/-! UpWireBack -/
/- WireBack returns true for every input that can be read, the package-level variable errors.errorType reading as its initialiser lays it (which the card ties to the program's text): the card, out of the printed contract and the plain law. -/
namespace Go.Proofs.YtlpcidjmaeicoaaDoor.wireBack
open Go.ChangeShapes Go.WideShapes Go.ChangeAt Go.RowKit
open Go.ChangeMaps (open_string shut_string)
set_option linter.unusedVariables false
theorem len6 {α : Type} {l : List α} (h : l.length = 6) : ∃ a0 a1 a2 a3 a4 a5, l = [a0, a1, a2, a3, a4, a5] :=
  match l, h with
  | [a0, a1, a2, a3, a4, a5], _ => ⟨a0, a1, a2, a3, a4, a5, rfl⟩
theorem len8 {α : Type} {l : List α} (h : l.length = 8) : ∃ a0 a1 a2 a3 a4 a5 a6 a7, l = [a0, a1, a2, a3, a4, a5, a6, a7] :=
  match l, h with
  | [a0, a1, a2, a3, a4, a5, a6, a7], _ => ⟨a0, a1, a2, a3, a4, a5, a6, a7, rfl⟩
theorem len11 {α : Type} {l : List α} (h : l.length = 11) : ∃ a0 a1 a2 a3 a4 a5 a6 a7 a8 a9 a10, l = [a0, a1, a2, a3, a4, a5, a6, a7, a8, a9, a10] :=
  match l, h with
  | [a0, a1, a2, a3, a4, a5, a6, a7, a8, a9, a10], _ => ⟨a0, a1, a2, a3, a4, a5, a6, a7, a8, a9, a10, rfl⟩
theorem own : ownKnob Tryd.prog.godebug = none := by kernel_rfl
theorem laidOut : laidOutB Tryd.prog = true := by kernel_rfl
theorem c3 : Tryd.prog.cellsOf 3 = 1 := by kernel_rfl
theorem c4 : Tryd.prog.cellsOf 4 = 1 := by kernel_rfl
theorem c9 : Tryd.prog.cellsOf 9 = 1 := by kernel_rfl
theorem c23 : Tryd.prog.cellsOf 23 = 6 := by kernel_rfl
theorem c25 : Tryd.prog.cellsOf 25 = 11 := by kernel_rfl
theorem c27 : Tryd.prog.cellsOf 27 = 1 := by kernel_rfl
theorem c39 : Tryd.prog.cellsOf 39 = 1 := by kernel_rfl
theorem c41 : Tryd.prog.cellsOf 41 = 8 := by kernel_rfl
set_option maxRecDepth 100000 in
theorem contract (H : Type) (enc : TypeId × Value → H) (W : World) (base : Nat) (args : Array Value) (ds gs : List (DataW H)) (before : List MemPlace)
    (hval0 : ∀ (j : Nat) t v, Tryd.f7.params[j]? = some t → args[j]? = some v → Value.okWide Tryd.prog W .any base t v)
    (hW : DataW.Whole enc Tryd.prog Tryd.f7.params.toList Rows.wireBackSpec.vars false W args.toList ds gs before) (hL : laidMetH Tryd.prog Rows.wireBackRow.laid W) :
    Calls Tryd.prog 7 args W fun e W' => ∃ v, e = .returned v ∧ Rows.wireBackSpec.post enc Tryd.prog Tryd.f7 false true false false W args v W' := by
  have hval : ∀ (j : Nat) t v, Tryd.f7.params[j]? = some t → args[j]? = some v → Value.okWide Tryd.prog W .any base t v := hval0
  have hW' := hW
  obtain ⟨p, q, hA0, hV, rfl, hfz, hnd⟩ := hW
  have hA : DataW.TrodAll enc Tryd.prog W 0 (fun _ => true) true Tryd.f7.params.toList args.toList ds p := hA0
  rw [Tryd.params7] at hA hval
  obtain ⟨v0, vs0, d0, ds0, p0, q0, hargs, rfl, rfl, h0, r0⟩ := trodAll_cons hA
  obtain ⟨v1, vs1, d1, ds1, p1, q1, rfl, rfl, rfl, h1, r1⟩ := trodAll_cons r0
  obtain ⟨rfl, rfl, rfl⟩ := trodAll_nil r1
  obtain rfl : args = #[v0, v1] := by cases args; simp_all
  obtain ⟨rfl, rfl⟩ := trodVars_none hV
  have h0k := h0
  obtain ⟨cs0, rfl, hs0⟩ := okWide_struct Tryd.underlying25 (hval 0 25 v0 rfl rfl)
  obtain ⟨lx0⟩ := cs0
  rw [c25] at hs0
  obtain ⟨c0_0c, c0_1c, c0_2c, c0_3c, c0_4c, c0_5c, c0_6c, c0_7c, c0_8c, c0_9c, c0_10c, rfl⟩ := len11 hs0
  obtain ⟨n0, f0⟩ := h0
  have f0x : DataW.trod enc Tryd.prog W 0 (fun _ => true) true n0 25 [c0_0c, c0_1c, c0_2c, c0_3c, c0_4c, c0_5c, c0_6c, c0_7c, c0_8c, c0_9c, c0_10c] = some (d0, p0) := f0
  obtain ⟨xs0, n0, _, ex0, _, hl0, hg0⟩ := DataW.trod_struct Tryd.underlying25 f0x
  obtain ⟨y0_0, y0_1, y0_2, y0_3, y0_4, y0_5, rfl⟩ := len6 hl0
  have eb0 := OpenRow.agg_bulk ex0
  simp only [Rows.uptoBulkAll, List.map_cons, List.map_nil] at eb0
  have g0_0 : DataW.trod enc Tryd.prog W 0 (fun _ => true) true n0 3 [c0_0c] = some y0_0 := by
    have z : DataW.trod enc Tryd.prog W 0 (fun _ => true) true n0 3 (([c0_0c, c0_1c, c0_2c, c0_3c, c0_4c, c0_5c, c0_6c, c0_7c, c0_8c, c0_9c, c0_10c].drop 0).take (Tryd.prog.cellsOf 3)) = [y0_0, y0_1, y0_2, y0_3, y0_4, y0_5][0]? := hg0 0 _ rfl
    rw [c3] at z
    exact z
  have g0_1 : DataW.trod enc Tryd.prog W 0 (fun _ => true) true n0 3 [c0_1c] = some y0_1 := by
    have z : DataW.trod enc Tryd.prog W 0 (fun _ => true) true n0 3 (([c0_0c, c0_1c, c0_2c, c0_3c, c0_4c, c0_5c, c0_6c, c0_7c, c0_8c, c0_9c, c0_10c].drop 1).take (Tryd.prog.cellsOf 3)) = [y0_0, y0_1, y0_2, y0_3, y0_4, y0_5][1]? := hg0 1 _ rfl
    rw [c3] at z
    exact z
  have g0_2 : DataW.trod enc Tryd.prog W 0 (fun _ => true) true n0 3 [c0_2c] = some y0_2 := by
    have z : DataW.trod enc Tryd.prog W 0 (fun _ => true) true n0 3 (([c0_0c, c0_1c, c0_2c, c0_3c, c0_4c, c0_5c, c0_6c, c0_7c, c0_8c, c0_9c, c0_10c].drop 2).take (Tryd.prog.cellsOf 3)) = [y0_0, y0_1, y0_2, y0_3, y0_4, y0_5][2]? := hg0 2 _ rfl
    rw [c3] at z
    exact z
  have g0_3 : DataW.trod enc Tryd.prog W 0 (fun _ => true) true n0 3 [c0_3c] = some y0_3 := by
    have z : DataW.trod enc Tryd.prog W 0 (fun _ => true) true n0 3 (([c0_0c, c0_1c, c0_2c, c0_3c, c0_4c, c0_5c, c0_6c, c0_7c, c0_8c, c0_9c, c0_10c].drop 3).take (Tryd.prog.cellsOf 3)) = [y0_0, y0_1, y0_2, y0_3, y0_4, y0_5][3]? := hg0 3 _ rfl
    rw [c3] at z
    exact z
  have g0_4 : DataW.trod enc Tryd.prog W 0 (fun _ => true) true n0 9 [c0_4c] = some y0_4 := by
    have z : DataW.trod enc Tryd.prog W 0 (fun _ => true) true n0 9 (([c0_0c, c0_1c, c0_2c, c0_3c, c0_4c, c0_5c, c0_6c, c0_7c, c0_8c, c0_9c, c0_10c].drop 4).take (Tryd.prog.cellsOf 9)) = [y0_0, y0_1, y0_2, y0_3, y0_4, y0_5][4]? := hg0 4 _ rfl
    rw [c9] at z
    exact z
  have g0_5 : DataW.trod enc Tryd.prog W 0 (fun _ => true) true n0 23 [c0_5c, c0_6c, c0_7c, c0_8c, c0_9c, c0_10c] = some y0_5 := by
    have z : DataW.trod enc Tryd.prog W 0 (fun _ => true) true n0 23 (([c0_0c, c0_1c, c0_2c, c0_3c, c0_4c, c0_5c, c0_6c, c0_7c, c0_8c, c0_9c, c0_10c].drop 5).take (Tryd.prog.cellsOf 23)) = [y0_0, y0_1, y0_2, y0_3, y0_4, y0_5][5]? := hg0 5 _ rfl
    rw [c23] at z
    exact z
  obtain ⟨a0_0, e0_0, q0_0, w0_0⟩ := DataW.trod_int Tryd.underlying3 g0_0
  simp only [List.cons.injEq, and_true] at e0_0
  subst e0_0
  obtain ⟨a0_1, e0_1, q0_1, w0_1⟩ := DataW.trod_int Tryd.underlying3 g0_1
  simp only [List.cons.injEq, and_true] at e0_1
  subst e0_1
  obtain ⟨a0_2, e0_2, q0_2, w0_2⟩ := DataW.trod_int Tryd.underlying3 g0_2
  simp only [List.cons.injEq, and_true] at e0_2
  subst e0_2
  obtain ⟨a0_3, e0_3, q0_3, w0_3⟩ := DataW.trod_int Tryd.underlying3 g0_3
  simp only [List.cons.injEq, and_true] at e0_3
  subst e0_3
  obtain ⟨a0_4, e0_4, q0_4, w0_4⟩ := DataW.trod_string Tryd.underlying9 g0_4
  simp only [List.cons.injEq, and_true] at e0_4
  subst e0_4
  have b0_4 := OpenRow.str_bulk q0_4
  obtain ⟨xs0_5, n0_5, _, ex0_5, _, hl0_5, hg0_5⟩ := DataW.trod_struct Tryd.underlying23 g0_5
  obtain ⟨y0_5_0, y0_5_1, y0_5_2, y0_5_3, y0_5_4, y0_5_5, rfl⟩ := len6 hl0_5
  have eb0_5 := OpenRow.agg_bulk1 ex0_5
  simp only [Rows.uptoBulkAll, List.map_cons, List.map_nil] at eb0_5
  have g0_5_0 : DataW.trod enc Tryd.prog W 0 (fun _ => true) true n0_5 3 [c0_5c] = some y0_5_0 := by
    have z : DataW.trod enc Tryd.prog W 0 (fun _ => true) true n0_5 3 (([c0_5c, c0_6c, c0_7c, c0_8c, c0_9c, c0_10c].drop 0).take (Tryd.prog.cellsOf 3)) = [y0_5_0, y0_5_1, y0_5_2, y0_5_3, y0_5_4, y0_5_5][0]? := hg0_5 0 _ rfl
    rw [c3] at z
    exact z
  have g0_5_1 : DataW.trod enc Tryd.prog W 0 (fun _ => true) true n0_5 9 [c0_6c] = some y0_5_1 := by
    have z : DataW.trod enc Tryd.prog W 0 (fun _ => true) true n0_5 9 (([c0_5c, c0_6c, c0_7c, c0_8c, c0_9c, c0_10c].drop 1).take (Tryd.prog.cellsOf 9)) = [y0_5_0, y0_5_1, y0_5_2, y0_5_3, y0_5_4, y0_5_5][1]? := hg0_5 1 _ rfl
    rw [c9] at z
    exact z
  have g0_5_2 : DataW.trod enc Tryd.prog W 0 (fun _ => true) true n0_5 9 [c0_7c] = some y0_5_2 := by
    have z : DataW.trod enc Tryd.prog W 0 (fun _ => true) true n0_5 9 (([c0_5c, c0_6c, c0_7c, c0_8c, c0_9c, c0_10c].drop 2).take (Tryd.prog.cellsOf 9)) = [y0_5_0, y0_5_1, y0_5_2, y0_5_3, y0_5_4, y0_5_5][2]? := hg0_5 2 _ rfl
    rw [c9] at z
    exact z
  have g0_5_3 : DataW.trod enc Tryd.prog W 0 (fun _ => true) true n0_5 9 [c0_8c] = some y0_5_3 := by
    have z : DataW.trod enc Tryd.prog W 0 (fun _ => true) true n0_5 9 (([c0_5c, c0_6c, c0_7c, c0_8c, c0_9c, c0_10c].drop 3).take (Tryd.prog.cellsOf 9)) = [y0_5_0, y0_5_1, y0_5_2, y0_5_3, y0_5_4, y0_5_5][3]? := hg0_5 3 _ rfl
    rw [c9] at z
    exact z
  have g0_5_4 : DataW.trod enc Tryd.prog W 0 (fun _ => true) true n0_5 9 [c0_9c] = some y0_5_4 := by
    have z : DataW.trod enc Tryd.prog W 0 (fun _ => true) true n0_5 9 (([c0_5c, c0_6c, c0_7c, c0_8c, c0_9c, c0_10c].drop 4).take (Tryd.prog.cellsOf 9)) = [y0_5_0, y0_5_1, y0_5_2, y0_5_3, y0_5_4, y0_5_5][4]? := hg0_5 4 _ rfl
    rw [c9] at z
    exact z
  have g0_5_5 : DataW.trod enc Tryd.prog W 0 (fun _ => true) true n0_5 3 [c0_10c] = some y0_5_5 := by
    have z : DataW.trod enc Tryd.prog W 0 (fun _ => true) true n0_5 3 (([c0_5c, c0_6c, c0_7c, c0_8c, c0_9c, c0_10c].drop 5).take (Tryd.prog.cellsOf 3)) = [y0_5_0, y0_5_1, y0_5_2, y0_5_3, y0_5_4, y0_5_5][5]? := hg0_5 5 _ rfl
    rw [c3] at z
    exact z
  obtain ⟨a0_5_0, e0_5_0, q0_5_0, w0_5_0⟩ := DataW.trod_int Tryd.underlying3 g0_5_0
  simp only [List.cons.injEq, and_true] at e0_5_0
  subst e0_5_0
  obtain ⟨a0_5_1, e0_5_1, q0_5_1, w0_5_1⟩ := DataW.trod_string Tryd.underlying9 g0_5_1
  simp only [List.cons.injEq, and_true] at e0_5_1
  subst e0_5_1
  have b0_5_1 := OpenRow.str_bulk q0_5_1
  obtain ⟨a0_5_2, e0_5_2, q0_5_2, w0_5_2⟩ := DataW.trod_string Tryd.underlying9 g0_5_2
  simp only [List.cons.injEq, and_true] at e0_5_2
  subst e0_5_2
  have b0_5_2 := OpenRow.str_bulk q0_5_2
  obtain ⟨a0_5_3, e0_5_3, q0_5_3, w0_5_3⟩ := DataW.trod_string Tryd.underlying9 g0_5_3
  simp only [List.cons.injEq, and_true] at e0_5_3
  subst e0_5_3
  have b0_5_3 := OpenRow.str_bulk q0_5_3
  obtain ⟨a0_5_4, e0_5_4, q0_5_4, w0_5_4⟩ := DataW.trod_string Tryd.underlying9 g0_5_4
  simp only [List.cons.injEq, and_true] at e0_5_4
  subst e0_5_4
  have b0_5_4 := OpenRow.str_bulk q0_5_4
  obtain ⟨a0_5_5, e0_5_5, q0_5_5, w0_5_5⟩ := DataW.trod_int Tryd.underlying3 g0_5_5
  simp only [List.cons.injEq, and_true] at e0_5_5
  subst e0_5_5
  have h1k := h1
  obtain ⟨cs1, rfl, hs1⟩ := okWide_struct Tryd.underlying41 (hval 1 41 v1 rfl rfl)
  obtain ⟨lx1⟩ := cs1
  rw [c41] at hs1
  obtain ⟨c1_0c, c1_1c, c1_2c, c1_3c, c1_4c, c1_5c, c1_6c, c1_7c, rfl⟩ := len8 hs1
  obtain ⟨n1, f1⟩ := h1
  have f1x : DataW.trod enc Tryd.prog W 0 (fun _ => true) true n1 41 [c1_0c, c1_1c, c1_2c, c1_3c, c1_4c, c1_5c, c1_6c, c1_7c] = some (d1, p1) := f1
  obtain ⟨xs1, n1, _, ex1, _, hl1, hg1⟩ := DataW.trod_struct Tryd.underlying41 f1x
  obtain ⟨y1_0, y1_1, y1_2, y1_3, y1_4, y1_5, y1_6, y1_7, rfl⟩ := len8 hl1
  have eb1 := OpenRow.agg_bulk ex1
  simp only [Rows.uptoBulkAll, List.map_cons, List.map_nil] at eb1
  have g1_0 : DataW.trod enc Tryd.prog W 0 (fun _ => true) true n1 3 [c1_0c] = some y1_0 := by
    have z : DataW.trod enc Tryd.prog W 0 (fun _ => true) true n1 3 (([c1_0c, c1_1c, c1_2c, c1_3c, c1_4c, c1_5c, c1_6c, c1_7c].drop 0).take (Tryd.prog.cellsOf 3)) = [y1_0, y1_1, y1_2, y1_3, y1_4, y1_5, y1_6, y1_7][0]? := hg1 0 _ rfl
    rw [c3] at z
    exact z
  have g1_1 : DataW.trod enc Tryd.prog W 0 (fun _ => true) true n1 3 [c1_1c] = some y1_1 := by
    have z : DataW.trod enc Tryd.prog W 0 (fun _ => true) true n1 3 (([c1_0c, c1_1c, c1_2c, c1_3c, c1_4c, c1_5c, c1_6c, c1_7c].drop 1).take (Tryd.prog.cellsOf 3)) = [y1_0, y1_1, y1_2, y1_3, y1_4, y1_5, y1_6, y1_7][1]? := hg1 1 _ rfl
    rw [c3] at z
    exact z
  have g1_2 : DataW.trod enc Tryd.prog W 0 (fun _ => true) true n1 3 [c1_2c] = some y1_2 := by
    have z : DataW.trod enc Tryd.prog W 0 (fun _ => true) true n1 3 (([c1_0c, c1_1c, c1_2c, c1_3c, c1_4c, c1_5c, c1_6c, c1_7c].drop 2).take (Tryd.prog.cellsOf 3)) = [y1_0, y1_1, y1_2, y1_3, y1_4, y1_5, y1_6, y1_7][2]? := hg1 2 _ rfl
    rw [c3] at z
    exact z
  have g1_3 : DataW.trod enc Tryd.prog W 0 (fun _ => true) true n1 27 [c1_3c] = some y1_3 := by
    have z : DataW.trod enc Tryd.prog W 0 (fun _ => true) true n1 27 (([c1_0c, c1_1c, c1_2c, c1_3c, c1_4c, c1_5c, c1_6c, c1_7c].drop 3).take (Tryd.prog.cellsOf 27)) = [y1_0, y1_1, y1_2, y1_3, y1_4, y1_5, y1_6, y1_7][3]? := hg1 3 _ rfl
    rw [c27] at z
    exact z
  have g1_4 : DataW.trod enc Tryd.prog W 0 (fun _ => true) true n1 9 [c1_4c] = some y1_4 := by
    have z : DataW.trod enc Tryd.prog W 0 (fun _ => true) true n1 9 (([c1_0c, c1_1c, c1_2c, c1_3c, c1_4c, c1_5c, c1_6c, c1_7c].drop 4).take (Tryd.prog.cellsOf 9)) = [y1_0, y1_1, y1_2, y1_3, y1_4, y1_5, y1_6, y1_7][4]? := hg1 4 _ rfl
    rw [c9] at z
    exact z
  have g1_5 : DataW.trod enc Tryd.prog W 0 (fun _ => true) true n1 4 [c1_5c] = some y1_5 := by
    have z : DataW.trod enc Tryd.prog W 0 (fun _ => true) true n1 4 (([c1_0c, c1_1c, c1_2c, c1_3c, c1_4c, c1_5c, c1_6c, c1_7c].drop 5).take (Tryd.prog.cellsOf 4)) = [y1_0, y1_1, y1_2, y1_3, y1_4, y1_5, y1_6, y1_7][5]? := hg1 5 _ rfl
    rw [c4] at z
    exact z
  have g1_6 : DataW.trod enc Tryd.prog W 0 (fun _ => true) true n1 39 [c1_6c] = some y1_6 := by
    have z : DataW.trod enc Tryd.prog W 0 (fun _ => true) true n1 39 (([c1_0c, c1_1c, c1_2c, c1_3c, c1_4c, c1_5c, c1_6c, c1_7c].drop 6).take (Tryd.prog.cellsOf 39)) = [y1_0, y1_1, y1_2, y1_3, y1_4, y1_5, y1_6, y1_7][6]? := hg1 6 _ rfl
    rw [c39] at z
    exact z
  have g1_7 : DataW.trod enc Tryd.prog W 0 (fun _ => true) true n1 4 [c1_7c] = some y1_7 := by
    have z : DataW.trod enc Tryd.prog W 0 (fun _ => true) true n1 4 (([c1_0c, c1_1c, c1_2c, c1_3c, c1_4c, c1_5c, c1_6c, c1_7c].drop 7).take (Tryd.prog.cellsOf 4)) = [y1_0, y1_1, y1_2, y1_3, y1_4, y1_5, y1_6, y1_7][7]? := hg1 7 _ rfl
    rw [c4] at z
    exact z
  obtain ⟨a1_0, e1_0, q1_0, w1_0⟩ := DataW.trod_int Tryd.underlying3 g1_0
  simp only [List.cons.injEq, and_true] at e1_0
  subst e1_0
  obtain ⟨a1_1, e1_1, q1_1, w1_1⟩ := DataW.trod_int Tryd.underlying3 g1_1
  simp only [List.cons.injEq, and_true] at e1_1
  subst e1_1
  obtain ⟨a1_2, e1_2, q1_2, w1_2⟩ := DataW.trod_int Tryd.underlying3 g1_2
  simp only [List.cons.injEq, and_true] at e1_2
  subst e1_2
  obtain ⟨a1_3, e1_3, q1_3, w1_3⟩ := DataW.trod_int Tryd.underlying27 g1_3
  simp only [List.cons.injEq, and_true] at e1_3
  subst e1_3
  obtain ⟨a1_4, e1_4, q1_4, w1_4⟩ := DataW.trod_string Tryd.underlying9 g1_4
  simp only [List.cons.injEq, and_true] at e1_4
  subst e1_4
  have b1_4 := OpenRow.str_bulk q1_4
  obtain ⟨a1_5, e1_5, q1_5⟩ := DataW.trod_bool Tryd.underlying4 g1_5
  simp only [List.cons.injEq, and_true] at e1_5
  subst e1_5
  obtain ⟨A1_6, n1_6q, c1_6, es1_6⟩ := OpenRow.slice_value1 Tryd.underlying39 g1_6
  subst es1_6
  obtain ⟨l1_6, en1_6, hr1_6, hc1_6, b1_6, w1_6⟩ := OpenPairs.open_pairs g1_6
  subst en1_6
  obtain ⟨a1_7, e1_7, q1_7⟩ := DataW.trod_bool Tryd.underlying4 g1_7
  simp only [List.cons.injEq, and_true] at e1_7
  subst e1_7
  clear hA0 hval0
  have hlt0 : ∀ x ∈ p0, x.block < W.heap.size := by
    obtain ⟨m0, hm0⟩ := h0k
    exact DataW.trod_lt m0 _ _ _ hm0
  have hlt1 : ∀ x ∈ p1, x.block < W.heap.size := by
    obtain ⟨m1, hm1⟩ := h1k
    exact DataW.trod_lt m1 _ _ _ hm1
  obtain ⟨k, hk⟩ := Enc.Back a0_0 a0_1 a0_2 a0_3 a0_4 a0_5_0 a0_5_1 a0_5_2 a0_5_3 a0_5_4 a0_5_5 a1_0 a1_1 a1_2 a1_3 a1_4 a1_5 l1_6 a1_7 
  refine (QWi.stanchionlaw16_WireBack.calls k a0_0 a0_1 a0_2 a0_3 a0_4 a0_5_0 a0_5_1 a0_5_2 a0_5_3 a0_5_4 a0_5_5 a1_0 a1_1 a1_2 a1_3 a1_4 a1_5 A1_6 c1_6 l1_6 a1_7 true W hr1_6 hc1_6 hk rfl (Laid.handle_of_laid hL)).mono fun e W' ⟨he, bel⟩ => ?_
  subst he
  exact ⟨_, rfl, _, _, _, [], _, [], hW', trodAll_mk1 (shut_bool Tryd.underlying4 _), (trodAll_cons_mk (Below.trod laidOut (by kernel_rfl) (of_decide_eq_true (by kernel_rfl)) h0k bel hlt0) (trodAll_cons_mk (Below.trod laidOut (by kernel_rfl) (of_decide_eq_true (by kernel_rfl)) h1k bel hlt1) trodAll_mk0)), rfl, bel.frame _, fun h => by cases h⟩
theorem reads (os : Os) {H : Type} (enc : TypeId × Value → H) : ∃ places, DataW.whole enc Tryd.prog ((Laid.world os).forCall (fun _ _ => 0) ⟨#[], #[.agg #[.int .i64 0, .int .i64 0, .int .i64 0, .int .i64 0, .string ByteArray.empty, .int .i64 0, .string ByteArray.empty, .string ByteArray.empty, .string ByteArray.empty, .string ByteArray.empty, .int .i64 0], .agg #[.int .i64 0, .int .i64 0, .int .i64 0, .int .i64 0, .string ByteArray.empty, .bool false, .slice none 0 0, .bool false]], []⟩).memory Tryd.f7.params.toList Rows.wireBackSpec.vars false (#[.agg #[.int .i64 0, .int .i64 0, .int .i64 0, .int .i64 0, .string ByteArray.empty, .int .i64 0, .string ByteArray.empty, .string ByteArray.empty, .string ByteArray.empty, .string ByteArray.empty, .int .i64 0], .agg #[.int .i64 0, .int .i64 0, .int .i64 0, .int .i64 0, .string ByteArray.empty, .bool false, .slice none 0 0, .bool false]] : Array Value).toList 8 = some ([.agg [.lit (.int .i64 0), .lit (.int .i64 0), .lit (.int .i64 0), .lit (.int .i64 0), .lit (.string []), .agg [.lit (.int .i64 0), .lit (.string []), .lit (.string []), .lit (.string []), .lit (.string []), .lit (.int .i64 0)]], .agg [.lit (.int .i64 0), .lit (.int .i64 0), .lit (.int .i64 0), .lit (.int .i64 0), .lit (.string []), .lit (.bool false), .nil, .lit (.bool false)]], [], places) :=
  ⟨[], by kernel_rfl⟩
set_option maxRecDepth 100000 in
theorem lifted (os : Os) (started : os.Started) (H : Type) (enc : TypeId × Value → H) (F : Stop.Interp) :
    ReturnsInHanded {} Tryd.checked os 7 .any ((OpenSpec.ofChange Rows.wireBackSpec).preRow enc Tryd.prog Tryd.f7 Rows.wireBackRow.domain false Rows.wireBackRow.laid) (((OpenSpec.ofChange Rows.wireBackSpec).at F).post enc Tryd.prog Tryd.f7 false true false false) := by
  obtain ⟨places, hx⟩ := reads os enc
  refine returnsInHanded_of_row (C := Tryd.checked) (s := OpenSpec.ofChange Rows.wireBackSpec) own started (by kernel_rfl) Tryd.func7
    (witness_row_at (enc := enc) (C := Tryd.checked) false (Laid.world os) #[.agg #[.int .i64 0, .int .i64 0, .int .i64 0, .int .i64 0, .string ByteArray.empty, .int .i64 0, .string ByteArray.empty, .string ByteArray.empty, .string ByteArray.empty, .string ByteArray.empty, .int .i64 0], .agg #[.int .i64 0, .int .i64 0, .int .i64 0, .int .i64 0, .string ByteArray.empty, .bool false, .slice none 0 0, .bool false]] rfl (by kernel_rfl) (by kernel_rfl) (by kernel_rfl)
      (OpenSpec.preRow_of_cond 8 hx (by kernel_rfl) (fun k hk => by cases hk) (by kernel_rfl) (Laid.world_met os _))) ?_
  intro W base args ds gs before hval hW _ _ _ hL _ _
  exact contract H enc W base args ds gs before hval hW hL
theorem said : Rows.WireBackSaid :=
  OpenClaim.holds_of_cond 7 Tryd.f7 rfl rfl rfl rfl rfl rfl rfl ⟨rfl, rfl, rfl, rfl, rfl⟩ rfl rfl rfl rfl rfl (by kernel_rfl) Tryd.func7 (by kernel_rfl)
    (of_decide_eq_true (by kernel_rfl)) (by unfold Func.isWrapper; first | (rw [if_pos (by decide +kernel)]; kernel_rfl) | (rw [if_neg (by decide +kernel)]; exact ⟨rfl, rfl⟩))
    (fun os started H enc _ F => by rw [OpenClaim.pre_eq_preRow]; exact lifted os started H enc F)
theorem plain (f : FuncId) (fn : Func) (hf : Tryd.pinned.checked.prog.funcNamed "stanchion/stanchionlaw16.WireBack" = some f) (hfn : Tryd.pinned.checked.prog.funcs[f]? = some fn) :
    true = Tryd.pinned.checked.prog.looks [] ∧ ∀ (j : Nat) t, fn.params[j]? = some t → Tryd.pinned.checked.prog.wantsStandIn t = false := by
  obtain rfl : f = 7 := Option.some.inj ((show Tryd.prog.funcNamed "stanchion/stanchionlaw16.WireBack" = some 7 by kernel_rfl).symm.trans hf) |>.symm
  obtain rfl : fn = Tryd.f7 := (Option.some.inj (Tryd.func7.symm.trans hfn)).symm
  refine ⟨by kernel_rfl, fun j t ht => ?_⟩
  rw [Tryd.params7] at ht
  have hm := Array.mem_of_getElem? ht
  simp only [List.mem_toArray, List.mem_cons, List.not_mem_nil, or_false] at hm
  rcases hm with rfl | rfl
  · exact (show Tryd.prog.wantsStandIn 25 = false by kernel_rfl)
  · exact (show Tryd.prog.wantsStandIn 41 = false by kernel_rfl)
/-- The card. -/
theorem proved : Rows.WireBackCardSaid :=
  Claim7.holds_tied_plain_at .later [] _ _ _ _ said (fun _ h => by cases h) (by kernel_rfl) (fun _ h => by cases h) wireBack_row_tie rfl ⟨rfl, rfl⟩ (by kernel_rfl) rfl plain (by kernel_rfl)
#print axioms proved
end Go.Proofs.YtlpcidjmaeicoaaDoor.wireBack
namespace Go.Proofs.YtlpcidjmaeicoaaDoor
/-- The card, under a short name, for the claim. -/
theorem wireBack_card : Rows.WireBackCardSaid := wireBack.proved
end Go.Proofs.YtlpcidjmaeicoaaDoor
