/- Of requests that are not the same the bytes are not the same; what is taken was written so (the statement WireApart, as a card). Condition: the package variable errors.errorType holds what the program's text lays there (the given tie) (texts QWixA, Was, Enc, ReqP, ApartP, OpenRow, Laid, UpWireApart) -/
import Derived.Test.YtlpcidjmaeicoaaDoorRows
import Derived.SliceStrings
import Derived.ChangeSlices
import Derived.Test.YtlpcidjmaeicoaaDoorCards
import Derived.Test.YtlpcidjmaeicoaaDoorTie
import Derived.RowKit
import Derived.LaidLaws
import Derived.LaidHandle
import Derived.Deep.DeepHandedRow
import Derived.Lib.LaidTab
import Derived.WalkKit
import Derived.ProofKit
import Derived.OpenShut
import Derived.ShutString
import Derived.ChangeOld
import Derived.Below
import Derived.Carry
import Derived.SevenTiedAt
import Derived.Test.YtlpcidjmaeicoaaDoorPA2
/-! QWixA -/
namespace Go.Proofs.YtlpcidjmaeicoaaDoor.QWi
open Go.RowKit Go.Proofs.YtlpcidjmaeicoaaDoorW.PrintWords Go.Proofs.YtlpcidjmaeicoaaDoorW.PrintLast Go.Proofs.YtlpcidjmaeicoaaDoorW.PrintMore
attribute [local go_sem] max2_int min2_int max_two min_two max_three min_three max_four min_four   -- for this text's walks alone
set_option linter.unusedVariables false
set_option linter.unusedSimpArgs false

attribute [local go_sem high] eqA25
-- NOT PRINTED: function 45 (wire_reader_took)

-- NOT PRINTED: function 25 (wire_reader_num)

-- NOT PRINTED: function 26 (wire_reader_text)

-- NOT PRINTED: function 57 (reflectlite_ValueOf)

-- NOT PRINTED: function 58 (reflectlite_Value_Type)

-- NOT PRINTED: function 59 (reflectlite_Value_IsNil)

-- NOT PRINTED: function 61 (reflectlite_TypeOf)

-- NOT PRINTED: function 66 (reflectlite_Value_Elem)

-- NOT PRINTED: function 67 (reflectlite_Value_Set)

-- NOT PRINTED: function 60 (errors_as)

-- NOT PRINTED: function 47 (errors_As)

-- NOT PRINTED: function 62 (errors_is)

-- NOT PRINTED: function 48 (errors_Is)

-- NOT PRINTED: function 27 (wire_reader_end)

/-! ### stanchionlaw16_WireApart: function 4 -/
def stanchionlaw16_WireApart.j0 : Nat → ByteArray → Bool → Bool → Option (Bool)
  | 0, _, _, _ => none
  | k + 1, x2, x7, x41 => if x41 = true then (some false) else ((wire_TakeReq.f x2).bind fun bt284 => (if bt284.2.2.2.2.2.2.2.2.2.2.2 = 0 then ((wire_Req.f k bt284.1 bt284.2.1 bt284.2.2.1 bt284.2.2.2.1 bt284.2.2.2.2.1 bt284.2.2.2.2.2.1 bt284.2.2.2.2.2.2.1 bt284.2.2.2.2.2.2.2.1 bt284.2.2.2.2.2.2.2.2.1 bt284.2.2.2.2.2.2.2.2.2.1 bt284.2.2.2.2.2.2.2.2.2.2.1).bind fun bt297 => (if bt297.1.toList = x2.toList then (if bt297.2 = 0 then (some x7) else (some false)) else (some false))) else (some x7)))
def stanchionlaw16_WireApart.f (k : Nat) (a0_0 : Int) (a0_1 : Int) (a0_2 : Int) (a0_3 : Int) (a0_4 : ByteArray) (a0_5 : Int) (a0_6 : ByteArray) (a0_7 : ByteArray) (a0_8 : ByteArray) (a0_9 : ByteArray) (a0_10 : Int) (a1_0 : Int) (a1_1 : Int) (a1_2 : Int) (a1_3 : Int) (a1_4 : ByteArray) (a1_5 : Int) (a1_6 : ByteArray) (a1_7 : ByteArray) (a1_8 : ByteArray) (a1_9 : ByteArray) (a1_10 : Int) (a2 : ByteArray) : Option (Bool) := (stanchionlaw16_shown.f k).bind fun t279 => ((wire_Req.f k a0_0 a0_1 a0_2 a0_3 a0_4 a0_5 a0_6 a0_7 a0_8 a0_9 a0_10).bind fun bt280 => ((wire_Req.f k a1_0 a1_1 a1_2 a1_3 a1_4 a1_5 a1_6 a1_7 a1_8 a1_9 a1_10).bind fun bt282 => (if bt280.2 = 0 then (if bt282.2 = 0 then (stanchionlaw16_WireApart.j0 k a2 t279 ((bt280.1.toList == bt282.1.toList) != (a0_0 == a1_0 && (a0_1 == a1_1 && (a0_2 == a1_2 && (a0_3 == a1_3 && (a0_4.toList == a1_4.toList && ((a0_5 == a1_5 && (a0_6.toList == a1_6.toList && (a0_7.toList == a1_7.toList && (a0_8.toList == a1_8.toList && (a0_9.toList == a1_9.toList && (a0_10 == a1_10)))))))))))))) else (stanchionlaw16_WireApart.j0 k a2 t279 false)) else (stanchionlaw16_WireApart.j0 k a2 t279 false))))
set_option maxHeartbeats 8000000 in
set_option maxRecDepth 100000 in
theorem stanchionlaw16_WireApart.calls (k : Nat) (a0_0 : Int) (a0_1 : Int) (a0_2 : Int) (a0_3 : Int) (a0_4 : ByteArray) (a0_5 : Int) (a0_6 : ByteArray) (a0_7 : ByteArray) (a0_8 : ByteArray) (a0_9 : ByteArray) (a0_10 : Int) (a1_0 : Int) (a1_1 : Int) (a1_2 : Int) (a1_3 : Int) (a1_4 : ByteArray) (a1_5 : Int) (a1_6 : ByteArray) (a1_7 : ByteArray) (a1_8 : ByteArray) (a1_9 : ByteArray) (a1_10 : Int) (a2 : ByteArray) (r : Bool) (w : World) (h : stanchionlaw16_WireApart.f k a0_0 a0_1 a0_2 a0_3 a0_4 a0_5 a0_6 a0_7 a0_8 a0_9 a0_10 a1_0 a1_1 a1_2 a1_3 a1_4 a1_5 a1_6 a1_7 a1_8 a1_9 a1_10 a2 = some r) (hr0 : r = true) (hgl0 : Go.Proofs.YtlpcidjmaeicoaaDoor.Reader.Handle w) :
    Calls Tryd.prog 4 #[.agg #[.int .i64 a0_0, .int .i64 a0_1, .int .i64 a0_2, .int .i64 a0_3, .string a0_4, .int .i64 a0_5, .string a0_6, .string a0_7, .string a0_8, .string a0_9, .int .i64 a0_10], .agg #[.int .i64 a1_0, .int .i64 a1_1, .int .i64 a1_2, .int .i64 a1_3, .string a1_4, .int .i64 a1_5, .string a1_6, .string a1_7, .string a1_8, .string a1_9, .int .i64 a1_10], .string a2] w fun e w' => e = .returned (.bool r) ∧ Below w.heap.size w w' := by
  have hr := Aside0.mk hr0
  clear hr0
  have HGL := Aside0.mk hgl0
  clear hgl0
  have hu25 := Tryd.underlying25
  have HB := Aside0.mk (Below.refl w.heap.size w)
  have H : ((stanchionlaw16_shown.f k).bind fun t279 => ((wire_Req.f k a0_0 a0_1 a0_2 a0_3 a0_4 a0_5 a0_6 a0_7 a0_8 a0_9 a0_10).bind fun bt280 => ((wire_Req.f k a1_0 a1_1 a1_2 a1_3 a1_4 a1_5 a1_6 a1_7 a1_8 a1_9 a1_10).bind fun bt282 => (if bt280.2 = 0 then (if bt282.2 = 0 then (stanchionlaw16_WireApart.j0 k a2 t279 ((bt280.1.toList == bt282.1.toList) != (a0_0 == a1_0 && (a0_1 == a1_1 && (a0_2 == a1_2 && (a0_3 == a1_3 && (a0_4.toList == a1_4.toList && ((a0_5 == a1_5 && (a0_6.toList == a1_6.toList && (a0_7.toList == a1_7.toList && (a0_8.toList == a1_8.toList && (a0_9.toList == a1_9.toList && (a0_10 == a1_10)))))))))))))) else (stanchionlaw16_WireApart.j0 k a2 t279 false)) else (stanchionlaw16_WireApart.j0 k a2 t279 false))))) = some r := h
  clear h
  replace H := Option.bind_eq_some_iff.mp H
  obtain ⟨t279, A40, H⟩ := H
  replace H : ((wire_Req.f k a0_0 a0_1 a0_2 a0_3 a0_4 a0_5 a0_6 a0_7 a0_8 a0_9 a0_10).bind fun bt280 => ((wire_Req.f k a1_0 a1_1 a1_2 a1_3 a1_4 a1_5 a1_6 a1_7 a1_8 a1_9 a1_10).bind fun bt282 => (if bt280.2 = 0 then (if bt282.2 = 0 then (stanchionlaw16_WireApart.j0 k a2 t279 ((bt280.1.toList == bt282.1.toList) != (a0_0 == a1_0 && (a0_1 == a1_1 && (a0_2 == a1_2 && (a0_3 == a1_3 && (a0_4.toList == a1_4.toList && ((a0_5 == a1_5 && (a0_6.toList == a1_6.toList && (a0_7.toList == a1_7.toList && (a0_8.toList == a1_8.toList && (a0_9.toList == a1_9.toList && (a0_10 == a1_10)))))))))))))) else (stanchionlaw16_WireApart.j0 k a2 t279 false)) else (stanchionlaw16_WireApart.j0 k a2 t279 false)))) = some r := H
  have A4 := Aside0.mk A40
  clear A40
  replace H := Option.bind_eq_some_iff.mp H
  obtain ⟨⟨t280, t281⟩, A50, H⟩ := H
  replace H : ((wire_Req.f k a1_0 a1_1 a1_2 a1_3 a1_4 a1_5 a1_6 a1_7 a1_8 a1_9 a1_10).bind fun bt282 => (if t281 = 0 then (if bt282.2 = 0 then (stanchionlaw16_WireApart.j0 k a2 t279 ((t280.toList == bt282.1.toList) != (a0_0 == a1_0 && (a0_1 == a1_1 && (a0_2 == a1_2 && (a0_3 == a1_3 && (a0_4.toList == a1_4.toList && ((a0_5 == a1_5 && (a0_6.toList == a1_6.toList && (a0_7.toList == a1_7.toList && (a0_8.toList == a1_8.toList && (a0_9.toList == a1_9.toList && (a0_10 == a1_10)))))))))))))) else (stanchionlaw16_WireApart.j0 k a2 t279 false)) else (stanchionlaw16_WireApart.j0 k a2 t279 false))) = some r := H
  have A5 := Aside0.mk A50
  clear A50
  replace H := Option.bind_eq_some_iff.mp H
  obtain ⟨⟨t282, t283⟩, A60, H⟩ := H
  replace H : (if t281 = 0 then (if t283 = 0 then (stanchionlaw16_WireApart.j0 k a2 t279 ((t280.toList == t282.toList) != (a0_0 == a1_0 && (a0_1 == a1_1 && (a0_2 == a1_2 && (a0_3 == a1_3 && (a0_4.toList == a1_4.toList && ((a0_5 == a1_5 && (a0_6.toList == a1_6.toList && (a0_7.toList == a1_7.toList && (a0_8.toList == a1_8.toList && (a0_9.toList == a1_9.toList && (a0_10 == a1_10)))))))))))))) else (stanchionlaw16_WireApart.j0 k a2 t279 false)) else (stanchionlaw16_WireApart.j0 k a2 t279 false)) = some r := H
  have A6 := Aside0.mk A60
  clear A60
  have HC7 := Aside0.mk H
  clear H
  go_enter Tryd.func4, Tryd.ntmps4
  go_upto_region 4 with (first | ((with_reducible refine gate_dst (N := 3) rfl ?_); refine box_event ?hg (N := 3) ?hd (cs := #[.int .i64 a0_0, .int .i64 a0_1, .int .i64 a0_2, .int .i64 a0_3, .string a0_4, .int .i64 a0_5, .string a0_6, .string a0_7, .string a0_8, .string a0_9, .int .i64 a0_10]) (t := 25) ?hr ?_; (case hd => rfl); (case hg => rfl); (case hr => first | (go_simp; done) | (go_simp; rfl)); intro gb277 hg w8 hbox hb; have n0_ := Aside0.mk (below_step (by repeat (first | (with_reducible first | exact HB.out | apply below_alloc | apply pw_below_drewN | apply below_drew1) | exact HB.out)) hb); have n1_ := Aside0.mk (hbox); have n2_ := Aside0.mk ((by rw [hg]; exact (below_size (by repeat (first | (with_reducible first | exact HB.out | apply below_alloc | apply pw_below_drewN | apply below_drew1) | exact HB.out))) : w.heap.size ≤ gb277)); have n3_ := Aside0.mk ((by rw [hg]; exact (below_size (by repeat (first | (with_reducible first | exact HB.out | apply below_alloc | apply pw_below_drewN | apply below_drew1) | exact HB.out))) : w.heap.size ≤ gb277)); clear HB; have HB := n0_; have BK277 := n1_; have GW277 := n2_; have GE277 := n3_; clear n0_ n1_ n2_ n3_; clear hb hbox hg) | ((with_reducible refine gate_dst (N := 4) rfl ?_); refine box_event ?hg (N := 4) ?hd (cs := #[.int .i64 a1_0, .int .i64 a1_1, .int .i64 a1_2, .int .i64 a1_3, .string a1_4, .int .i64 a1_5, .string a1_6, .string a1_7, .string a1_8, .string a1_9, .int .i64 a1_10]) (t := 25) ?hr ?_; (case hd => rfl); (case hg => rfl); (case hr => first | (go_simp; done) | (go_simp; rfl)); intro gb278 hg w9 hbox hb; have n0_ := Aside0.mk (blk_below (g := gb277) (o := .cells #[.int .i64 a0_0, .int .i64 a0_1, .int .i64 a0_2, .int .i64 a0_3, .string a0_4, .int .i64 a0_5, .string a0_6, .string a0_7, .string a0_8, .string a0_9, .int .i64 a0_10] 25 (0, 0)) (by (with_reducible repeat (first | refine blk_drewN ?_ _ | refine blk_drew ?_ | refine blk_alloc ?_ _)); exact BK277.out) hb); have n1_ := Aside0.mk (below_step (by repeat (first | (with_reducible first | exact HB.out | apply below_alloc | apply pw_below_drewN | apply below_drew1 | refine below_set ?_ GE277.out) | exact HB.out)) hb); have n2_ := Aside0.mk (hbox); have n3_ := Aside0.mk ((by rw [hg]; exact (below_size (by repeat (first | (with_reducible first | exact HB.out | apply below_alloc | apply pw_below_drewN | apply below_drew1 | refine below_set ?_ GE277.out) | exact HB.out))) : w.heap.size ≤ gb278)); have n4_ := Aside0.mk ((by rw [hg]; exact (below_size (by repeat (first | (with_reducible first | exact HB.out | apply below_alloc | apply pw_below_drewN | apply below_drew1 | refine below_set ?_ GE277.out) | exact HB.out))) : w.heap.size ≤ gb278)); have n5_ := Aside0.mk ((by rw [hg]; exact Nat.ne_of_lt (blk_lt (g := gb277) (o := .cells #[.int .i64 a0_0, .int .i64 a0_1, .int .i64 a0_2, .int .i64 a0_3, .string a0_4, .int .i64 a0_5, .string a0_6, .string a0_7, .string a0_8, .string a0_9, .int .i64 a0_10] 25 (0, 0)) (by (with_reducible repeat (first | refine blk_drewN ?_ _ | refine blk_drew ?_ | refine blk_alloc ?_ _)); exact BK277.out)) : gb277 ≠ gb278)); have n6_ := Aside0.mk ((by rw [hg]; exact Nat.ne_of_gt (blk_lt (g := gb277) (o := .cells #[.int .i64 a0_0, .int .i64 a0_1, .int .i64 a0_2, .int .i64 a0_3, .string a0_4, .int .i64 a0_5, .string a0_6, .string a0_7, .string a0_8, .string a0_9, .int .i64 a0_10] 25 (0, 0)) (by (with_reducible repeat (first | refine blk_drewN ?_ _ | refine blk_drew ?_ | refine blk_alloc ?_ _)); exact BK277.out)) : gb278 ≠ gb277)); clear BK277; clear HB; have BK277 := n0_; have HB := n1_; have BK278 := n2_; have GW278 := n3_; have GE278 := n4_; have NB277_278 := n5_; have NB278_277 := n6_; clear n0_ n1_ n2_ n3_ n4_ n5_ n6_; clear hb hbox hg) | ((with_reducible refine gate_callee (f := 8) rfl ?_); refine goesL_ (some 16) rfl rfl Tryd.func8 (by kernel_rfl) rfl #[] rfl (by (try simp only [List.map_toArray, List.map_cons, List.map_nil]); first | done | rfl | (simp only [List.length_drop, List.length_take]; rfl)) ?_; (with_reducible refine (stanchionlaw16_shown.calls k  t279 _ A4.out).mono ?_); rintro e w10 ⟨rfl, hb⟩; refine ⟨_, rfl, ?_⟩; have n0_ := Aside0.mk (blk_below (g := gb277) (o := .cells #[.int .i64 a0_0, .int .i64 a0_1, .int .i64 a0_2, .int .i64 a0_3, .string a0_4, .int .i64 a0_5, .string a0_6, .string a0_7, .string a0_8, .string a0_9, .int .i64 a0_10] 25 (0, 0)) (by (with_reducible repeat (first | refine blk_drewN ?_ _ | refine blk_drew ?_ | refine blk_alloc ?_ _)); exact BK277.out) hb); have n1_ := Aside0.mk (blk_below (g := gb278) (o := .cells #[.int .i64 a1_0, .int .i64 a1_1, .int .i64 a1_2, .int .i64 a1_3, .string a1_4, .int .i64 a1_5, .string a1_6, .string a1_7, .string a1_8, .string a1_9, .int .i64 a1_10] 25 (0, 0)) (by (with_reducible repeat (first | refine blk_drewN ?_ _ | refine blk_drew ?_ | refine blk_alloc ?_ _)); exact BK278.out) hb); have n2_ := Aside0.mk (below_step (by repeat (first | (with_reducible first | exact HB.out | apply below_alloc | apply pw_below_drewN | apply below_drew1 | refine below_set ?_ GE277.out | refine below_set ?_ GE278.out) | exact HB.out)) hb); clear BK277; clear BK278; clear HB; have BK277 := n0_; have BK278 := n1_; have HB := n2_; clear n0_ n1_ n2_; (try clear hb); (try clear hb2); (try clear hk); (try clear hi); have hnb11 := NB277_278.out; have hnc11 := NB278_277.out; have hcz12_0 : w10.cell? ⟨gb277, 0, none⟩ = some (.int .i64 a0_0) := (blk_cell BK277.out 0).trans rfl; have hcz12_1 : w10.cell? ⟨gb277, 1, none⟩ = some (.int .i64 a0_1) := (blk_cell BK277.out 1).trans rfl; have hcz12_2 : w10.cell? ⟨gb277, 2, none⟩ = some (.int .i64 a0_2) := (blk_cell BK277.out 2).trans rfl; have hcz12_3 : w10.cell? ⟨gb277, 3, none⟩ = some (.int .i64 a0_3) := (blk_cell BK277.out 3).trans rfl; have hcz12_4 : w10.cell? ⟨gb277, 4, none⟩ = some (.string a0_4) := (blk_cell BK277.out 4).trans rfl; have hcz12_5 : w10.cell? ⟨gb277, 5, none⟩ = some (.int .i64 a0_5) := (blk_cell BK277.out 5).trans rfl; have hcz12_6 : w10.cell? ⟨gb277, 6, none⟩ = some (.string a0_6) := (blk_cell BK277.out 6).trans rfl; have hcz12_7 : w10.cell? ⟨gb277, 7, none⟩ = some (.string a0_7) := (blk_cell BK277.out 7).trans rfl; have hcz12_8 : w10.cell? ⟨gb277, 8, none⟩ = some (.string a0_8) := (blk_cell BK277.out 8).trans rfl; have hcz12_9 : w10.cell? ⟨gb277, 9, none⟩ = some (.string a0_9) := (blk_cell BK277.out 9).trans rfl; have hcz12_10 : w10.cell? ⟨gb277, 10, none⟩ = some (.int .i64 a0_10) := (blk_cell BK277.out 10).trans rfl; have hfz12_0 := blk_frozen BK277.out 0; have hfz12_1 := blk_frozen BK277.out 1; have hfz12_2 := blk_frozen BK277.out 2; have hfz12_3 := blk_frozen BK277.out 3; have hfz12_4 := blk_frozen BK277.out 4; have hfz12_5 := blk_frozen BK277.out 5; have hfz12_6 := blk_frozen BK277.out 6; have hfz12_7 := blk_frozen BK277.out 7; have hfz12_8 := blk_frozen BK277.out 8; have hfz12_9 := blk_frozen BK277.out 9; have hfz12_10 := blk_frozen BK277.out 10) | ((with_reducible refine gate_callee (f := 9) rfl ?_); refine goesL_ (some 19) rfl rfl Tryd.func9 (by kernel_rfl) rfl #[.agg #[.int .i64 a0_0, .int .i64 a0_1, .int .i64 a0_2, .int .i64 a0_3, .string a0_4, .int .i64 a0_5, .string a0_6, .string a0_7, .string a0_8, .string a0_9, .int .i64 a0_10]] rfl (by (try simp only [List.map_toArray, List.map_cons, List.map_nil]); first | done | rfl | (simp only [List.length_drop, List.length_take]; rfl)) ?_; (with_reducible refine (wire_Req.calls k a0_0 a0_1 a0_2 a0_3 a0_4 a0_5 a0_6 a0_7 a0_8 a0_9 a0_10 t280 t281 _ A5.out).mono ?_); rintro e w13 ⟨rfl, hb⟩; refine ⟨_, rfl, ?_⟩; have n0_ := Aside0.mk (blk_below (g := gb277) (o := .cells #[.int .i64 a0_0, .int .i64 a0_1, .int .i64 a0_2, .int .i64 a0_3, .string a0_4, .int .i64 a0_5, .string a0_6, .string a0_7, .string a0_8, .string a0_9, .int .i64 a0_10] 25 (0, 0)) (by (with_reducible repeat (first | refine blk_drewN ?_ _ | refine blk_drew ?_ | refine blk_alloc ?_ _)); exact BK277.out) hb); have n1_ := Aside0.mk (blk_below (g := gb278) (o := .cells #[.int .i64 a1_0, .int .i64 a1_1, .int .i64 a1_2, .int .i64 a1_3, .string a1_4, .int .i64 a1_5, .string a1_6, .string a1_7, .string a1_8, .string a1_9, .int .i64 a1_10] 25 (0, 0)) (by (with_reducible repeat (first | refine blk_drewN ?_ _ | refine blk_drew ?_ | refine blk_alloc ?_ _)); exact BK278.out) hb); have n2_ := Aside0.mk (below_step (by repeat (first | (with_reducible first | exact HB.out | apply below_alloc | apply pw_below_drewN | apply below_drew1 | refine below_set ?_ GE277.out | refine below_set ?_ GE278.out) | exact HB.out)) hb); clear BK277; clear BK278; clear HB; have BK277 := n0_; have BK278 := n1_; have HB := n2_; clear n0_ n1_ n2_; (try clear hb); (try clear hb2); (try clear hk); (try clear hi); have hcz14_0 : w13.cell? ⟨gb278, 0, none⟩ = some (.int .i64 a1_0) := (blk_cell BK278.out 0).trans rfl; have hcz14_1 : w13.cell? ⟨gb278, 1, none⟩ = some (.int .i64 a1_1) := (blk_cell BK278.out 1).trans rfl; have hcz14_2 : w13.cell? ⟨gb278, 2, none⟩ = some (.int .i64 a1_2) := (blk_cell BK278.out 2).trans rfl; have hcz14_3 : w13.cell? ⟨gb278, 3, none⟩ = some (.int .i64 a1_3) := (blk_cell BK278.out 3).trans rfl; have hcz14_4 : w13.cell? ⟨gb278, 4, none⟩ = some (.string a1_4) := (blk_cell BK278.out 4).trans rfl; have hcz14_5 : w13.cell? ⟨gb278, 5, none⟩ = some (.int .i64 a1_5) := (blk_cell BK278.out 5).trans rfl; have hcz14_6 : w13.cell? ⟨gb278, 6, none⟩ = some (.string a1_6) := (blk_cell BK278.out 6).trans rfl; have hcz14_7 : w13.cell? ⟨gb278, 7, none⟩ = some (.string a1_7) := (blk_cell BK278.out 7).trans rfl; have hcz14_8 : w13.cell? ⟨gb278, 8, none⟩ = some (.string a1_8) := (blk_cell BK278.out 8).trans rfl; have hcz14_9 : w13.cell? ⟨gb278, 9, none⟩ = some (.string a1_9) := (blk_cell BK278.out 9).trans rfl; have hcz14_10 : w13.cell? ⟨gb278, 10, none⟩ = some (.int .i64 a1_10) := (blk_cell BK278.out 10).trans rfl; have hfz14_0 := blk_frozen BK278.out 0; have hfz14_1 := blk_frozen BK278.out 1; have hfz14_2 := blk_frozen BK278.out 2; have hfz14_3 := blk_frozen BK278.out 3; have hfz14_4 := blk_frozen BK278.out 4; have hfz14_5 := blk_frozen BK278.out 5; have hfz14_6 := blk_frozen BK278.out 6; have hfz14_7 := blk_frozen BK278.out 7; have hfz14_8 := blk_frozen BK278.out 8; have hfz14_9 := blk_frozen BK278.out 9; have hfz14_10 := blk_frozen BK278.out 10) | ((with_reducible refine gate_callee (f := 9) rfl ?_); refine goesL_ (some 24) rfl rfl Tryd.func9 (by kernel_rfl) rfl #[.agg #[.int .i64 a1_0, .int .i64 a1_1, .int .i64 a1_2, .int .i64 a1_3, .string a1_4, .int .i64 a1_5, .string a1_6, .string a1_7, .string a1_8, .string a1_9, .int .i64 a1_10]] rfl (by (try simp only [List.map_toArray, List.map_cons, List.map_nil]); first | done | rfl | (simp only [List.length_drop, List.length_take]; rfl)) ?_; (with_reducible refine (wire_Req.calls k a1_0 a1_1 a1_2 a1_3 a1_4 a1_5 a1_6 a1_7 a1_8 a1_9 a1_10 t282 t283 _ A6.out).mono ?_); rintro e w15 ⟨rfl, hb⟩; refine ⟨_, rfl, ?_⟩; have n0_ := Aside0.mk (blk_below (g := gb277) (o := .cells #[.int .i64 a0_0, .int .i64 a0_1, .int .i64 a0_2, .int .i64 a0_3, .string a0_4, .int .i64 a0_5, .string a0_6, .string a0_7, .string a0_8, .string a0_9, .int .i64 a0_10] 25 (0, 0)) (by (with_reducible repeat (first | refine blk_drewN ?_ _ | refine blk_drew ?_ | refine blk_alloc ?_ _)); exact BK277.out) hb); have n1_ := Aside0.mk (blk_below (g := gb278) (o := .cells #[.int .i64 a1_0, .int .i64 a1_1, .int .i64 a1_2, .int .i64 a1_3, .string a1_4, .int .i64 a1_5, .string a1_6, .string a1_7, .string a1_8, .string a1_9, .int .i64 a1_10] 25 (0, 0)) (by (with_reducible repeat (first | refine blk_drewN ?_ _ | refine blk_drew ?_ | refine blk_alloc ?_ _)); exact BK278.out) hb); have n2_ := Aside0.mk (below_step (by repeat (first | (with_reducible first | exact HB.out | apply below_alloc | apply pw_below_drewN | apply below_drew1 | refine below_set ?_ GE277.out | refine below_set ?_ GE278.out) | exact HB.out)) hb); clear BK277; clear BK278; clear HB; have BK277 := n0_; have BK278 := n1_; have HB := n2_; clear n0_ n1_ n2_; (try clear hb); (try clear hb2); (try clear hk); (try clear hi)))
  (try simp only [Act.put, List.setIfInBounds_toArray, List.set_cons_zero, List.set_cons_succ])
  go_cut [41] (fun v41 wc => ∃ (kq : Nat) (x41_6 : Bool), v41 = .bool x41_6 ∧ Aside0 (stanchionlaw16_WireApart.j0 kq a2 t279 x41_6 = some r) ∧ Aside0 (kq ≤ k) ∧ Aside0 (wc.heap[gb277]? = some (.cells #[.int .i64 a0_0, .int .i64 a0_1, .int .i64 a0_2, .int .i64 a0_3, .string a0_4, .int .i64 a0_5, .string a0_6, .string a0_7, .string a0_8, .string a0_9, .int .i64 a0_10] 25 (0, 0))) ∧ Aside0 (wc.heap[gb278]? = some (.cells #[.int .i64 a1_0, .int .i64 a1_1, .int .i64 a1_2, .int .i64 a1_3, .string a1_4, .int .i64 a1_5, .string a1_6, .string a1_7, .string a1_8, .string a1_9, .int .i64 a1_10] 25 (0, 0))) ∧ Aside0 (Below w.heap.size w wc))
  case first =>
    have H := HC7.out
    clear HC7
    by_cases c16 : t281 = 0
    · rw [if_pos c16] at H
      have c16b0 : (t281 == 0) = true := beq_iff_eq.mpr c16
      have c16b1 : (t281 != 0) = false := bne_eq_false_iff_eq.mpr c16
      clear c16
      (first | rw [c16b0] | (simp only [i64_w, i32_w]; rw [c16b0]) | skip)
      by_cases c17 : t283 = 0
      · rw [if_pos c17] at H
        have c17b0 : (t283 == 0) = true := beq_iff_eq.mpr c17
        have c17b1 : (t283 != 0) = false := bne_eq_false_iff_eq.mpr c17
        clear c17
        have H' := Aside0.mk H
        clear H
        have hnb18 := NB277_278.out
        have hnc18 := NB278_277.out
        have hcz19_0 : w15.cell? ⟨gb277, 0, none⟩ = some (.int .i64 a0_0) := (blk_cell BK277.out 0).trans rfl
        have hcz19_1 : w15.cell? ⟨gb277, 1, none⟩ = some (.int .i64 a0_1) := (blk_cell BK277.out 1).trans rfl
        have hcz19_2 : w15.cell? ⟨gb277, 2, none⟩ = some (.int .i64 a0_2) := (blk_cell BK277.out 2).trans rfl
        have hcz19_3 : w15.cell? ⟨gb277, 3, none⟩ = some (.int .i64 a0_3) := (blk_cell BK277.out 3).trans rfl
        have hcz19_4 : w15.cell? ⟨gb277, 4, none⟩ = some (.string a0_4) := (blk_cell BK277.out 4).trans rfl
        have hcz19_5 : w15.cell? ⟨gb277, 5, none⟩ = some (.int .i64 a0_5) := (blk_cell BK277.out 5).trans rfl
        have hcz19_6 : w15.cell? ⟨gb277, 6, none⟩ = some (.string a0_6) := (blk_cell BK277.out 6).trans rfl
        have hcz19_7 : w15.cell? ⟨gb277, 7, none⟩ = some (.string a0_7) := (blk_cell BK277.out 7).trans rfl
        have hcz19_8 : w15.cell? ⟨gb277, 8, none⟩ = some (.string a0_8) := (blk_cell BK277.out 8).trans rfl
        have hcz19_9 : w15.cell? ⟨gb277, 9, none⟩ = some (.string a0_9) := (blk_cell BK277.out 9).trans rfl
        have hcz19_10 : w15.cell? ⟨gb277, 10, none⟩ = some (.int .i64 a0_10) := (blk_cell BK277.out 10).trans rfl
        have hfz19_0 := blk_frozen BK277.out 0
        have hfz19_1 := blk_frozen BK277.out 1
        have hfz19_2 := blk_frozen BK277.out 2
        have hfz19_3 := blk_frozen BK277.out 3
        have hfz19_4 := blk_frozen BK277.out 4
        have hfz19_5 := blk_frozen BK277.out 5
        have hfz19_6 := blk_frozen BK277.out 6
        have hfz19_7 := blk_frozen BK277.out 7
        have hfz19_8 := blk_frozen BK277.out 8
        have hfz19_9 := blk_frozen BK277.out 9
        have hfz19_10 := blk_frozen BK277.out 10
        have hcz20_0 : w15.cell? ⟨gb278, 0, none⟩ = some (.int .i64 a1_0) := (blk_cell BK278.out 0).trans rfl
        have hcz20_1 : w15.cell? ⟨gb278, 1, none⟩ = some (.int .i64 a1_1) := (blk_cell BK278.out 1).trans rfl
        have hcz20_2 : w15.cell? ⟨gb278, 2, none⟩ = some (.int .i64 a1_2) := (blk_cell BK278.out 2).trans rfl
        have hcz20_3 : w15.cell? ⟨gb278, 3, none⟩ = some (.int .i64 a1_3) := (blk_cell BK278.out 3).trans rfl
        have hcz20_4 : w15.cell? ⟨gb278, 4, none⟩ = some (.string a1_4) := (blk_cell BK278.out 4).trans rfl
        have hcz20_5 : w15.cell? ⟨gb278, 5, none⟩ = some (.int .i64 a1_5) := (blk_cell BK278.out 5).trans rfl
        have hcz20_6 : w15.cell? ⟨gb278, 6, none⟩ = some (.string a1_6) := (blk_cell BK278.out 6).trans rfl
        have hcz20_7 : w15.cell? ⟨gb278, 7, none⟩ = some (.string a1_7) := (blk_cell BK278.out 7).trans rfl
        have hcz20_8 : w15.cell? ⟨gb278, 8, none⟩ = some (.string a1_8) := (blk_cell BK278.out 8).trans rfl
        have hcz20_9 : w15.cell? ⟨gb278, 9, none⟩ = some (.string a1_9) := (blk_cell BK278.out 9).trans rfl
        have hcz20_10 : w15.cell? ⟨gb278, 10, none⟩ = some (.int .i64 a1_10) := (blk_cell BK278.out 10).trans rfl
        have hfz20_0 := blk_frozen BK278.out 0
        have hfz20_1 := blk_frozen BK278.out 1
        have hfz20_2 := blk_frozen BK278.out 2
        have hfz20_3 := blk_frozen BK278.out 3
        have hfz20_4 := blk_frozen BK278.out 4
        have hfz20_5 := blk_frozen BK278.out 5
        have hfz20_6 := blk_frozen BK278.out 6
        have hfz20_7 := blk_frozen BK278.out 7
        have hfz20_8 := blk_frozen BK278.out 8
        have hfz20_9 := blk_frozen BK278.out 9
        have hfz20_10 := blk_frozen BK278.out 10
        go_wp2
        go_meet
        case rel => exact ⟨_, (((t280.toList == t282.toList) != (a0_0 == a1_0 && (a0_1 == a1_1 && (a0_2 == a1_2 && (a0_3 == a1_3 && (a0_4.toList == a1_4.toList && ((a0_5 == a1_5 && (a0_6.toList == a1_6.toList && (a0_7.toList == a1_7.toList && (a0_8.toList == a1_8.toList && (a0_9.toList == a1_9.toList && (a0_10 == a1_10)))))))))))))), (by first | rfl | (simp; done) | (simp [*]; done)), H', ⟨by first | omega | exact Nat.le_refl _⟩, ⟨by (with_reducible repeat (first | refine blk_drewN ?_ _ | refine blk_drew ?_ | refine blk_alloc ?_ _)); exact BK277.out⟩, ⟨by (with_reducible repeat (first | refine blk_drewN ?_ _ | refine blk_drew ?_ | refine blk_alloc ?_ _)); exact BK278.out⟩, ⟨by repeat (first | (with_reducible first | exact HB.out | apply below_alloc | apply pw_below_drewN | apply below_drew1 | refine below_set ?_ GE277.out | refine below_set ?_ GE278.out) | exact HB.out)⟩⟩
      · rw [if_neg c17] at H
        have c17b0 : (t283 == 0) = false := beq_eq_false_iff_ne.mpr c17
        have c17b1 : (t283 != 0) = true := bne_iff_ne.mpr c17
        have H' := Aside0.mk H
        clear H
        go_wp2
        go_meet
        case rel => exact ⟨_, (false), (by first | rfl | (simp; done) | (simp [*]; done)), H', ⟨by first | omega | exact Nat.le_refl _⟩, ⟨by (with_reducible repeat (first | refine blk_drewN ?_ _ | refine blk_drew ?_ | refine blk_alloc ?_ _)); exact BK277.out⟩, ⟨by (with_reducible repeat (first | refine blk_drewN ?_ _ | refine blk_drew ?_ | refine blk_alloc ?_ _)); exact BK278.out⟩, ⟨by repeat (first | (with_reducible first | exact HB.out | apply below_alloc | apply pw_below_drewN | apply below_drew1 | refine below_set ?_ GE277.out | refine below_set ?_ GE278.out) | exact HB.out)⟩⟩
    · rw [if_neg c16] at H
      have c16b0 : (t281 == 0) = false := beq_eq_false_iff_ne.mpr c16
      have c16b1 : (t281 != 0) = true := bne_iff_ne.mpr c16
      (first | rw [c16b0] | (simp only [i64_w, i32_w]; rw [c16b0]) | skip)
      have H' := Aside0.mk H
      clear H
      go_wp2
      go_meet
      case rel => exact ⟨_, (false), (by first | rfl | (simp; done) | (simp [*]; done)), H', ⟨by first | omega | exact Nat.le_refl _⟩, ⟨by (with_reducible repeat (first | refine blk_drewN ?_ _ | refine blk_drew ?_ | refine blk_alloc ?_ _)); exact BK277.out⟩, ⟨by (with_reducible repeat (first | refine blk_drewN ?_ _ | refine blk_drew ?_ | refine blk_alloc ?_ _)); exact BK278.out⟩, ⟨by repeat (first | (with_reducible first | exact HB.out | apply below_alloc | apply pw_below_drewN | apply below_drew1 | refine below_set ?_ GE277.out | refine below_set ?_ GE278.out) | exact HB.out)⟩⟩
  case rest =>
    clear HC7
    try clear c1
    try clear p2
    try clear c4
    try clear c8
    try clear c9
    try clear c11
    try clear c16
    try clear c16b0
    try clear c16b1
    try clear c17
    try clear c17b0
    try clear c17b1
    try clear c18
    try clear hcz12_0
    try clear hcz12_1
    try clear hcz12_10
    try clear hcz12_2
    try clear hcz12_3
    try clear hcz12_4
    try clear hcz12_5
    try clear hcz12_6
    try clear hcz12_7
    try clear hcz12_8
    try clear hcz12_9
    try clear hcz14_0
    try clear hcz14_1
    try clear hcz14_10
    try clear hcz14_2
    try clear hcz14_3
    try clear hcz14_4
    try clear hcz14_5
    try clear hcz14_6
    try clear hcz14_7
    try clear hcz14_8
    try clear hcz14_9
    try clear hcz19_0
    try clear hcz19_1
    try clear hcz19_10
    try clear hcz19_2
    try clear hcz19_3
    try clear hcz19_4
    try clear hcz19_5
    try clear hcz19_6
    try clear hcz19_7
    try clear hcz19_8
    try clear hcz19_9
    try clear hcz20_0
    try clear hcz20_1
    try clear hcz20_10
    try clear hcz20_2
    try clear hcz20_3
    try clear hcz20_4
    try clear hcz20_5
    try clear hcz20_6
    try clear hcz20_7
    try clear hcz20_8
    try clear hcz20_9
    try clear hfz12_0
    try clear hfz12_1
    try clear hfz12_10
    try clear hfz12_2
    try clear hfz12_3
    try clear hfz12_4
    try clear hfz12_5
    try clear hfz12_6
    try clear hfz12_7
    try clear hfz12_8
    try clear hfz12_9
    try clear hfz14_0
    try clear hfz14_1
    try clear hfz14_10
    try clear hfz14_2
    try clear hfz14_3
    try clear hfz14_4
    try clear hfz14_5
    try clear hfz14_6
    try clear hfz14_7
    try clear hfz14_8
    try clear hfz14_9
    try clear hfz19_0
    try clear hfz19_1
    try clear hfz19_10
    try clear hfz19_2
    try clear hfz19_3
    try clear hfz19_4
    try clear hfz19_5
    try clear hfz19_6
    try clear hfz19_7
    try clear hfz19_8
    try clear hfz19_9
    try clear hfz20_0
    try clear hfz20_1
    try clear hfz20_10
    try clear hfz20_2
    try clear hfz20_3
    try clear hfz20_4
    try clear hfz20_5
    try clear hfz20_6
    try clear hfz20_7
    try clear hfz20_8
    try clear hfz20_9
    obtain ⟨kq, x41_6, rfl, HA, HJ6, BK277, BK278, HB⟩ := hcut
    cases kq with
    | zero => exact absurd HA.out (by simp [stanchionlaw16_WireApart.j0])
    | succ kj6 =>
      have H := HA.out
      clear HA
      simp only [stanchionlaw16_WireApart.j0] at H
      by_cases c21 : x41_6 = true
      · subst c21
        have H1 : (some false) = some r := by rw [if_pos rfl] at H; exact H
        clear H
        have H := H1
        clear H1
        obtain rfl := Option.some.inj H
        cases hr.out
      · replace c21 := Bool.eq_false_iff.mpr c21
        subst c21
        have H1 : ((wire_TakeReq.f a2).bind fun bt284 => (if bt284.2.2.2.2.2.2.2.2.2.2.2 = 0 then ((wire_Req.f kj6 bt284.1 bt284.2.1 bt284.2.2.1 bt284.2.2.2.1 bt284.2.2.2.2.1 bt284.2.2.2.2.2.1 bt284.2.2.2.2.2.2.1 bt284.2.2.2.2.2.2.2.1 bt284.2.2.2.2.2.2.2.2.1 bt284.2.2.2.2.2.2.2.2.2.1 bt284.2.2.2.2.2.2.2.2.2.2.1).bind fun bt297 => (if bt297.1.toList = a2.toList then (if bt297.2 = 0 then (some t279) else (some false)) else (some false))) else (some t279))) = some r := by rw [if_neg (show ¬ (false = true) by decide)] at H; exact H
        clear H
        have H := H1
        clear H1
        replace H := Option.bind_eq_some_iff.mp H
        obtain ⟨⟨t284, t285, t286, t287, t288, t289, t290, t291, t292, t293, t294, t295⟩, A220, H⟩ := H
        replace H : (if t295 = 0 then ((wire_Req.f kj6 t284 t285 t286 t287 t288 t289 t290 t291 t292 t293 t294).bind fun bt297 => (if bt297.1.toList = a2.toList then (if bt297.2 = 0 then (some t279) else (some false)) else (some false))) else (some t279)) = some r := H
        have A22 := Aside0.mk A220
        clear A220
        by_cases c23 : t295 = 0
        · rw [if_pos c23] at H
          have c23b0 : (t295 == 0) = true := beq_iff_eq.mpr c23
          have c23b1 : (t295 != 0) = false := bne_eq_false_iff_eq.mpr c23
          clear c23
          replace H := Option.bind_eq_some_iff.mp H
          obtain ⟨⟨t297, t298⟩, A240, H⟩ := H
          replace H : (if t297.toList = a2.toList then (if t298 = 0 then (some t279) else (some false)) else (some false)) = some r := H
          have A24 := Aside0.mk A240
          clear A240
          by_cases c25 : t297.toList = a2.toList
          · rw [if_pos c25] at H
            have c25b0 : (t297.toList == a2.toList) = true := beq_iff_eq.mpr c25
            have c25b1 : (t297.toList != a2.toList) = false := bne_eq_false_iff_eq.mpr c25
            clear c25
            by_cases c26 : t298 = 0
            · rw [if_pos c26] at H
              have c26b0 : (t298 == 0) = true := beq_iff_eq.mpr c26
              have c26b1 : (t298 != 0) = false := bne_eq_false_iff_eq.mpr c26
              clear c26
              obtain rfl := Option.some.inj H
              go_wp2_with (first | ((with_reducible refine gate_callee (f := 11) rfl ?_); refine goesL_ (some 44) rfl rfl Tryd.func11 (by kernel_rfl) rfl #[.string a2] rfl (by (try simp only [List.map_toArray, List.map_cons, List.map_nil]); first | done | rfl | (simp only [List.length_drop, List.length_take]; rfl)) ?_; (with_reducible refine (wire_TakeReq.calls a2 t284 t285 t286 t287 t288 t289 t290 t291 t292 t293 t294 t295 _ A22.out (handle_at HGL.out (by repeat (first | (with_reducible first | exact HB.out | apply below_alloc | apply pw_below_drewN | apply below_drew1 | refine below_set ?_ GE277.out | refine below_set ?_ GE278.out) | exact HB.out)))).mono ?_); rintro e w27 ⟨rfl, hb⟩; refine ⟨_, rfl, ?_⟩; have n0_ := Aside0.mk (blk_below (g := gb277) (o := .cells #[.int .i64 a0_0, .int .i64 a0_1, .int .i64 a0_2, .int .i64 a0_3, .string a0_4, .int .i64 a0_5, .string a0_6, .string a0_7, .string a0_8, .string a0_9, .int .i64 a0_10] 25 (0, 0)) (by (with_reducible repeat (first | refine blk_drewN ?_ _ | refine blk_drew ?_ | refine blk_alloc ?_ _)); exact BK277.out) hb); have n1_ := Aside0.mk (blk_below (g := gb278) (o := .cells #[.int .i64 a1_0, .int .i64 a1_1, .int .i64 a1_2, .int .i64 a1_3, .string a1_4, .int .i64 a1_5, .string a1_6, .string a1_7, .string a1_8, .string a1_9, .int .i64 a1_10] 25 (0, 0)) (by (with_reducible repeat (first | refine blk_drewN ?_ _ | refine blk_drew ?_ | refine blk_alloc ?_ _)); exact BK278.out) hb); have n2_ := Aside0.mk (below_step (by repeat (first | (with_reducible first | exact HB.out | apply below_alloc | apply pw_below_drewN | apply below_drew1 | refine below_set ?_ GE277.out | refine below_set ?_ GE278.out) | exact HB.out)) hb); clear BK277; clear BK278; clear HB; have BK277 := n0_; have BK278 := n1_; have HB := n2_; clear n0_ n1_ n2_; (try clear hb); (try clear hb2); (try clear hk); (try clear hi)) | ((with_reducible refine gate_dst (N := 12) rfl ?_); refine box_event ?hg (N := 12) ?hd (cs := #[.int .i64 0, .int .i64 0, .int .i64 0, .int .i64 0, .string (⟨#[]⟩ : ByteArray), .int .i64 0, .string (⟨#[]⟩ : ByteArray), .string (⟨#[]⟩ : ByteArray), .string (⟨#[]⟩ : ByteArray), .string (⟨#[]⟩ : ByteArray), .int .i64 0]) (t := 25) ?hr ?_; (case hd => rfl); (case hg => rfl); (case hr => first | (go_simp; done) | (go_simp; rfl)); intro gb296 hg w28 hbox hb; have n0_ := Aside0.mk (blk_below (g := gb277) (o := .cells #[.int .i64 a0_0, .int .i64 a0_1, .int .i64 a0_2, .int .i64 a0_3, .string a0_4, .int .i64 a0_5, .string a0_6, .string a0_7, .string a0_8, .string a0_9, .int .i64 a0_10] 25 (0, 0)) (by (with_reducible repeat (first | refine blk_drewN ?_ _ | refine blk_drew ?_ | refine blk_alloc ?_ _)); exact BK277.out) hb); have n1_ := Aside0.mk (blk_below (g := gb278) (o := .cells #[.int .i64 a1_0, .int .i64 a1_1, .int .i64 a1_2, .int .i64 a1_3, .string a1_4, .int .i64 a1_5, .string a1_6, .string a1_7, .string a1_8, .string a1_9, .int .i64 a1_10] 25 (0, 0)) (by (with_reducible repeat (first | refine blk_drewN ?_ _ | refine blk_drew ?_ | refine blk_alloc ?_ _)); exact BK278.out) hb); have n2_ := Aside0.mk (below_step (by repeat (first | (with_reducible first | exact HB.out | apply below_alloc | apply pw_below_drewN | apply below_drew1 | refine below_set ?_ GE277.out | refine below_set ?_ GE278.out) | exact HB.out)) hb); have n3_ := Aside0.mk (hbox); have n4_ := Aside0.mk ((by rw [hg]; exact (below_size (by repeat (first | (with_reducible first | exact HB.out | apply below_alloc | apply pw_below_drewN | apply below_drew1 | refine below_set ?_ GE277.out | refine below_set ?_ GE278.out) | exact HB.out))) : w.heap.size ≤ gb296)); have n5_ := Aside0.mk ((by rw [hg]; exact (below_size (by repeat (first | (with_reducible first | exact HB.out | apply below_alloc | apply pw_below_drewN | apply below_drew1 | refine below_set ?_ GE277.out | refine below_set ?_ GE278.out) | exact HB.out))) : w.heap.size ≤ gb296)); have n6_ := Aside0.mk ((by rw [hg]; exact Nat.ne_of_lt (blk_lt (g := gb277) (o := .cells #[.int .i64 a0_0, .int .i64 a0_1, .int .i64 a0_2, .int .i64 a0_3, .string a0_4, .int .i64 a0_5, .string a0_6, .string a0_7, .string a0_8, .string a0_9, .int .i64 a0_10] 25 (0, 0)) (by (with_reducible repeat (first | refine blk_drewN ?_ _ | refine blk_drew ?_ | refine blk_alloc ?_ _)); exact BK277.out)) : gb277 ≠ gb296)); have n7_ := Aside0.mk ((by rw [hg]; exact Nat.ne_of_gt (blk_lt (g := gb277) (o := .cells #[.int .i64 a0_0, .int .i64 a0_1, .int .i64 a0_2, .int .i64 a0_3, .string a0_4, .int .i64 a0_5, .string a0_6, .string a0_7, .string a0_8, .string a0_9, .int .i64 a0_10] 25 (0, 0)) (by (with_reducible repeat (first | refine blk_drewN ?_ _ | refine blk_drew ?_ | refine blk_alloc ?_ _)); exact BK277.out)) : gb296 ≠ gb277)); have n8_ := Aside0.mk ((by rw [hg]; exact Nat.ne_of_lt (blk_lt (g := gb278) (o := .cells #[.int .i64 a1_0, .int .i64 a1_1, .int .i64 a1_2, .int .i64 a1_3, .string a1_4, .int .i64 a1_5, .string a1_6, .string a1_7, .string a1_8, .string a1_9, .int .i64 a1_10] 25 (0, 0)) (by (with_reducible repeat (first | refine blk_drewN ?_ _ | refine blk_drew ?_ | refine blk_alloc ?_ _)); exact BK278.out)) : gb278 ≠ gb296)); have n9_ := Aside0.mk ((by rw [hg]; exact Nat.ne_of_gt (blk_lt (g := gb278) (o := .cells #[.int .i64 a1_0, .int .i64 a1_1, .int .i64 a1_2, .int .i64 a1_3, .string a1_4, .int .i64 a1_5, .string a1_6, .string a1_7, .string a1_8, .string a1_9, .int .i64 a1_10] 25 (0, 0)) (by (with_reducible repeat (first | refine blk_drewN ?_ _ | refine blk_drew ?_ | refine blk_alloc ?_ _)); exact BK278.out)) : gb296 ≠ gb278)); clear BK277; clear BK278; clear HB; have BK277 := n0_; have BK278 := n1_; have HB := n2_; have BK296 := n3_; have GW296 := n4_; have GE296 := n5_; have NB277_296 := n6_; have NB296_277 := n7_; have NB278_296 := n8_; have NB296_278 := n9_; clear n0_ n1_ n2_ n3_ n4_ n5_ n6_ n7_ n8_ n9_; clear hb hbox hg; have hnb29 := NB296_277.out; have hnc29 := NB277_296.out; have hnb30 := NB296_278.out; have hnc30 := NB278_296.out; have hcz31_0 : w28.cell? ⟨gb296, 0, none⟩ = some (.int .i64 0) := (blk_cell BK296.out 0).trans rfl; have hcz31_1 : w28.cell? ⟨gb296, 1, none⟩ = some (.int .i64 0) := (blk_cell BK296.out 1).trans rfl; have hcz31_2 : w28.cell? ⟨gb296, 2, none⟩ = some (.int .i64 0) := (blk_cell BK296.out 2).trans rfl; have hcz31_3 : w28.cell? ⟨gb296, 3, none⟩ = some (.int .i64 0) := (blk_cell BK296.out 3).trans rfl; have hcz31_4 : w28.cell? ⟨gb296, 4, none⟩ = some (.string (⟨#[]⟩ : ByteArray)) := (blk_cell BK296.out 4).trans rfl; have hcz31_5 : w28.cell? ⟨gb296, 5, none⟩ = some (.int .i64 0) := (blk_cell BK296.out 5).trans rfl; have hcz31_6 : w28.cell? ⟨gb296, 6, none⟩ = some (.string (⟨#[]⟩ : ByteArray)) := (blk_cell BK296.out 6).trans rfl; have hcz31_7 : w28.cell? ⟨gb296, 7, none⟩ = some (.string (⟨#[]⟩ : ByteArray)) := (blk_cell BK296.out 7).trans rfl; have hcz31_8 : w28.cell? ⟨gb296, 8, none⟩ = some (.string (⟨#[]⟩ : ByteArray)) := (blk_cell BK296.out 8).trans rfl; have hcz31_9 : w28.cell? ⟨gb296, 9, none⟩ = some (.string (⟨#[]⟩ : ByteArray)) := (blk_cell BK296.out 9).trans rfl; have hcz31_10 : w28.cell? ⟨gb296, 10, none⟩ = some (.int .i64 0) := (blk_cell BK296.out 10).trans rfl; have hfz31_0 := blk_frozen BK296.out 0; have hfz31_1 := blk_frozen BK296.out 1; have hfz31_2 := blk_frozen BK296.out 2; have hfz31_3 := blk_frozen BK296.out 3; have hfz31_4 := blk_frozen BK296.out 4; have hfz31_5 := blk_frozen BK296.out 5; have hfz31_6 := blk_frozen BK296.out 6; have hfz31_7 := blk_frozen BK296.out 7; have hfz31_8 := blk_frozen BK296.out 8; have hfz31_9 := blk_frozen BK296.out 9; have hfz31_10 := blk_frozen BK296.out 10) | ((with_reducible refine gate_callee (f := 9) rfl ?_); refine goesL_ (some 51) rfl rfl Tryd.func9 (by kernel_rfl) rfl #[.agg #[.int .i64 t284, .int .i64 t285, .int .i64 t286, .int .i64 t287, .string t288, .int .i64 t289, .string t290, .string t291, .string t292, .string t293, .int .i64 t294]] rfl (by (try simp only [List.map_toArray, List.map_cons, List.map_nil]); first | done | rfl | (simp only [List.length_drop, List.length_take]; rfl)) ?_; (with_reducible refine (wire_Req.calls kj6 t284 t285 t286 t287 t288 t289 t290 t291 t292 t293 t294 t297 t298 _ A24.out).mono ?_); rintro e w32 ⟨rfl, hb⟩; refine ⟨_, rfl, ?_⟩; have n0_ := Aside0.mk (blk_below (g := gb277) (o := .cells #[.int .i64 a0_0, .int .i64 a0_1, .int .i64 a0_2, .int .i64 a0_3, .string a0_4, .int .i64 a0_5, .string a0_6, .string a0_7, .string a0_8, .string a0_9, .int .i64 a0_10] 25 (0, 0)) (by (with_reducible repeat (first | refine blk_drewN ?_ _ | refine blk_drew ?_ | refine blk_alloc ?_ _)); refine blk_far ?_ NB277_296.out _; (with_reducible repeat (first | refine blk_drewN ?_ _ | refine blk_drew ?_ | refine blk_alloc ?_ _)); refine blk_far ?_ NB277_296.out _; (with_reducible repeat (first | refine blk_drewN ?_ _ | refine blk_drew ?_ | refine blk_alloc ?_ _)); refine blk_far ?_ NB277_296.out _; (with_reducible repeat (first | refine blk_drewN ?_ _ | refine blk_drew ?_ | refine blk_alloc ?_ _)); refine blk_far ?_ NB277_296.out _; (with_reducible repeat (first | refine blk_drewN ?_ _ | refine blk_drew ?_ | refine blk_alloc ?_ _)); refine blk_far ?_ NB277_296.out _; (with_reducible repeat (first | refine blk_drewN ?_ _ | refine blk_drew ?_ | refine blk_alloc ?_ _)); refine blk_far ?_ NB277_296.out _; (with_reducible repeat (first | refine blk_drewN ?_ _ | refine blk_drew ?_ | refine blk_alloc ?_ _)); refine blk_far ?_ NB277_296.out _; (with_reducible repeat (first | refine blk_drewN ?_ _ | refine blk_drew ?_ | refine blk_alloc ?_ _)); refine blk_far ?_ NB277_296.out _; (with_reducible repeat (first | refine blk_drewN ?_ _ | refine blk_drew ?_ | refine blk_alloc ?_ _)); refine blk_far ?_ NB277_296.out _; (with_reducible repeat (first | refine blk_drewN ?_ _ | refine blk_drew ?_ | refine blk_alloc ?_ _)); refine blk_far ?_ NB277_296.out _; (with_reducible repeat (first | refine blk_drewN ?_ _ | refine blk_drew ?_ | refine blk_alloc ?_ _)); refine blk_far ?_ NB277_296.out _; (with_reducible repeat (first | refine blk_drewN ?_ _ | refine blk_drew ?_ | refine blk_alloc ?_ _)); exact BK277.out) hb); have n1_ := Aside0.mk (blk_below (g := gb278) (o := .cells #[.int .i64 a1_0, .int .i64 a1_1, .int .i64 a1_2, .int .i64 a1_3, .string a1_4, .int .i64 a1_5, .string a1_6, .string a1_7, .string a1_8, .string a1_9, .int .i64 a1_10] 25 (0, 0)) (by (with_reducible repeat (first | refine blk_drewN ?_ _ | refine blk_drew ?_ | refine blk_alloc ?_ _)); refine blk_far ?_ NB278_296.out _; (with_reducible repeat (first | refine blk_drewN ?_ _ | refine blk_drew ?_ | refine blk_alloc ?_ _)); refine blk_far ?_ NB278_296.out _; (with_reducible repeat (first | refine blk_drewN ?_ _ | refine blk_drew ?_ | refine blk_alloc ?_ _)); refine blk_far ?_ NB278_296.out _; (with_reducible repeat (first | refine blk_drewN ?_ _ | refine blk_drew ?_ | refine blk_alloc ?_ _)); refine blk_far ?_ NB278_296.out _; (with_reducible repeat (first | refine blk_drewN ?_ _ | refine blk_drew ?_ | refine blk_alloc ?_ _)); refine blk_far ?_ NB278_296.out _; (with_reducible repeat (first | refine blk_drewN ?_ _ | refine blk_drew ?_ | refine blk_alloc ?_ _)); refine blk_far ?_ NB278_296.out _; (with_reducible repeat (first | refine blk_drewN ?_ _ | refine blk_drew ?_ | refine blk_alloc ?_ _)); refine blk_far ?_ NB278_296.out _; (with_reducible repeat (first | refine blk_drewN ?_ _ | refine blk_drew ?_ | refine blk_alloc ?_ _)); refine blk_far ?_ NB278_296.out _; (with_reducible repeat (first | refine blk_drewN ?_ _ | refine blk_drew ?_ | refine blk_alloc ?_ _)); refine blk_far ?_ NB278_296.out _; (with_reducible repeat (first | refine blk_drewN ?_ _ | refine blk_drew ?_ | refine blk_alloc ?_ _)); refine blk_far ?_ NB278_296.out _; (with_reducible repeat (first | refine blk_drewN ?_ _ | refine blk_drew ?_ | refine blk_alloc ?_ _)); refine blk_far ?_ NB278_296.out _; (with_reducible repeat (first | refine blk_drewN ?_ _ | refine blk_drew ?_ | refine blk_alloc ?_ _)); exact BK278.out) hb); have n2_ := Aside0.mk (blk_below (g := gb296) (o := .cells #[.int .i64 t284, .int .i64 t285, .int .i64 t286, .int .i64 t287, .string t288, .int .i64 t289, .string t290, .string t291, .string t292, .string t293, .int .i64 t294] 25 (0, 0)) (by (with_reducible repeat (first | refine blk_drewN ?_ _ | refine blk_drew ?_ | refine blk_alloc ?_ _)); refine blk_put (cs := #[.int .i64 t284, .int .i64 t285, .int .i64 t286, .int .i64 t287, .string t288, .int .i64 t289, .string t290, .string t291, .string t292, .string t293, .int .i64 0]) ?_ 10 _ rfl; (with_reducible repeat (first | refine blk_drewN ?_ _ | refine blk_drew ?_ | refine blk_alloc ?_ _)); refine blk_put (cs := #[.int .i64 t284, .int .i64 t285, .int .i64 t286, .int .i64 t287, .string t288, .int .i64 t289, .string t290, .string t291, .string t292, .string (⟨#[]⟩ : ByteArray), .int .i64 0]) ?_ 9 _ rfl; (with_reducible repeat (first | refine blk_drewN ?_ _ | refine blk_drew ?_ | refine blk_alloc ?_ _)); refine blk_put (cs := #[.int .i64 t284, .int .i64 t285, .int .i64 t286, .int .i64 t287, .string t288, .int .i64 t289, .string t290, .string t291, .string (⟨#[]⟩ : ByteArray), .string (⟨#[]⟩ : ByteArray), .int .i64 0]) ?_ 8 _ rfl; (with_reducible repeat (first | refine blk_drewN ?_ _ | refine blk_drew ?_ | refine blk_alloc ?_ _)); refine blk_put (cs := #[.int .i64 t284, .int .i64 t285, .int .i64 t286, .int .i64 t287, .string t288, .int .i64 t289, .string t290, .string (⟨#[]⟩ : ByteArray), .string (⟨#[]⟩ : ByteArray), .string (⟨#[]⟩ : ByteArray), .int .i64 0]) ?_ 7 _ rfl; (with_reducible repeat (first | refine blk_drewN ?_ _ | refine blk_drew ?_ | refine blk_alloc ?_ _)); refine blk_put (cs := #[.int .i64 t284, .int .i64 t285, .int .i64 t286, .int .i64 t287, .string t288, .int .i64 t289, .string (⟨#[]⟩ : ByteArray), .string (⟨#[]⟩ : ByteArray), .string (⟨#[]⟩ : ByteArray), .string (⟨#[]⟩ : ByteArray), .int .i64 0]) ?_ 6 _ rfl; (with_reducible repeat (first | refine blk_drewN ?_ _ | refine blk_drew ?_ | refine blk_alloc ?_ _)); refine blk_put (cs := #[.int .i64 t284, .int .i64 t285, .int .i64 t286, .int .i64 t287, .string t288, .int .i64 0, .string (⟨#[]⟩ : ByteArray), .string (⟨#[]⟩ : ByteArray), .string (⟨#[]⟩ : ByteArray), .string (⟨#[]⟩ : ByteArray), .int .i64 0]) ?_ 5 _ rfl; (with_reducible repeat (first | refine blk_drewN ?_ _ | refine blk_drew ?_ | refine blk_alloc ?_ _)); refine blk_put (cs := #[.int .i64 t284, .int .i64 t285, .int .i64 t286, .int .i64 t287, .string (⟨#[]⟩ : ByteArray), .int .i64 0, .string (⟨#[]⟩ : ByteArray), .string (⟨#[]⟩ : ByteArray), .string (⟨#[]⟩ : ByteArray), .string (⟨#[]⟩ : ByteArray), .int .i64 0]) ?_ 4 _ rfl; (with_reducible repeat (first | refine blk_drewN ?_ _ | refine blk_drew ?_ | refine blk_alloc ?_ _)); refine blk_put (cs := #[.int .i64 t284, .int .i64 t285, .int .i64 t286, .int .i64 0, .string (⟨#[]⟩ : ByteArray), .int .i64 0, .string (⟨#[]⟩ : ByteArray), .string (⟨#[]⟩ : ByteArray), .string (⟨#[]⟩ : ByteArray), .string (⟨#[]⟩ : ByteArray), .int .i64 0]) ?_ 3 _ rfl; (with_reducible repeat (first | refine blk_drewN ?_ _ | refine blk_drew ?_ | refine blk_alloc ?_ _)); refine blk_put (cs := #[.int .i64 t284, .int .i64 t285, .int .i64 0, .int .i64 0, .string (⟨#[]⟩ : ByteArray), .int .i64 0, .string (⟨#[]⟩ : ByteArray), .string (⟨#[]⟩ : ByteArray), .string (⟨#[]⟩ : ByteArray), .string (⟨#[]⟩ : ByteArray), .int .i64 0]) ?_ 2 _ rfl; (with_reducible repeat (first | refine blk_drewN ?_ _ | refine blk_drew ?_ | refine blk_alloc ?_ _)); refine blk_put (cs := #[.int .i64 t284, .int .i64 0, .int .i64 0, .int .i64 0, .string (⟨#[]⟩ : ByteArray), .int .i64 0, .string (⟨#[]⟩ : ByteArray), .string (⟨#[]⟩ : ByteArray), .string (⟨#[]⟩ : ByteArray), .string (⟨#[]⟩ : ByteArray), .int .i64 0]) ?_ 1 _ rfl; (with_reducible repeat (first | refine blk_drewN ?_ _ | refine blk_drew ?_ | refine blk_alloc ?_ _)); refine blk_put (cs := #[.int .i64 0, .int .i64 0, .int .i64 0, .int .i64 0, .string (⟨#[]⟩ : ByteArray), .int .i64 0, .string (⟨#[]⟩ : ByteArray), .string (⟨#[]⟩ : ByteArray), .string (⟨#[]⟩ : ByteArray), .string (⟨#[]⟩ : ByteArray), .int .i64 0]) ?_ 0 _ rfl; (with_reducible repeat (first | refine blk_drewN ?_ _ | refine blk_drew ?_ | refine blk_alloc ?_ _)); exact BK296.out) hb); have n3_ := Aside0.mk (below_step (by repeat (first | (with_reducible first | exact HB.out | apply below_alloc | apply pw_below_drewN | apply below_drew1 | refine below_set ?_ GE277.out | refine below_set ?_ GE278.out | refine below_set ?_ GE296.out) | exact HB.out)) hb); clear BK277; clear BK278; clear BK296; clear HB; have BK277 := n0_; have BK278 := n1_; have BK296 := n2_; have HB := n3_; clear n0_ n1_ n2_ n3_; (try clear hb); (try clear hb2); (try clear hk); (try clear hi)))
              go_ret
              exact ⟨by first | rfl | (simp [errW_none, errW_some] <;> rfl) | (simp [*, errW_none, errW_some] <;> rfl), by repeat (first | (with_reducible first | exact HB.out | apply below_alloc | apply pw_below_drewN | apply below_drew1 | refine below_set ?_ GE277.out | refine below_set ?_ GE278.out | refine below_set ?_ GE296.out) | exact HB.out)⟩
            · rw [if_neg c26] at H
              have c26b0 : (t298 == 0) = false := beq_eq_false_iff_ne.mpr c26
              have c26b1 : (t298 != 0) = true := bne_iff_ne.mpr c26
              obtain rfl := Option.some.inj H
              cases hr.out
          · rw [if_neg c25] at H
            have c25b0 : (t297.toList == a2.toList) = false := beq_eq_false_iff_ne.mpr c25
            have c25b1 : (t297.toList != a2.toList) = true := bne_iff_ne.mpr c25
            obtain rfl := Option.some.inj H
            cases hr.out
        · rw [if_neg c23] at H
          have c23b0 : (t295 == 0) = false := beq_eq_false_iff_ne.mpr c23
          have c23b1 : (t295 != 0) = true := bne_iff_ne.mpr c23
          obtain rfl := Option.some.inj H
          go_wp2_with (first | ((with_reducible refine gate_callee (f := 11) rfl ?_); refine goesL_ (some 44) rfl rfl Tryd.func11 (by kernel_rfl) rfl #[.string a2] rfl (by (try simp only [List.map_toArray, List.map_cons, List.map_nil]); first | done | rfl | (simp only [List.length_drop, List.length_take]; rfl)) ?_; (with_reducible refine (wire_TakeReq.calls a2 t284 t285 t286 t287 t288 t289 t290 t291 t292 t293 t294 t295 _ A22.out (handle_at HGL.out (by repeat (first | (with_reducible first | exact HB.out | apply below_alloc | apply pw_below_drewN | apply below_drew1 | refine below_set ?_ GE277.out | refine below_set ?_ GE278.out) | exact HB.out)))).mono ?_); rintro e w45 ⟨rfl, hb⟩; refine ⟨_, rfl, ?_⟩; have n0_ := Aside0.mk (blk_below (g := gb277) (o := .cells #[.int .i64 a0_0, .int .i64 a0_1, .int .i64 a0_2, .int .i64 a0_3, .string a0_4, .int .i64 a0_5, .string a0_6, .string a0_7, .string a0_8, .string a0_9, .int .i64 a0_10] 25 (0, 0)) (by (with_reducible repeat (first | refine blk_drewN ?_ _ | refine blk_drew ?_ | refine blk_alloc ?_ _)); exact BK277.out) hb); have n1_ := Aside0.mk (blk_below (g := gb278) (o := .cells #[.int .i64 a1_0, .int .i64 a1_1, .int .i64 a1_2, .int .i64 a1_3, .string a1_4, .int .i64 a1_5, .string a1_6, .string a1_7, .string a1_8, .string a1_9, .int .i64 a1_10] 25 (0, 0)) (by (with_reducible repeat (first | refine blk_drewN ?_ _ | refine blk_drew ?_ | refine blk_alloc ?_ _)); exact BK278.out) hb); have n2_ := Aside0.mk (below_step (by repeat (first | (with_reducible first | exact HB.out | apply below_alloc | apply pw_below_drewN | apply below_drew1 | refine below_set ?_ GE277.out | refine below_set ?_ GE278.out) | exact HB.out)) hb); clear BK277; clear BK278; clear HB; have BK277 := n0_; have BK278 := n1_; have HB := n2_; clear n0_ n1_ n2_; (try clear hb); (try clear hb2); (try clear hk); (try clear hi)) | ((with_reducible refine gate_dst (N := 12) rfl ?_); refine box_event ?hg (N := 12) ?hd (cs := #[.int .i64 0, .int .i64 0, .int .i64 0, .int .i64 0, .string (⟨#[]⟩ : ByteArray), .int .i64 0, .string (⟨#[]⟩ : ByteArray), .string (⟨#[]⟩ : ByteArray), .string (⟨#[]⟩ : ByteArray), .string (⟨#[]⟩ : ByteArray), .int .i64 0]) (t := 25) ?hr ?_; (case hd => rfl); (case hg => rfl); (case hr => first | (go_simp; done) | (go_simp; rfl)); intro gb296 hg w46 hbox hb; have n0_ := Aside0.mk (blk_below (g := gb277) (o := .cells #[.int .i64 a0_0, .int .i64 a0_1, .int .i64 a0_2, .int .i64 a0_3, .string a0_4, .int .i64 a0_5, .string a0_6, .string a0_7, .string a0_8, .string a0_9, .int .i64 a0_10] 25 (0, 0)) (by (with_reducible repeat (first | refine blk_drewN ?_ _ | refine blk_drew ?_ | refine blk_alloc ?_ _)); exact BK277.out) hb); have n1_ := Aside0.mk (blk_below (g := gb278) (o := .cells #[.int .i64 a1_0, .int .i64 a1_1, .int .i64 a1_2, .int .i64 a1_3, .string a1_4, .int .i64 a1_5, .string a1_6, .string a1_7, .string a1_8, .string a1_9, .int .i64 a1_10] 25 (0, 0)) (by (with_reducible repeat (first | refine blk_drewN ?_ _ | refine blk_drew ?_ | refine blk_alloc ?_ _)); exact BK278.out) hb); have n2_ := Aside0.mk (below_step (by repeat (first | (with_reducible first | exact HB.out | apply below_alloc | apply pw_below_drewN | apply below_drew1 | refine below_set ?_ GE277.out | refine below_set ?_ GE278.out) | exact HB.out)) hb); have n3_ := Aside0.mk (hbox); have n4_ := Aside0.mk ((by rw [hg]; exact (below_size (by repeat (first | (with_reducible first | exact HB.out | apply below_alloc | apply pw_below_drewN | apply below_drew1 | refine below_set ?_ GE277.out | refine below_set ?_ GE278.out) | exact HB.out))) : w.heap.size ≤ gb296)); have n5_ := Aside0.mk ((by rw [hg]; exact (below_size (by repeat (first | (with_reducible first | exact HB.out | apply below_alloc | apply pw_below_drewN | apply below_drew1 | refine below_set ?_ GE277.out | refine below_set ?_ GE278.out) | exact HB.out))) : w.heap.size ≤ gb296)); have n6_ := Aside0.mk ((by rw [hg]; exact Nat.ne_of_lt (blk_lt (g := gb277) (o := .cells #[.int .i64 a0_0, .int .i64 a0_1, .int .i64 a0_2, .int .i64 a0_3, .string a0_4, .int .i64 a0_5, .string a0_6, .string a0_7, .string a0_8, .string a0_9, .int .i64 a0_10] 25 (0, 0)) (by (with_reducible repeat (first | refine blk_drewN ?_ _ | refine blk_drew ?_ | refine blk_alloc ?_ _)); exact BK277.out)) : gb277 ≠ gb296)); have n7_ := Aside0.mk ((by rw [hg]; exact Nat.ne_of_gt (blk_lt (g := gb277) (o := .cells #[.int .i64 a0_0, .int .i64 a0_1, .int .i64 a0_2, .int .i64 a0_3, .string a0_4, .int .i64 a0_5, .string a0_6, .string a0_7, .string a0_8, .string a0_9, .int .i64 a0_10] 25 (0, 0)) (by (with_reducible repeat (first | refine blk_drewN ?_ _ | refine blk_drew ?_ | refine blk_alloc ?_ _)); exact BK277.out)) : gb296 ≠ gb277)); have n8_ := Aside0.mk ((by rw [hg]; exact Nat.ne_of_lt (blk_lt (g := gb278) (o := .cells #[.int .i64 a1_0, .int .i64 a1_1, .int .i64 a1_2, .int .i64 a1_3, .string a1_4, .int .i64 a1_5, .string a1_6, .string a1_7, .string a1_8, .string a1_9, .int .i64 a1_10] 25 (0, 0)) (by (with_reducible repeat (first | refine blk_drewN ?_ _ | refine blk_drew ?_ | refine blk_alloc ?_ _)); exact BK278.out)) : gb278 ≠ gb296)); have n9_ := Aside0.mk ((by rw [hg]; exact Nat.ne_of_gt (blk_lt (g := gb278) (o := .cells #[.int .i64 a1_0, .int .i64 a1_1, .int .i64 a1_2, .int .i64 a1_3, .string a1_4, .int .i64 a1_5, .string a1_6, .string a1_7, .string a1_8, .string a1_9, .int .i64 a1_10] 25 (0, 0)) (by (with_reducible repeat (first | refine blk_drewN ?_ _ | refine blk_drew ?_ | refine blk_alloc ?_ _)); exact BK278.out)) : gb296 ≠ gb278)); clear BK277; clear BK278; clear HB; have BK277 := n0_; have BK278 := n1_; have HB := n2_; have BK296 := n3_; have GW296 := n4_; have GE296 := n5_; have NB277_296 := n6_; have NB296_277 := n7_; have NB278_296 := n8_; have NB296_278 := n9_; clear n0_ n1_ n2_ n3_ n4_ n5_ n6_ n7_ n8_ n9_; clear hb hbox hg; have hnb47 := NB296_277.out; have hnc47 := NB277_296.out; have hnb48 := NB296_278.out; have hnc48 := NB278_296.out; have hcz49_0 : w46.cell? ⟨gb296, 0, none⟩ = some (.int .i64 0) := (blk_cell BK296.out 0).trans rfl; have hcz49_1 : w46.cell? ⟨gb296, 1, none⟩ = some (.int .i64 0) := (blk_cell BK296.out 1).trans rfl; have hcz49_2 : w46.cell? ⟨gb296, 2, none⟩ = some (.int .i64 0) := (blk_cell BK296.out 2).trans rfl; have hcz49_3 : w46.cell? ⟨gb296, 3, none⟩ = some (.int .i64 0) := (blk_cell BK296.out 3).trans rfl; have hcz49_4 : w46.cell? ⟨gb296, 4, none⟩ = some (.string (⟨#[]⟩ : ByteArray)) := (blk_cell BK296.out 4).trans rfl; have hcz49_5 : w46.cell? ⟨gb296, 5, none⟩ = some (.int .i64 0) := (blk_cell BK296.out 5).trans rfl; have hcz49_6 : w46.cell? ⟨gb296, 6, none⟩ = some (.string (⟨#[]⟩ : ByteArray)) := (blk_cell BK296.out 6).trans rfl; have hcz49_7 : w46.cell? ⟨gb296, 7, none⟩ = some (.string (⟨#[]⟩ : ByteArray)) := (blk_cell BK296.out 7).trans rfl; have hcz49_8 : w46.cell? ⟨gb296, 8, none⟩ = some (.string (⟨#[]⟩ : ByteArray)) := (blk_cell BK296.out 8).trans rfl; have hcz49_9 : w46.cell? ⟨gb296, 9, none⟩ = some (.string (⟨#[]⟩ : ByteArray)) := (blk_cell BK296.out 9).trans rfl; have hcz49_10 : w46.cell? ⟨gb296, 10, none⟩ = some (.int .i64 0) := (blk_cell BK296.out 10).trans rfl; have hfz49_0 := blk_frozen BK296.out 0; have hfz49_1 := blk_frozen BK296.out 1; have hfz49_2 := blk_frozen BK296.out 2; have hfz49_3 := blk_frozen BK296.out 3; have hfz49_4 := blk_frozen BK296.out 4; have hfz49_5 := blk_frozen BK296.out 5; have hfz49_6 := blk_frozen BK296.out 6; have hfz49_7 := blk_frozen BK296.out 7; have hfz49_8 := blk_frozen BK296.out 8; have hfz49_9 := blk_frozen BK296.out 9; have hfz49_10 := blk_frozen BK296.out 10))
          go_ret
          exact ⟨by first | rfl | (simp [errW_none, errW_some] <;> rfl) | (simp [*, errW_none, errW_some] <;> rfl), by repeat (first | (with_reducible first | exact HB.out | apply below_alloc | apply pw_below_drewN | apply below_drew1 | refine below_set ?_ GE277.out | refine below_set ?_ GE278.out | refine below_set ?_ GE296.out) | exact HB.out)⟩

end Go.Proofs.YtlpcidjmaeicoaaDoor.QWi

/-! Was -/
/- What is taken was written: a text that begins bytes is told by its own encoding. -/
namespace Go.Proofs.YtlpcidjmaeicoaaDoor.DecPure
open Go Go.Proofs.YtlpcidjmaeicoaaDoor.DecM Go.Proofs.YtlpcidjmaeicoaaDoor.Giv

theorem text_was (s : ByteArray) (most : Int) (h : (takeText s most).2.2 = 0) : s = textS (takeText s most).1 ++ (takeText s most).2.1 ∧ ((takeText s most).1.size : Int) ≤ most ∧ (takeText s most).1.size < two64 := by
  unfold takeText at h ⊢
  by_cases h1 : ¬ (takeNum s).2.2 = 0
  · rw [if_pos h1] at h
    exact absurd h h1
  rw [if_neg h1] at h ⊢
  by_cases h2 : most < 0 ∨ (takeNum s).1 > most
  · rw [if_pos h2] at h
    cases h
  rw [if_neg h2] at h ⊢
  by_cases h3 : (takeNum s).1 > (takeNum s).2.1.size
  · rw [if_pos h3] at h
    cases h
  rw [if_neg h3]
  have h1' : (takeNum s).2.2 = 0 := Decidable.not_not.mp h1
  obtain ⟨n, e1, e2, e⟩ := take_was (s := s) (v := (takeNum s).1) (r := (takeNum s).2.1) (by rw [← h1'])
  clear h h1 h1'
  generalize (takeNum s).2.1 = r at *
  generalize (takeNum s).1 = v at *
  subst e1
  simp only [Int.toNat_natCast]
  have hn : n ≤ r.size := by omega
  have hsz : (r.extract 0 n).size = n := by
    rw [ByteArray.size_extract]
    omega
  refine ⟨?_, by rw [hsz]; omega, by rw [hsz]; exact e2⟩
  rw [e]
  unfold textS
  rw [hsz, ByteArray.append_assoc]
  congr 1
  apply bytes_ext
  rw [data_append, ext_upto, ext_from, List.take_append_drop]
end Go.Proofs.YtlpcidjmaeicoaaDoor.DecPure

/-! Enc -/
/- Numbers and texts written and taken, one behind the other: plain laws. -/
namespace Go.Proofs.YtlpcidjmaeicoaaDoor.Enc
open Go Go.RowKit Go.Proofs.YtlpcidjmaeicoaaDoor.DecM Go.Proofs.YtlpcidjmaeicoaaDoor.Giv Go.Proofs.YtlpcidjmaeicoaaDoor.Wire Go.Proofs.YtlpcidjmaeicoaaDoor.Reader

theorem asc (a b c : ByteArray) : a ++ b ++ c = a ++ (b ++ c) := by
  apply bytes_ext
  simp only [data_append, List.append_assoc]
theorem app_empty (a : ByteArray) : a ++ (⟨#[]⟩ : ByteArray) = a := by
  apply bytes_ext
  simp only [data_append, List.append_nil]
theorem size_nil {s : ByteArray} (h : s.size = 0) : s = (⟨#[]⟩ : ByteArray) := by
  apply bytes_ext
  have := len_size s
  rw [h] at this
  exact List.eq_nil_of_length_eq_zero this
/-! ### a number, a text -/
theorem nx_bad {α : Type} (s : ByteArray) (m : Int) (f : Int → ByteArray × Bool → α) : nx (s, true) m f = f 0 (s, true) :=
  nx_of (x := (s, true)) (v := (0, s, true)) f (if_pos (.inl rfl))
theorem tx_bad {α : Type} (s : ByteArray) (m : Int) (f : ByteArray → ByteArray × Bool → α) : tx (s, true) m f = f ByteArray.empty (s, true) :=
  tx_of (x := (s, true)) (v := (ByteArray.empty, s, true)) f (if_pos (.inl rfl))
theorem nx_back {α : Type} (n : Int) (r : ByteArray) (m : Int) (f : Int → ByteArray × Bool → α) (hn : 0 ≤ n ∧ n ≤ m) (hm : m ≤ 1073741824) : nx (numS n.toNat ++ r, false) m f = f n (r, false) := by
  have e := take_back n.toNat (by unfold two64; omega) r
  have en : ((n.toNat : Nat) : Int) = n := by omega
  rw [en] at e
  refine nx_of f (?_ : _ = (n, r, false))
  show numR (numS n.toNat ++ r) false m = _
  unfold numR
  rw [e]
  exact if_neg (by simp; omega)
theorem tx_back {α : Type} (t r : ByteArray) (m : Int) (f : ByteArray → ByteArray × Bool → α) (ht : (t.size : Int) ≤ m) (hm : m ≤ 1073741824) : tx (textS t ++ r, false) m f = f t (r, false) := by
  have e := DecPure.text_back t r m (by omega)
  rw [if_neg (by omega)] at e
  refine tx_of f (?_ : _ = (t, r, false))
  show textR (textS t ++ r) false m = _
  unfold textR
  rw [e]
  exact if_neg (by simp)
/-- What holds of a number's end: of the one that failed, and of what was written. -/
theorem nx_rule {s : ByteArray} {m : Int} {f : Int → ByteArray × Bool → Prop} (h0 : f 0 (s, true)) (h1 : ∀ (n : Int) (r : ByteArray), 0 ≤ n ∧ n ≤ m → s = numS n.toNat ++ r → f n (r, false)) : nx (s, false) m f := by
  by_cases hc : false = true ∨ ¬ (takeNum s).2.2 = 0 ∨ (takeNum s).1 > m
  · rw [nx_of f (show numR s false m = (0, s, true) from if_pos hc)]
    exact h0
  · rw [nx_of f (show numR s false m = ((takeNum s).1, (takeNum s).2.1, false) from if_neg hc)]
    simp only [not_or, Classical.not_not] at hc
    obtain ⟨n, e1, e2, e3⟩ := take_was (s := s) (v := (takeNum s).1) (r := (takeNum s).2.1) (by rw [← hc.2.1])
    refine h1 _ _ ⟨by omega, by omega⟩ ?_
    rw [e1, Int.toNat_natCast]
    exact e3
theorem tx_rule {s : ByteArray} {m : Int} {f : ByteArray → ByteArray × Bool → Prop} (h0 : f ByteArray.empty (s, true)) (h1 : ∀ (t r : ByteArray), (t.size : Int) ≤ m → s = textS t ++ r → f t (r, false)) : tx (s, false) m f := by
  by_cases hc : false = true ∨ ¬ (takeText s m).2.2 = 0
  · rw [tx_of f (show textR s false m = (ByteArray.empty, s, true) from if_pos hc)]
    exact h0
  · rw [tx_of f (show textR s false m = ((takeText s m).1, (takeText s m).2.1, false) from if_neg hc)]
    simp only [not_or, Classical.not_not] at hc
    obtain ⟨e1, e2, e3⟩ := DecPure.text_was s m hc.2
    exact h1 _ _ e2 e1
/-! ### what is written -/
theorem nums_one (a : Int) : numsS [a] = numS a.toNat := by
  apply bytes_ext
  simp [numsS, numP, glue]
theorem nums_cons (a b : Int) (l : List Int) : numsS (a :: b :: l) = numS a.toNat ++ numsS (b :: l) := by
  apply bytes_ext
  rw [data_append]
  simp [numsS, numP, glue]
theorem texts_one (t : ByteArray) : textsW [t] = textS t := by
  apply bytes_ext
  simp [textsW, textP, glue, textW, textS]
theorem texts_cons (t u : ByteArray) (l : List ByteArray) : textsW (t :: u :: l) = textS t ++ textsW (u :: l) := by
  apply bytes_ext
  rw [data_append]
  simp [textsW, textP, glue, textW, textS]
theorem numS_le (d n : Nat) (h : n < 10 ^ (d + 1)) : (numS n).size ≤ d + 2 := by
  have h1 := numL_len d n h
  unfold numS
  rw [strOfNums_size, List.length_append]
  simp
  omega
theorem numS_ge (n : Nat) : 1 ≤ (numS n).size := by
  unfold numS
  rw [strOfNums_size, List.length_append]
  simp
theorem num_size (n : Int) (h : 0 ≤ n ∧ n ≤ 1073741824) : (numS n.toNat).size ≤ 11 := numS_le 9 n.toNat (by omega)
theorem text_size (t : ByteArray) (h : t.size ≤ 64) : (textS t).size ≤ 3 + t.size := by
  have := numS_le 1 t.size (by omega)
  unfold textS
  rw [ByteArray.size_append]
  omega
theorem glue_len (l : List ByteArray) (d : Nat) (h : ∀ t ∈ l, t.size ≤ d) : (glue l).length ≤ d * l.length := by
  induction l with
  | nil => exact Nat.zero_le _
  | cons t l ih =>
    have e : glue (t :: l) = t.data.toList ++ glue l := rfl
    have h1 := h t (List.mem_cons_self ..)
    have h2 := ih fun u hu => h u (List.mem_cons_of_mem _ hu)
    rw [e, List.length_append, List.length_cons, len_size, Nat.mul_succ]
    omega
theorem nums_some (l : List Int) (hl : l.length ≤ 16) (h : ∀ x ∈ l, 0 ≤ x ∧ x ≤ 1073741824) : QWi.wire_nums.f l = some (numsS l) := by
  unfold QWi.wire_nums.f
  rw [if_pos ⟨by omega, List.all_eq_true.2 fun x hx => by have := h x hx; simp; omega⟩]
theorem texts_some (l : List ByteArray) (hl : l.length ≤ 16) (h : ∀ t ∈ l, t.size ≤ 64) : QWi.wire_texts.f l = some (textsW l) := by
  unfold QWi.wire_texts.f
  have h1 := glue_len (textP l) 67 (fun t ht => by
    obtain ⟨u, hu, rfl⟩ := List.mem_map.1 ht
    have := h u hu
    have h2 : (textW u).size ≤ 3 + u.size := text_size u this
    omega)
  have h2 : (textP l).length = l.length := List.length_map ..
  rw [h2] at h1
  rw [if_pos ⟨by omega, by omega⟩]
end Go.Proofs.YtlpcidjmaeicoaaDoor.Enc

/-! ReqP -/
/- Requests as bytes: plain laws. -/
namespace Go.Proofs.YtlpcidjmaeicoaaDoor.Enc
open Go Go.RowKit Go.Proofs.YtlpcidjmaeicoaaDoor.DecM Go.Proofs.YtlpcidjmaeicoaaDoor.Giv Go.Proofs.YtlpcidjmaeicoaaDoor.Wire Go.Proofs.YtlpcidjmaeicoaaDoor.Reader Go.Proofs.YtlpcidjmaeicoaaDoor.QWi

/-- A request's bytes. -/
def encQ (a0 a1 a2 a3 : Int) (t : ByteArray) (o : Int) (y v l h : ByteArray) (m : Int) : ByteArray :=
  numS a0.toNat ++ (numS a1.toNat ++ (numS a2.toNat ++ (numS a3.toNat ++ (textS t ++ (if a0 = 5 then numS o.toNat ++ (textS y ++ (textS v ++ (textS l ++ (textS h ++ numS m.toNat)))) else ⟨#[]⟩)))))
theorem encQ_size {a0 a1 a2 a3 : Int} {t : ByteArray} {o : Int} {y v l h : ByteArray} {m : Int} (hm : mayQ a0 a1 a2 a3 t o y v l h m) : 1 ≤ (encQ a0 a1 a2 a3 t o y v l h m).size ∧ (encQ a0 a1 a2 a3 t o y v l h m).size ≤ 2000 := by
  obtain ⟨p0, p1, p2, p3, p4, p5⟩ := hm
  have n0 := num_size a0 (by omega)
  have n1 := num_size a1 p1
  have n2 := num_size a2 p2
  have n3 := num_size a3 p3
  have n4 := text_size t (by omega)
  have n5 := numS_ge a0.toNat
  unfold encQ
  by_cases h5 : a0 = 5
  · rcases p5 with ⟨_, _, q2, q3, q4, q5, q6, q7⟩ | ⟨q0, _⟩
    · have m0 := num_size o (by omega)
      have m1 := num_size m q7
      have m2 := text_size y (by omega)
      have m3 := text_size v (by omega)
      have m4 := text_size l (by omega)
      have m5 := text_size h (by omega)
      simp only [if_pos h5, ByteArray.size_append]
      omega
    · exact absurd h5 q0
  · have e : (⟨#[]⟩ : ByteArray).size = 0 := rfl
    simp only [if_neg h5, ByteArray.size_append, e]
    omega
/-- What wire.Req gives. -/
theorem req_f (k : Nat) (a0 a1 a2 a3 : Int) (t : ByteArray) (o : Int) (y v l h : ByteArray) (m : Int) :
    wire_Req.f (k + 1) a0 a1 a2 a3 t o y v l h m = some (if mayQ a0 a1 a2 a3 t o y v l h m then (encQ a0 a1 a2 a3 t o y v l h m, 0) else (⟨#[]⟩, 1)) := by
  unfold wire_Req.f
  rw [wire_may, bsm]
  by_cases hm : mayQ a0 a1 a2 a3 t o y v l h m
  · rw [if_pos hm, if_pos (decide_eq_true hm)]
    have hs := encQ_size hm
    obtain ⟨p0, p1, p2, p3, p4, p5⟩ := hm
    have e1 : numsS [a0, a1, a2, a3] ++ textsW [t] = numS a0.toNat ++ (numS a1.toNat ++ (numS a2.toNat ++ (numS a3.toNat ++ textS t))) := by
      rw [nums_cons, nums_cons, nums_cons, nums_one, texts_one, asc, asc, asc]
    have k1 : (numsS [a0, a1, a2, a3]).size + (textsW [t]).size ≤ 9223372036854775807 := by
      rw [← ByteArray.size_append, e1]
      have n0 := num_size a0 (by omega)
      have n1 := num_size a1 p1
      have n2 := num_size a2 p2
      have n3 := num_size a3 p3
      have n4 := text_size t (by omega)
      simp only [ByteArray.size_append]
      omega
    rw [nums_some [a0, a1, a2, a3] (by simp) (by
      intro x hx
      simp only [List.mem_cons, List.not_mem_nil, or_false] at hx
      rcases hx with rfl | rfl | rfl | rfl
      · omega
      · exact p1
      · exact p2
      · exact p3), bsm, texts_some [t] (by simp) (by
      intro x hx
      rw [List.mem_singleton.1 hx]
      omega), bsm, if_pos k1]
    by_cases h5 : a0 = 5
    · rcases p5 with ⟨_, _, q2, q3, q4, q5, q6, q7⟩ | ⟨q0, _⟩
      · have e2 : numsS [o] ++ textsW [y, v, l, h] = numS o.toNat ++ (textS y ++ (textS v ++ (textS l ++ textS h))) := by
          rw [nums_one, texts_cons, texts_cons, texts_cons, texts_one]
        have m0 := num_size o (by omega)
        have m1 := num_size m q7
        have m2 := text_size y (by omega)
        have m3 := text_size v (by omega)
        have m4 := text_size l (by omega)
        have m5 := text_size h (by omega)
        have e3 : (numsS [o] ++ textsW [y, v, l, h]) ++ numsS [m] = numS o.toNat ++ (textS y ++ (textS v ++ (textS l ++ (textS h ++ numS m.toNat)))) := by
          rw [e2, nums_one, asc, asc, asc, asc]
        have e4 : (numsS [a0, a1, a2, a3] ++ textsW [t]) ++ ((numsS [o] ++ textsW [y, v, l, h]) ++ numsS [m]) = encQ a0 a1 a2 a3 t o y v l h m := by
          unfold encQ
          rw [e1, e3, if_pos h5, asc, asc, asc, asc]
        rw [if_pos h5, nums_some [o] (by simp) (by
          intro x hx
          rw [List.mem_singleton.1 hx]
          omega), bsm, texts_some [y, v, l, h] (by simp) (by
          intro x hx
          simp only [List.mem_cons, List.not_mem_nil, or_false] at hx
          rcases hx with rfl | rfl | rfl | rfl
          · omega
          · omega
          · omega
          · omega), bsm, if_pos (by rw [← ByteArray.size_append, e2]; simp only [ByteArray.size_append]; omega), nums_some [m] (by simp) (by
          intro x hx
          rw [List.mem_singleton.1 hx]
          exact q7), bsm, if_pos (by rw [← ByteArray.size_append, e3]; simp only [ByteArray.size_append]; omega), if_pos (by rw [← ByteArray.size_append, e4]; omega), e4]
      · exact absurd h5 q0
    · have e4 : numsS [a0, a1, a2, a3] ++ textsW [t] = encQ a0 a1 a2 a3 t o y v l h m := by
        unfold encQ
        rw [e1, if_neg h5, app_empty]
      rw [if_neg h5, e4]
  · rw [if_neg hm, if_neg (fun h => hm (of_decide_eq_true h))]
/-- The fields, one behind the other. -/
def parseQ {α : Type} (x : ByteArray × Bool) (f : Int → Int → Int → Int → ByteArray → Int → ByteArray → ByteArray → ByteArray → ByteArray → Int → ByteArray × Bool → α) : α :=
  nx x 6 fun a1 x1 => nx x1 1073741824 fun a2 x2 => nx x2 1073741824 fun a3 x3 => nx x3 1073741824 fun a4 x4 => tx x4 16 fun a5 x5 =>
  if a1 = 5 then nx x5 6 fun a6 x6 => tx x6 32 fun a7 x7 => tx x7 64 fun a8 x8 => tx x8 32 fun a9 x9 => tx x9 32 fun a10 x10 => nx x10 1073741824 fun a11 x11 => f a1 a2 a3 a4 a5 a6 a7 a8 a9 a10 a11 x11
  else f a1 a2 a3 a4 a5 0 ⟨#[]⟩ ⟨#[]⟩ ⟨#[]⟩ ⟨#[]⟩ 0 x5
theorem takeReq_parse (s : ByteArray) : takeReqF s = if 2048 < s.size then zq 4 else parseQ (s, false) fun a0 a1 a2 a3 t o y v l h m x => lastQ x (goodQ a0 a1 a2 a3 t o y v l h m) := rfl
/-- A parse, by its fields. -/
theorem parse_at (x : ByteArray × Bool) : ∃ a0 a1 a2 a3 t o y v l h m z, ∀ {α : Type} (f : Int → Int → Int → Int → ByteArray → Int → ByteArray → ByteArray → ByteArray → ByteArray → Int → ByteArray × Bool → α), parseQ x f = f a0 a1 a2 a3 t o y v l h m z := by
  unfold parseQ nx tx
  by_cases h5 : (numR x.1 x.2 6).1 = 5
  · simp only [if_pos h5]
    exact ⟨_, _, _, _, _, _, _, _, _, _, _, _, fun f => rfl⟩
  · simp only [if_neg h5]
    exact ⟨_, _, _, _, _, _, _, _, _, _, _, _, fun f => rfl⟩
theorem parse_back {α : Type} {a0 a1 a2 a3 : Int} {t : ByteArray} {o : Int} {y v l h : ByteArray} {m : Int} (hm : mayQ a0 a1 a2 a3 t o y v l h m) (r : ByteArray) (f : Int → Int → Int → Int → ByteArray → Int → ByteArray → ByteArray → ByteArray → ByteArray → Int → ByteArray × Bool → α) :
    parseQ (encQ a0 a1 a2 a3 t o y v l h m ++ r, false) f = f a0 a1 a2 a3 t o y v l h m (r, false) := by
  obtain ⟨p0, p1, p2, p3, p4, p5⟩ := hm
  unfold parseQ encQ
  rw [asc, nx_back a0 _ 6 _ (by omega) (by omega), asc, nx_back a1 _ _ _ p1 (by omega), asc, nx_back a2 _ _ _ p2 (by omega), asc, nx_back a3 _ _ _ p3 (by omega), asc, tx_back t _ _ _ (by omega) (by omega)]
  rcases p5 with ⟨q0, q1, q2, q3, q4, q5, q6, q7⟩ | ⟨q0, q1, q2, q3, q4, q5, q6, _⟩
  · rw [if_pos q0, if_pos q0, asc, nx_back o _ 6 _ (by omega) (by omega), asc, tx_back y _ _ _ (by omega) (by omega), asc, tx_back v _ _ _ (by omega) (by omega), asc, tx_back l _ _ _ (by omega) (by omega), asc, tx_back h _ _ _ (by omega) (by omega), nx_back m _ _ _ q7 (by omega)]
  · rw [if_neg q0, if_neg q0, q1, size_nil q2, size_nil q3, size_nil q4, size_nil q5, q6]
    have e : (⟨#[]⟩ : ByteArray) ++ r = r := by
      apply bytes_ext
      simp only [data_append, List.nil_append]
    rw [e]
/-- What was parsed whole was written. -/
theorem parse_was (s : ByteArray) : parseQ (s, false) fun a0 a1 a2 a3 t o y v l h m x => x.2 = false → s = encQ a0 a1 a2 a3 t o y v l h m ++ x.1 := by
  unfold parseQ
  refine nx_rule (by simp only [nx_bad, tx_bad]; intro h; cases h) fun a0 r0 b0 e0 => ?_
  refine nx_rule (by simp only [nx_bad, tx_bad]; split <;> (intro h; cases h)) fun a1 r1 b1 e1 => ?_
  refine nx_rule (by simp only [nx_bad, tx_bad]; split <;> (intro h; cases h)) fun a2 r2 b2 e2 => ?_
  refine nx_rule (by simp only [nx_bad, tx_bad]; split <;> (intro h; cases h)) fun a3 r3 b3 e3 => ?_
  refine tx_rule (by simp only [nx_bad, tx_bad]; split <;> (intro h; cases h)) fun t r4 b4 e4 => ?_
  subst e4 e3 e2 e1
  by_cases h5 : a0 = 5
  · rw [if_pos h5]
    refine nx_rule (by simp only [nx_bad, tx_bad]; intro h; cases h) fun o r5 b5 e5 => ?_
    refine tx_rule (by simp only [nx_bad, tx_bad]; intro h; cases h) fun y r6 b6 e6 => ?_
    refine tx_rule (by simp only [nx_bad, tx_bad]; intro h; cases h) fun v r7 b7 e7 => ?_
    refine tx_rule (by simp only [nx_bad, tx_bad]; intro h; cases h) fun l r8 b8 e8 => ?_
    refine tx_rule (by simp only [nx_bad]; intro h; cases h) fun h r9 b9 e9 => ?_
    refine nx_rule (by intro h; cases h) fun m r10 b10 e10 => ?_
    subst e10 e9 e8 e7 e6 e5
    intro _
    rw [e0]
    unfold encQ
    rw [if_pos h5]
    simp only [asc]
  · rw [if_neg h5]
    intro _
    rw [e0]
    unfold encQ
    rw [if_neg h5]
    have e : ∀ r : ByteArray, (⟨#[]⟩ : ByteArray) ++ r = r := fun r => by
      apply bytes_ext
      simp only [data_append, List.nil_append]
    simp only [asc, e]
/-- What is taken was written by the same bytes; else it is ErrBig or ErrForm. -/
theorem take_req (s : ByteArray) : (∃ a0 a1 a2 a3 t o y v l h m, mayQ a0 a1 a2 a3 t o y v l h m ∧ s = encQ a0 a1 a2 a3 t o y v l h m ∧ takeReqF s = (a0, a1, a2, a3, t, o, y, v, l, h, m, 0)) ∨ takeReqF s = (if 2048 < s.size then zq 4 else zq 3) := by
  rw [takeReq_parse]
  by_cases hs : 2048 < s.size
  · exact .inr (by rw [if_pos hs, if_pos hs])
  rw [if_neg hs, if_neg hs]
  obtain ⟨a0, a1, a2, a3, t, o, y, v, l, h, m, x, hp⟩ := parse_at (s, false)
  have hw := parse_was s
  rw [hp] at hw
  rw [hp]
  unfold lastQ
  by_cases hx : x.2 = true ∨ ¬ x.1.size = 0
  · exact .inr (if_pos hx)
  · rw [if_neg hx]
    unfold goodQ
    by_cases hm : mayQ a0 a1 a2 a3 t o y v l h m
    · rw [if_pos hm]
      simp only [not_or, Classical.not_not] at hx
      have e := hw (by simpa using hx.1)
      rw [size_nil hx.2, app_empty] at e
      exact .inl ⟨a0, a1, a2, a3, t, o, y, v, l, h, m, hm, e, rfl⟩
    · exact .inr (if_neg hm)
theorem take_of {a0 a1 a2 a3 : Int} {t : ByteArray} {o : Int} {y v l h : ByteArray} {m : Int} (hm : mayQ a0 a1 a2 a3 t o y v l h m) : takeReqF (encQ a0 a1 a2 a3 t o y v l h m) = (a0, a1, a2, a3, t, o, y, v, l, h, m, 0) := by
  have hs := encQ_size hm
  have e := parse_back hm (⟨#[]⟩ : ByteArray) (fun a0 a1 a2 a3 t o y v l h m x => lastQ x (goodQ a0 a1 a2 a3 t o y v l h m))
  rw [app_empty] at e
  rw [takeReq_parse, if_neg (by omega), e]
  unfold lastQ goodQ
  rw [if_neg (by rintro (h | h); · cases h
                 · exact h rfl), if_pos hm]
/-- The document's example. -/
theorem shown_f (k : Nat) : stanchionlaw16_shown.f (k + 1) = some true := by
  unfold stanchionlaw16_shown.f
  have h1 : (⟨#[116]⟩ : ByteArray).size = 1 := rfl
  have h0 : (⟨#[]⟩ : ByteArray).size = 0 := rfl
  have hm : mayQ 4 1 2 3 (⟨#[116]⟩ : ByteArray) 0 (⟨#[]⟩ : ByteArray) (⟨#[]⟩ : ByteArray) (⟨#[]⟩ : ByteArray) (⟨#[]⟩ : ByteArray) 0 := by
    unfold mayQ
    rw [h1, h0]
    decide
  rw [req_f, bsm, if_pos hm]
  have e : (encQ 4 1 2 3 (⟨#[116]⟩ : ByteArray) 0 (⟨#[]⟩ : ByteArray) (⟨#[]⟩ : ByteArray) (⟨#[]⟩ : ByteArray) (⟨#[]⟩ : ByteArray) 0).toList = ([52, 59, 49, 59, 50, 59, 51, 59, 49, 59, 116] : List UInt8) := by
    rw [Lib.toList_data]
    unfold encQ textS
    simp only [data_append, numS_data, h1]
    rw [show (4 : Int).toNat = 4 from rfl, show (1 : Int).toNat = 1 from rfl, show (2 : Int).toNat = 2 from rfl, show (3 : Int).toNat = 3 from rfl, figL_small (by omega), figL_small (by omega), figL_small (by omega), figL_small (by omega)]
    rfl
  rw [if_pos e]
  rfl
end Go.Proofs.YtlpcidjmaeicoaaDoor.Enc

/-! ApartP -/
/- WireApart in plain Lean: of requests that are not the same the bytes are not; what is taken was written so. -/
namespace Go.Proofs.YtlpcidjmaeicoaaDoor.Enc
open Go Go.RowKit Go.Proofs.YtlpcidjmaeicoaaDoor.DecM Go.Proofs.YtlpcidjmaeicoaaDoor.Giv Go.Proofs.YtlpcidjmaeicoaaDoor.Wire Go.Proofs.YtlpcidjmaeicoaaDoor.Reader Go.Proofs.YtlpcidjmaeicoaaDoor.QWi

theorem list_iff (a b : ByteArray) : a.toList = b.toList ↔ a = b := by
  rw [Lib.toList_data, Lib.toList_data]
  exact ⟨fun h => bytes_ext h, fun h => by rw [h]⟩
theorem list_beq (a b : ByteArray) : (a.toList == b.toList) = decide (a = b) := by
  rw [Bool.eq_iff_iff, beq_iff_eq, decide_eq_true_eq]
  exact list_iff a b
theorem fields_beq (a0 a1 a2 a3 : Int) (t : ByteArray) (o : Int) (y v l h : ByteArray) (m : Int) (b0 b1 b2 b3 : Int) (t' : ByteArray) (o' : Int) (y' v' l' h' : ByteArray) (m' : Int) :
    (a0 == b0 && (a1 == b1 && (a2 == b2 && (a3 == b3 && (t.toList == t'.toList && ((o == o' && (y.toList == y'.toList && (v.toList == v'.toList && (l.toList == l'.toList && (h.toList == h'.toList && (m == m')))))))))))) = decide (a0 = b0 ∧ a1 = b1 ∧ a2 = b2 ∧ a3 = b3 ∧ t = t' ∧ o = o' ∧ y = y' ∧ v = v' ∧ l = l' ∧ h = h' ∧ m = m') := by
  rw [Bool.eq_iff_iff]
  simp only [Bool.and_eq_true, beq_iff_eq, list_iff, decide_eq_true_eq]
theorem apart_j0 (k : Nat) (s : ByteArray) : stanchionlaw16_WireApart.j0 (k + 2) s true false = some true := by
  rw [stanchionlaw16_WireApart.j0, if_neg (by decide)]
  unfold wire_TakeReq.f
  rw [bsm]
  rcases take_req s with ⟨a0, a1, a2, a3, t, o, y, v, l, h, m, hm, e1, e2⟩ | e
  · rw [e2, if_pos rfl, req_f, if_pos hm, bsm, if_pos (by rw [e1]), if_pos rfl]
  · rw [e]
    by_cases hs : 2048 < s.size
    · rw [if_pos hs]
      exact if_neg (by decide)
    · rw [if_neg hs]
      exact if_neg (by decide)
theorem Apart (a0 a1 a2 a3 : Int) (t : ByteArray) (o : Int) (y v l h : ByteArray) (m : Int) (b0 b1 b2 b3 : Int) (t' : ByteArray) (o' : Int) (y' v' l' h' : ByteArray) (m' : Int) (s : ByteArray) :
    ∃ k, stanchionlaw16_WireApart.f k a0 a1 a2 a3 t o y v l h m b0 b1 b2 b3 t' o' y' v' l' h' m' s = some true := by
  refine ⟨0 + 2, ?_⟩
  unfold stanchionlaw16_WireApart.f
  rw [shown_f, bsm, req_f, bsm, req_f, bsm]
  by_cases hm : mayQ a0 a1 a2 a3 t o y v l h m
  · rw [if_pos hm]
    by_cases hm' : mayQ b0 b1 b2 b3 t' o' y' v' l' h' m'
    · rw [if_pos hm', if_pos rfl, if_pos rfl, fields_beq, list_beq]
      have e : decide (encQ a0 a1 a2 a3 t o y v l h m = encQ b0 b1 b2 b3 t' o' y' v' l' h' m') = decide (a0 = b0 ∧ a1 = b1 ∧ a2 = b2 ∧ a3 = b3 ∧ t = t' ∧ o = o' ∧ y = y' ∧ v = v' ∧ l = l' ∧ h = h' ∧ m = m') := by
        refine decide_eq_decide.2 ⟨fun he => ?_, fun he => ?_⟩
        · have k1 := take_of hm
          rw [he, take_of hm'] at k1
          simp only [Prod.mk.injEq] at k1
          obtain ⟨h0, h1, h2, h3, h4, h5, h6, h7, h8, h9, h10, _⟩ := k1
          exact ⟨h0.symm, h1.symm, h2.symm, h3.symm, h4.symm, h5.symm, h6.symm, h7.symm, h8.symm, h9.symm, h10.symm⟩
        · obtain ⟨rfl, rfl, rfl, rfl, rfl, rfl, rfl, rfl, rfl, rfl, rfl⟩ := he
          rfl
      dsimp only
      rw [e, bne_self_eq_false]
      exact apart_j0 0 s
    · rw [if_neg hm', if_pos rfl, if_neg (by decide)]
      exact apart_j0 0 s
  · rw [if_neg hm, if_neg (by decide)]
    exact apart_j0 0 s
end Go.Proofs.YtlpcidjmaeicoaaDoor.Enc

/-! OpenRow -/
/- A row of texts (or of numbers) among the arguments, opened for the printed contracts; what the bound on the bulk says of it. -/
namespace Go.Proofs.YtlpcidjmaeicoaaDoor.OpenRow
open Go Go.ChangeShapes Go.WideShapes Go.RowKit Go.Proofs.YtlpcidjmaeicoaaDoorW.PrintWords

/-- How many letters and texts a row holds. -/
def rowBulk : List ByteArray → Nat
  | [] => 0
  | t :: l => t.size + 1 + rowBulk l
section
variable {H : Type} {enc : TypeId × Value → H} {P : Program} {W : World} {t e : TypeId} {fuel : Nat} {A0 : Option Addr} {n0 c0 : Nat} {x : DataW H × List MemPlace}
end
theorem agg_bulk {H : Type} {d : DataW H} {p : List MemPlace} {xs : List (DataW H × List MemPlace)} (h : (d, p) = (.agg (xs.map (·.1)), xs.flatMap (·.2))) : Rows.uptoBulk d = Rows.uptoBulkAll (xs.map (·.1)) + 1 := by
  obtain rfl := (Prod.mk.inj h).1
  simp only [Rows.uptoBulk]
theorem agg_bulk1 {H : Type} {y : DataW H × List MemPlace} {xs : List (DataW H × List MemPlace)} (h : y = (.agg (xs.map (·.1)), xs.flatMap (·.2))) : Rows.uptoBulk y.1 = Rows.uptoBulkAll (xs.map (·.1)) + 1 := by
  subst h
  simp only [Rows.uptoBulk]
theorem str_bulk0 {H : Type} (s : ByteArray) : Rows.uptoBulk (DataW.lit (H := H) (.string s.data.toList)) = s.size + 1 := by
  simp only [Rows.uptoBulk]
  rw [Array.length_toList]
  rfl
theorem str_bulk {H : Type} {y : DataW H × List MemPlace} {s : ByteArray} (h : y = (.lit (.string s.data.toList), [])) : Rows.uptoBulk y.1 = s.size + 1 := by
  subst h
  exact str_bulk0 s
end Go.Proofs.YtlpcidjmaeicoaaDoor.OpenRow

/-! Laid -/
/- The one variable that the rows list, errors.errorType: what the condition gives a walk, and a world that meets it (after the worked proof Toyas). -/
namespace Go.Proofs.YtlpcidjmaeicoaaDoor.Laid
open Go Go.RowKit Go.ChangeShapes Go.WideShapes Go.ChangeAt

def list : List (String × DataW Unit) := [("errors.errorType", Rows.laid_errors_errorType)]
theorem et : Tryd.prog.globalNamed "errors.errorType" = some 0 := by kernel_rfl
theorem rt : (Tryd.prog.cutTypes.find? (·.1 == "internal/reflectlite.rtype")).map (·.2) = some 129 := by kernel_rfl
theorem oneRow : ((List.range 172).filter fun t => Tryd.prog.rowNamed t [101, 114, 114, 111, 114]) = [58] := by kernel_rfl
theorem size : Tryd.prog.types.size = 172 := by kernel_rfl
theorem handle_of_laid {W : World} (h : laidMetH Tryd.prog list W) : Reader.Handle W := by
  have h' : laidMet Tryd.prog [] W ∧ handlesMet Tryd.prog list W := h
  obtain ⟨name, u, ty, e1, e2, e3, e4, e5⟩ := h'.2 _ (List.mem_singleton.2 rfl)
  have en : name = [101, 114, 114, 111, 114] := (Option.some.inj e1).symm
  subst en
  obtain rfl := Option.some.inj (rt.symm.trans e2)
  have hm : ty ∈ (List.range 172).filter fun t => Tryd.prog.rowNamed t [101, 114, 114, 111, 114] := List.mem_filter.2 ⟨List.mem_range.2 (by rw [← size]; exact e3), e4⟩
  rw [oneRow] at hm
  obtain rfl := List.mem_singleton.1 hm
  have hh : typeHandle Tryd.prog 58 = .pointer (some ⟨1, 58, none⟩) := by kernel_rfl
  rw [hh] at e5
  unfold Reader.Handle
  simpa using World.var?_cell et e5 0
/-- A world that meets the condition: the settled one, the variable's cell laid. -/
noncomputable def world (os : Os) : World :=
  { World.holding Tryd.prog os ⟨#[], #[], []⟩ with heap := (World.holding Tryd.prog os ⟨#[], #[], []⟩).heap.modify 0 fun
      | .cells _ t frozen => .cells #[.iface 129 (.agg #[.pointer (some ⟨1, 58, none⟩)])] t frozen
      | o => o }
theorem world_met (os : Os) (args : Array Value) : laidMetH Tryd.prog list ((world os).forCall (fun _ _ => 0) ⟨#[], args, []⟩).memory :=
  laidMetH_of_parts (laidMet_nil _ _) (by kernel_rfl)
end Go.Proofs.YtlpcidjmaeicoaaDoor.Laid

/-! UpWireApart -/
/- WireApart returns true for every input that can be read, the package-level variable errors.errorType reading as its initialiser lays it (which the card ties to the program's text): the card, out of the printed contract and the plain law. -/
namespace Go.Proofs.YtlpcidjmaeicoaaDoor.wireApart
open Go.ChangeShapes Go.WideShapes Go.ChangeAt Go.RowKit
open Go.ChangeMaps (open_string shut_string)
set_option linter.unusedVariables false
theorem len6 {α : Type} {l : List α} (h : l.length = 6) : ∃ a0 a1 a2 a3 a4 a5, l = [a0, a1, a2, a3, a4, a5] :=
  match l, h with
  | [a0, a1, a2, a3, a4, a5], _ => ⟨a0, a1, a2, a3, a4, a5, rfl⟩
theorem len11 {α : Type} {l : List α} (h : l.length = 11) : ∃ a0 a1 a2 a3 a4 a5 a6 a7 a8 a9 a10, l = [a0, a1, a2, a3, a4, a5, a6, a7, a8, a9, a10] :=
  match l, h with
  | [a0, a1, a2, a3, a4, a5, a6, a7, a8, a9, a10], _ => ⟨a0, a1, a2, a3, a4, a5, a6, a7, a8, a9, a10, rfl⟩
theorem own : ownKnob Tryd.prog.godebug = none := by kernel_rfl
theorem laidOut : laidOutB Tryd.prog = true := by kernel_rfl
theorem c3 : Tryd.prog.cellsOf 3 = 1 := by kernel_rfl
theorem c9 : Tryd.prog.cellsOf 9 = 1 := by kernel_rfl
theorem c23 : Tryd.prog.cellsOf 23 = 6 := by kernel_rfl
theorem c25 : Tryd.prog.cellsOf 25 = 11 := by kernel_rfl
set_option maxRecDepth 100000 in
theorem contract (H : Type) (enc : TypeId × Value → H) (W : World) (base : Nat) (args : Array Value) (ds gs : List (DataW H)) (before : List MemPlace)
    (hval0 : ∀ (j : Nat) t v, Tryd.f4.params[j]? = some t → args[j]? = some v → Value.okWide Tryd.prog W .any base t v)
    (hW : DataW.Whole enc Tryd.prog Tryd.f4.params.toList Rows.wireApartSpec.vars false W args.toList ds gs before) (hL : laidMetH Tryd.prog Rows.wireApartRow.laid W) :
    Calls Tryd.prog 4 args W fun e W' => ∃ v, e = .returned v ∧ Rows.wireApartSpec.post enc Tryd.prog Tryd.f4 false true false false W args v W' := by
  have hval : ∀ (j : Nat) t v, Tryd.f4.params[j]? = some t → args[j]? = some v → Value.okWide Tryd.prog W .any base t v := hval0
  have hW' := hW
  obtain ⟨p, q, hA0, hV, rfl, hfz, hnd⟩ := hW
  have hA : DataW.TrodAll enc Tryd.prog W 0 (fun _ => true) true Tryd.f4.params.toList args.toList ds p := hA0
  rw [Tryd.params4] at hA hval
  obtain ⟨v0, vs0, d0, ds0, p0, q0, hargs, rfl, rfl, h0, r0⟩ := trodAll_cons hA
  obtain ⟨v1, vs1, d1, ds1, p1, q1, rfl, rfl, rfl, h1, r1⟩ := trodAll_cons r0
  obtain ⟨v2, vs2, d2, ds2, p2, q2, rfl, rfl, rfl, h2, r2⟩ := trodAll_cons r1
  obtain ⟨rfl, rfl, rfl⟩ := trodAll_nil r2
  obtain rfl : args = #[v0, v1, v2] := by cases args; simp_all
  obtain ⟨rfl, rfl⟩ := trodVars_none hV
  have h0k := h0
  obtain ⟨cs0, rfl, hs0⟩ := okWide_struct Tryd.underlying25 (hval 0 25 v0 rfl rfl)
  obtain ⟨lx0⟩ := cs0
  rw [c25] at hs0
  obtain ⟨c0_0c, c0_1c, c0_2c, c0_3c, c0_4c, c0_5c, c0_6c, c0_7c, c0_8c, c0_9c, c0_10c, rfl⟩ := len11 hs0
  obtain ⟨n0, f0⟩ := h0
  have f0x : DataW.trod enc Tryd.prog W 0 (fun _ => true) true n0 25 [c0_0c, c0_1c, c0_2c, c0_3c, c0_4c, c0_5c, c0_6c, c0_7c, c0_8c, c0_9c, c0_10c] = some (d0, p0) := f0
  obtain ⟨xs0, n0, _, ex0, _, hl0, hg0⟩ := DataW.trod_struct Tryd.underlying25 f0x
  obtain ⟨y0_0, y0_1, y0_2, y0_3, y0_4, y0_5, rfl⟩ := len6 hl0
  have eb0 := OpenRow.agg_bulk ex0
  simp only [Rows.uptoBulkAll, List.map_cons, List.map_nil] at eb0
  have g0_0 : DataW.trod enc Tryd.prog W 0 (fun _ => true) true n0 3 [c0_0c] = some y0_0 := by
    have z : DataW.trod enc Tryd.prog W 0 (fun _ => true) true n0 3 (([c0_0c, c0_1c, c0_2c, c0_3c, c0_4c, c0_5c, c0_6c, c0_7c, c0_8c, c0_9c, c0_10c].drop 0).take (Tryd.prog.cellsOf 3)) = [y0_0, y0_1, y0_2, y0_3, y0_4, y0_5][0]? := hg0 0 _ rfl
    rw [c3] at z
    exact z
  have g0_1 : DataW.trod enc Tryd.prog W 0 (fun _ => true) true n0 3 [c0_1c] = some y0_1 := by
    have z : DataW.trod enc Tryd.prog W 0 (fun _ => true) true n0 3 (([c0_0c, c0_1c, c0_2c, c0_3c, c0_4c, c0_5c, c0_6c, c0_7c, c0_8c, c0_9c, c0_10c].drop 1).take (Tryd.prog.cellsOf 3)) = [y0_0, y0_1, y0_2, y0_3, y0_4, y0_5][1]? := hg0 1 _ rfl
    rw [c3] at z
    exact z
  have g0_2 : DataW.trod enc Tryd.prog W 0 (fun _ => true) true n0 3 [c0_2c] = some y0_2 := by
    have z : DataW.trod enc Tryd.prog W 0 (fun _ => true) true n0 3 (([c0_0c, c0_1c, c0_2c, c0_3c, c0_4c, c0_5c, c0_6c, c0_7c, c0_8c, c0_9c, c0_10c].drop 2).take (Tryd.prog.cellsOf 3)) = [y0_0, y0_1, y0_2, y0_3, y0_4, y0_5][2]? := hg0 2 _ rfl
    rw [c3] at z
    exact z
  have g0_3 : DataW.trod enc Tryd.prog W 0 (fun _ => true) true n0 3 [c0_3c] = some y0_3 := by
    have z : DataW.trod enc Tryd.prog W 0 (fun _ => true) true n0 3 (([c0_0c, c0_1c, c0_2c, c0_3c, c0_4c, c0_5c, c0_6c, c0_7c, c0_8c, c0_9c, c0_10c].drop 3).take (Tryd.prog.cellsOf 3)) = [y0_0, y0_1, y0_2, y0_3, y0_4, y0_5][3]? := hg0 3 _ rfl
    rw [c3] at z
    exact z
  have g0_4 : DataW.trod enc Tryd.prog W 0 (fun _ => true) true n0 9 [c0_4c] = some y0_4 := by
    have z : DataW.trod enc Tryd.prog W 0 (fun _ => true) true n0 9 (([c0_0c, c0_1c, c0_2c, c0_3c, c0_4c, c0_5c, c0_6c, c0_7c, c0_8c, c0_9c, c0_10c].drop 4).take (Tryd.prog.cellsOf 9)) = [y0_0, y0_1, y0_2, y0_3, y0_4, y0_5][4]? := hg0 4 _ rfl
    rw [c9] at z
    exact z
  have g0_5 : DataW.trod enc Tryd.prog W 0 (fun _ => true) true n0 23 [c0_5c, c0_6c, c0_7c, c0_8c, c0_9c, c0_10c] = some y0_5 := by
    have z : DataW.trod enc Tryd.prog W 0 (fun _ => true) true n0 23 (([c0_0c, c0_1c, c0_2c, c0_3c, c0_4c, c0_5c, c0_6c, c0_7c, c0_8c, c0_9c, c0_10c].drop 5).take (Tryd.prog.cellsOf 23)) = [y0_0, y0_1, y0_2, y0_3, y0_4, y0_5][5]? := hg0 5 _ rfl
    rw [c23] at z
    exact z
  obtain ⟨a0_0, e0_0, q0_0, w0_0⟩ := DataW.trod_int Tryd.underlying3 g0_0
  simp only [List.cons.injEq, and_true] at e0_0
  subst e0_0
  obtain ⟨a0_1, e0_1, q0_1, w0_1⟩ := DataW.trod_int Tryd.underlying3 g0_1
  simp only [List.cons.injEq, and_true] at e0_1
  subst e0_1
  obtain ⟨a0_2, e0_2, q0_2, w0_2⟩ := DataW.trod_int Tryd.underlying3 g0_2
  simp only [List.cons.injEq, and_true] at e0_2
  subst e0_2
  obtain ⟨a0_3, e0_3, q0_3, w0_3⟩ := DataW.trod_int Tryd.underlying3 g0_3
  simp only [List.cons.injEq, and_true] at e0_3
  subst e0_3
  obtain ⟨a0_4, e0_4, q0_4, w0_4⟩ := DataW.trod_string Tryd.underlying9 g0_4
  simp only [List.cons.injEq, and_true] at e0_4
  subst e0_4
  have b0_4 := OpenRow.str_bulk q0_4
  obtain ⟨xs0_5, n0_5, _, ex0_5, _, hl0_5, hg0_5⟩ := DataW.trod_struct Tryd.underlying23 g0_5
  obtain ⟨y0_5_0, y0_5_1, y0_5_2, y0_5_3, y0_5_4, y0_5_5, rfl⟩ := len6 hl0_5
  have eb0_5 := OpenRow.agg_bulk1 ex0_5
  simp only [Rows.uptoBulkAll, List.map_cons, List.map_nil] at eb0_5
  have g0_5_0 : DataW.trod enc Tryd.prog W 0 (fun _ => true) true n0_5 3 [c0_5c] = some y0_5_0 := by
    have z : DataW.trod enc Tryd.prog W 0 (fun _ => true) true n0_5 3 (([c0_5c, c0_6c, c0_7c, c0_8c, c0_9c, c0_10c].drop 0).take (Tryd.prog.cellsOf 3)) = [y0_5_0, y0_5_1, y0_5_2, y0_5_3, y0_5_4, y0_5_5][0]? := hg0_5 0 _ rfl
    rw [c3] at z
    exact z
  have g0_5_1 : DataW.trod enc Tryd.prog W 0 (fun _ => true) true n0_5 9 [c0_6c] = some y0_5_1 := by
    have z : DataW.trod enc Tryd.prog W 0 (fun _ => true) true n0_5 9 (([c0_5c, c0_6c, c0_7c, c0_8c, c0_9c, c0_10c].drop 1).take (Tryd.prog.cellsOf 9)) = [y0_5_0, y0_5_1, y0_5_2, y0_5_3, y0_5_4, y0_5_5][1]? := hg0_5 1 _ rfl
    rw [c9] at z
    exact z
  have g0_5_2 : DataW.trod enc Tryd.prog W 0 (fun _ => true) true n0_5 9 [c0_7c] = some y0_5_2 := by
    have z : DataW.trod enc Tryd.prog W 0 (fun _ => true) true n0_5 9 (([c0_5c, c0_6c, c0_7c, c0_8c, c0_9c, c0_10c].drop 2).take (Tryd.prog.cellsOf 9)) = [y0_5_0, y0_5_1, y0_5_2, y0_5_3, y0_5_4, y0_5_5][2]? := hg0_5 2 _ rfl
    rw [c9] at z
    exact z
  have g0_5_3 : DataW.trod enc Tryd.prog W 0 (fun _ => true) true n0_5 9 [c0_8c] = some y0_5_3 := by
    have z : DataW.trod enc Tryd.prog W 0 (fun _ => true) true n0_5 9 (([c0_5c, c0_6c, c0_7c, c0_8c, c0_9c, c0_10c].drop 3).take (Tryd.prog.cellsOf 9)) = [y0_5_0, y0_5_1, y0_5_2, y0_5_3, y0_5_4, y0_5_5][3]? := hg0_5 3 _ rfl
    rw [c9] at z
    exact z
  have g0_5_4 : DataW.trod enc Tryd.prog W 0 (fun _ => true) true n0_5 9 [c0_9c] = some y0_5_4 := by
    have z : DataW.trod enc Tryd.prog W 0 (fun _ => true) true n0_5 9 (([c0_5c, c0_6c, c0_7c, c0_8c, c0_9c, c0_10c].drop 4).take (Tryd.prog.cellsOf 9)) = [y0_5_0, y0_5_1, y0_5_2, y0_5_3, y0_5_4, y0_5_5][4]? := hg0_5 4 _ rfl
    rw [c9] at z
    exact z
  have g0_5_5 : DataW.trod enc Tryd.prog W 0 (fun _ => true) true n0_5 3 [c0_10c] = some y0_5_5 := by
    have z : DataW.trod enc Tryd.prog W 0 (fun _ => true) true n0_5 3 (([c0_5c, c0_6c, c0_7c, c0_8c, c0_9c, c0_10c].drop 5).take (Tryd.prog.cellsOf 3)) = [y0_5_0, y0_5_1, y0_5_2, y0_5_3, y0_5_4, y0_5_5][5]? := hg0_5 5 _ rfl
    rw [c3] at z
    exact z
  obtain ⟨a0_5_0, e0_5_0, q0_5_0, w0_5_0⟩ := DataW.trod_int Tryd.underlying3 g0_5_0
  simp only [List.cons.injEq, and_true] at e0_5_0
  subst e0_5_0
  obtain ⟨a0_5_1, e0_5_1, q0_5_1, w0_5_1⟩ := DataW.trod_string Tryd.underlying9 g0_5_1
  simp only [List.cons.injEq, and_true] at e0_5_1
  subst e0_5_1
  have b0_5_1 := OpenRow.str_bulk q0_5_1
  obtain ⟨a0_5_2, e0_5_2, q0_5_2, w0_5_2⟩ := DataW.trod_string Tryd.underlying9 g0_5_2
  simp only [List.cons.injEq, and_true] at e0_5_2
  subst e0_5_2
  have b0_5_2 := OpenRow.str_bulk q0_5_2
  obtain ⟨a0_5_3, e0_5_3, q0_5_3, w0_5_3⟩ := DataW.trod_string Tryd.underlying9 g0_5_3
  simp only [List.cons.injEq, and_true] at e0_5_3
  subst e0_5_3
  have b0_5_3 := OpenRow.str_bulk q0_5_3
  obtain ⟨a0_5_4, e0_5_4, q0_5_4, w0_5_4⟩ := DataW.trod_string Tryd.underlying9 g0_5_4
  simp only [List.cons.injEq, and_true] at e0_5_4
  subst e0_5_4
  have b0_5_4 := OpenRow.str_bulk q0_5_4
  obtain ⟨a0_5_5, e0_5_5, q0_5_5, w0_5_5⟩ := DataW.trod_int Tryd.underlying3 g0_5_5
  simp only [List.cons.injEq, and_true] at e0_5_5
  subst e0_5_5
  have h1k := h1
  obtain ⟨cs1, rfl, hs1⟩ := okWide_struct Tryd.underlying25 (hval 1 25 v1 rfl rfl)
  obtain ⟨lx1⟩ := cs1
  rw [c25] at hs1
  obtain ⟨c1_0c, c1_1c, c1_2c, c1_3c, c1_4c, c1_5c, c1_6c, c1_7c, c1_8c, c1_9c, c1_10c, rfl⟩ := len11 hs1
  obtain ⟨n1, f1⟩ := h1
  have f1x : DataW.trod enc Tryd.prog W 0 (fun _ => true) true n1 25 [c1_0c, c1_1c, c1_2c, c1_3c, c1_4c, c1_5c, c1_6c, c1_7c, c1_8c, c1_9c, c1_10c] = some (d1, p1) := f1
  obtain ⟨xs1, n1, _, ex1, _, hl1, hg1⟩ := DataW.trod_struct Tryd.underlying25 f1x
  obtain ⟨y1_0, y1_1, y1_2, y1_3, y1_4, y1_5, rfl⟩ := len6 hl1
  have eb1 := OpenRow.agg_bulk ex1
  simp only [Rows.uptoBulkAll, List.map_cons, List.map_nil] at eb1
  have g1_0 : DataW.trod enc Tryd.prog W 0 (fun _ => true) true n1 3 [c1_0c] = some y1_0 := by
    have z : DataW.trod enc Tryd.prog W 0 (fun _ => true) true n1 3 (([c1_0c, c1_1c, c1_2c, c1_3c, c1_4c, c1_5c, c1_6c, c1_7c, c1_8c, c1_9c, c1_10c].drop 0).take (Tryd.prog.cellsOf 3)) = [y1_0, y1_1, y1_2, y1_3, y1_4, y1_5][0]? := hg1 0 _ rfl
    rw [c3] at z
    exact z
  have g1_1 : DataW.trod enc Tryd.prog W 0 (fun _ => true) true n1 3 [c1_1c] = some y1_1 := by
    have z : DataW.trod enc Tryd.prog W 0 (fun _ => true) true n1 3 (([c1_0c, c1_1c, c1_2c, c1_3c, c1_4c, c1_5c, c1_6c, c1_7c, c1_8c, c1_9c, c1_10c].drop 1).take (Tryd.prog.cellsOf 3)) = [y1_0, y1_1, y1_2, y1_3, y1_4, y1_5][1]? := hg1 1 _ rfl
    rw [c3] at z
    exact z
  have g1_2 : DataW.trod enc Tryd.prog W 0 (fun _ => true) true n1 3 [c1_2c] = some y1_2 := by
    have z : DataW.trod enc Tryd.prog W 0 (fun _ => true) true n1 3 (([c1_0c, c1_1c, c1_2c, c1_3c, c1_4c, c1_5c, c1_6c, c1_7c, c1_8c, c1_9c, c1_10c].drop 2).take (Tryd.prog.cellsOf 3)) = [y1_0, y1_1, y1_2, y1_3, y1_4, y1_5][2]? := hg1 2 _ rfl
    rw [c3] at z
    exact z
  have g1_3 : DataW.trod enc Tryd.prog W 0 (fun _ => true) true n1 3 [c1_3c] = some y1_3 := by
    have z : DataW.trod enc Tryd.prog W 0 (fun _ => true) true n1 3 (([c1_0c, c1_1c, c1_2c, c1_3c, c1_4c, c1_5c, c1_6c, c1_7c, c1_8c, c1_9c, c1_10c].drop 3).take (Tryd.prog.cellsOf 3)) = [y1_0, y1_1, y1_2, y1_3, y1_4, y1_5][3]? := hg1 3 _ rfl
    rw [c3] at z
    exact z
  have g1_4 : DataW.trod enc Tryd.prog W 0 (fun _ => true) true n1 9 [c1_4c] = some y1_4 := by
    have z : DataW.trod enc Tryd.prog W 0 (fun _ => true) true n1 9 (([c1_0c, c1_1c, c1_2c, c1_3c, c1_4c, c1_5c, c1_6c, c1_7c, c1_8c, c1_9c, c1_10c].drop 4).take (Tryd.prog.cellsOf 9)) = [y1_0, y1_1, y1_2, y1_3, y1_4, y1_5][4]? := hg1 4 _ rfl
    rw [c9] at z
    exact z
  have g1_5 : DataW.trod enc Tryd.prog W 0 (fun _ => true) true n1 23 [c1_5c, c1_6c, c1_7c, c1_8c, c1_9c, c1_10c] = some y1_5 := by
    have z : DataW.trod enc Tryd.prog W 0 (fun _ => true) true n1 23 (([c1_0c, c1_1c, c1_2c, c1_3c, c1_4c, c1_5c, c1_6c, c1_7c, c1_8c, c1_9c, c1_10c].drop 5).take (Tryd.prog.cellsOf 23)) = [y1_0, y1_1, y1_2, y1_3, y1_4, y1_5][5]? := hg1 5 _ rfl
    rw [c23] at z
    exact z
  obtain ⟨a1_0, e1_0, q1_0, w1_0⟩ := DataW.trod_int Tryd.underlying3 g1_0
  simp only [List.cons.injEq, and_true] at e1_0
  subst e1_0
  obtain ⟨a1_1, e1_1, q1_1, w1_1⟩ := DataW.trod_int Tryd.underlying3 g1_1
  simp only [List.cons.injEq, and_true] at e1_1
  subst e1_1
  obtain ⟨a1_2, e1_2, q1_2, w1_2⟩ := DataW.trod_int Tryd.underlying3 g1_2
  simp only [List.cons.injEq, and_true] at e1_2
  subst e1_2
  obtain ⟨a1_3, e1_3, q1_3, w1_3⟩ := DataW.trod_int Tryd.underlying3 g1_3
  simp only [List.cons.injEq, and_true] at e1_3
  subst e1_3
  obtain ⟨a1_4, e1_4, q1_4, w1_4⟩ := DataW.trod_string Tryd.underlying9 g1_4
  simp only [List.cons.injEq, and_true] at e1_4
  subst e1_4
  have b1_4 := OpenRow.str_bulk q1_4
  obtain ⟨xs1_5, n1_5, _, ex1_5, _, hl1_5, hg1_5⟩ := DataW.trod_struct Tryd.underlying23 g1_5
  obtain ⟨y1_5_0, y1_5_1, y1_5_2, y1_5_3, y1_5_4, y1_5_5, rfl⟩ := len6 hl1_5
  have eb1_5 := OpenRow.agg_bulk1 ex1_5
  simp only [Rows.uptoBulkAll, List.map_cons, List.map_nil] at eb1_5
  have g1_5_0 : DataW.trod enc Tryd.prog W 0 (fun _ => true) true n1_5 3 [c1_5c] = some y1_5_0 := by
    have z : DataW.trod enc Tryd.prog W 0 (fun _ => true) true n1_5 3 (([c1_5c, c1_6c, c1_7c, c1_8c, c1_9c, c1_10c].drop 0).take (Tryd.prog.cellsOf 3)) = [y1_5_0, y1_5_1, y1_5_2, y1_5_3, y1_5_4, y1_5_5][0]? := hg1_5 0 _ rfl
    rw [c3] at z
    exact z
  have g1_5_1 : DataW.trod enc Tryd.prog W 0 (fun _ => true) true n1_5 9 [c1_6c] = some y1_5_1 := by
    have z : DataW.trod enc Tryd.prog W 0 (fun _ => true) true n1_5 9 (([c1_5c, c1_6c, c1_7c, c1_8c, c1_9c, c1_10c].drop 1).take (Tryd.prog.cellsOf 9)) = [y1_5_0, y1_5_1, y1_5_2, y1_5_3, y1_5_4, y1_5_5][1]? := hg1_5 1 _ rfl
    rw [c9] at z
    exact z
  have g1_5_2 : DataW.trod enc Tryd.prog W 0 (fun _ => true) true n1_5 9 [c1_7c] = some y1_5_2 := by
    have z : DataW.trod enc Tryd.prog W 0 (fun _ => true) true n1_5 9 (([c1_5c, c1_6c, c1_7c, c1_8c, c1_9c, c1_10c].drop 2).take (Tryd.prog.cellsOf 9)) = [y1_5_0, y1_5_1, y1_5_2, y1_5_3, y1_5_4, y1_5_5][2]? := hg1_5 2 _ rfl
    rw [c9] at z
    exact z
  have g1_5_3 : DataW.trod enc Tryd.prog W 0 (fun _ => true) true n1_5 9 [c1_8c] = some y1_5_3 := by
    have z : DataW.trod enc Tryd.prog W 0 (fun _ => true) true n1_5 9 (([c1_5c, c1_6c, c1_7c, c1_8c, c1_9c, c1_10c].drop 3).take (Tryd.prog.cellsOf 9)) = [y1_5_0, y1_5_1, y1_5_2, y1_5_3, y1_5_4, y1_5_5][3]? := hg1_5 3 _ rfl
    rw [c9] at z
    exact z
  have g1_5_4 : DataW.trod enc Tryd.prog W 0 (fun _ => true) true n1_5 9 [c1_9c] = some y1_5_4 := by
    have z : DataW.trod enc Tryd.prog W 0 (fun _ => true) true n1_5 9 (([c1_5c, c1_6c, c1_7c, c1_8c, c1_9c, c1_10c].drop 4).take (Tryd.prog.cellsOf 9)) = [y1_5_0, y1_5_1, y1_5_2, y1_5_3, y1_5_4, y1_5_5][4]? := hg1_5 4 _ rfl
    rw [c9] at z
    exact z
  have g1_5_5 : DataW.trod enc Tryd.prog W 0 (fun _ => true) true n1_5 3 [c1_10c] = some y1_5_5 := by
    have z : DataW.trod enc Tryd.prog W 0 (fun _ => true) true n1_5 3 (([c1_5c, c1_6c, c1_7c, c1_8c, c1_9c, c1_10c].drop 5).take (Tryd.prog.cellsOf 3)) = [y1_5_0, y1_5_1, y1_5_2, y1_5_3, y1_5_4, y1_5_5][5]? := hg1_5 5 _ rfl
    rw [c3] at z
    exact z
  obtain ⟨a1_5_0, e1_5_0, q1_5_0, w1_5_0⟩ := DataW.trod_int Tryd.underlying3 g1_5_0
  simp only [List.cons.injEq, and_true] at e1_5_0
  subst e1_5_0
  obtain ⟨a1_5_1, e1_5_1, q1_5_1, w1_5_1⟩ := DataW.trod_string Tryd.underlying9 g1_5_1
  simp only [List.cons.injEq, and_true] at e1_5_1
  subst e1_5_1
  have b1_5_1 := OpenRow.str_bulk q1_5_1
  obtain ⟨a1_5_2, e1_5_2, q1_5_2, w1_5_2⟩ := DataW.trod_string Tryd.underlying9 g1_5_2
  simp only [List.cons.injEq, and_true] at e1_5_2
  subst e1_5_2
  have b1_5_2 := OpenRow.str_bulk q1_5_2
  obtain ⟨a1_5_3, e1_5_3, q1_5_3, w1_5_3⟩ := DataW.trod_string Tryd.underlying9 g1_5_3
  simp only [List.cons.injEq, and_true] at e1_5_3
  subst e1_5_3
  have b1_5_3 := OpenRow.str_bulk q1_5_3
  obtain ⟨a1_5_4, e1_5_4, q1_5_4, w1_5_4⟩ := DataW.trod_string Tryd.underlying9 g1_5_4
  simp only [List.cons.injEq, and_true] at e1_5_4
  subst e1_5_4
  have b1_5_4 := OpenRow.str_bulk q1_5_4
  obtain ⟨a1_5_5, e1_5_5, q1_5_5, w1_5_5⟩ := DataW.trod_int Tryd.underlying3 g1_5_5
  simp only [List.cons.injEq, and_true] at e1_5_5
  subst e1_5_5
  have h2k := h2
  obtain ⟨a2, rfl, rfl, rfl, y2⟩ := open_string Tryd.underlying9 (hval 2 9 v2 rfl rfl) h2
  have b2 := OpenRow.str_bulk0 (H := H) a2
  clear hA0 hval0
  have hlt0 : ∀ x ∈ p0, x.block < W.heap.size := by
    obtain ⟨m0, hm0⟩ := h0k
    exact DataW.trod_lt m0 _ _ _ hm0
  have hlt1 : ∀ x ∈ p1, x.block < W.heap.size := by
    obtain ⟨m1, hm1⟩ := h1k
    exact DataW.trod_lt m1 _ _ _ hm1
  obtain ⟨k, hk⟩ := Enc.Apart a0_0 a0_1 a0_2 a0_3 a0_4 a0_5_0 a0_5_1 a0_5_2 a0_5_3 a0_5_4 a0_5_5 a1_0 a1_1 a1_2 a1_3 a1_4 a1_5_0 a1_5_1 a1_5_2 a1_5_3 a1_5_4 a1_5_5 a2 
  refine (QWi.stanchionlaw16_WireApart.calls k a0_0 a0_1 a0_2 a0_3 a0_4 a0_5_0 a0_5_1 a0_5_2 a0_5_3 a0_5_4 a0_5_5 a1_0 a1_1 a1_2 a1_3 a1_4 a1_5_0 a1_5_1 a1_5_2 a1_5_3 a1_5_4 a1_5_5 a2 true W  hk rfl (Laid.handle_of_laid hL)).mono fun e W' ⟨he, bel⟩ => ?_
  subst he
  exact ⟨_, rfl, _, _, _, [], _, [], hW', trodAll_mk1 (shut_bool Tryd.underlying4 _), (trodAll_cons_mk (Below.trod laidOut (by kernel_rfl) (of_decide_eq_true (by kernel_rfl)) h0k bel hlt0) (trodAll_cons_mk (Below.trod laidOut (by kernel_rfl) (of_decide_eq_true (by kernel_rfl)) h1k bel hlt1) (trodAll_cons_mk (shut_string Tryd.underlying9 y2) trodAll_mk0))), rfl, bel.frame _, fun h => by cases h⟩
theorem reads (os : Os) {H : Type} (enc : TypeId × Value → H) : ∃ places, DataW.whole enc Tryd.prog ((Laid.world os).forCall (fun _ _ => 0) ⟨#[], #[.agg #[.int .i64 0, .int .i64 0, .int .i64 0, .int .i64 0, .string ByteArray.empty, .int .i64 0, .string ByteArray.empty, .string ByteArray.empty, .string ByteArray.empty, .string ByteArray.empty, .int .i64 0], .agg #[.int .i64 0, .int .i64 0, .int .i64 0, .int .i64 0, .string ByteArray.empty, .int .i64 0, .string ByteArray.empty, .string ByteArray.empty, .string ByteArray.empty, .string ByteArray.empty, .int .i64 0], .string ByteArray.empty], []⟩).memory Tryd.f4.params.toList Rows.wireApartSpec.vars false (#[.agg #[.int .i64 0, .int .i64 0, .int .i64 0, .int .i64 0, .string ByteArray.empty, .int .i64 0, .string ByteArray.empty, .string ByteArray.empty, .string ByteArray.empty, .string ByteArray.empty, .int .i64 0], .agg #[.int .i64 0, .int .i64 0, .int .i64 0, .int .i64 0, .string ByteArray.empty, .int .i64 0, .string ByteArray.empty, .string ByteArray.empty, .string ByteArray.empty, .string ByteArray.empty, .int .i64 0], .string ByteArray.empty] : Array Value).toList 8 = some ([.agg [.lit (.int .i64 0), .lit (.int .i64 0), .lit (.int .i64 0), .lit (.int .i64 0), .lit (.string []), .agg [.lit (.int .i64 0), .lit (.string []), .lit (.string []), .lit (.string []), .lit (.string []), .lit (.int .i64 0)]], .agg [.lit (.int .i64 0), .lit (.int .i64 0), .lit (.int .i64 0), .lit (.int .i64 0), .lit (.string []), .agg [.lit (.int .i64 0), .lit (.string []), .lit (.string []), .lit (.string []), .lit (.string []), .lit (.int .i64 0)]], .lit (.string [])], [], places) :=
  ⟨[], by kernel_rfl⟩
set_option maxRecDepth 100000 in
theorem lifted (os : Os) (started : os.Started) (H : Type) (enc : TypeId × Value → H) (F : Stop.Interp) :
    ReturnsInHanded {} Tryd.checked os 4 .any ((OpenSpec.ofChange Rows.wireApartSpec).preRow enc Tryd.prog Tryd.f4 Rows.wireApartRow.domain false Rows.wireApartRow.laid) (((OpenSpec.ofChange Rows.wireApartSpec).at F).post enc Tryd.prog Tryd.f4 false true false false) := by
  obtain ⟨places, hx⟩ := reads os enc
  refine returnsInHanded_of_row (C := Tryd.checked) (s := OpenSpec.ofChange Rows.wireApartSpec) own started (by kernel_rfl) Tryd.func4
    (witness_row_at (enc := enc) (C := Tryd.checked) false (Laid.world os) #[.agg #[.int .i64 0, .int .i64 0, .int .i64 0, .int .i64 0, .string ByteArray.empty, .int .i64 0, .string ByteArray.empty, .string ByteArray.empty, .string ByteArray.empty, .string ByteArray.empty, .int .i64 0], .agg #[.int .i64 0, .int .i64 0, .int .i64 0, .int .i64 0, .string ByteArray.empty, .int .i64 0, .string ByteArray.empty, .string ByteArray.empty, .string ByteArray.empty, .string ByteArray.empty, .int .i64 0], .string ByteArray.empty] rfl (by kernel_rfl) (by kernel_rfl) (by kernel_rfl)
      (OpenSpec.preRow_of_cond 8 hx (by kernel_rfl) (fun k hk => by cases hk) (by kernel_rfl) (Laid.world_met os _))) ?_
  intro W base args ds gs before hval hW _ _ _ hL _ _
  exact contract H enc W base args ds gs before hval hW hL
theorem said : Rows.WireApartSaid :=
  OpenClaim.holds_of_cond 4 Tryd.f4 rfl rfl rfl rfl rfl rfl rfl ⟨rfl, rfl, rfl, rfl, rfl⟩ rfl rfl rfl rfl rfl (by kernel_rfl) Tryd.func4 (by kernel_rfl)
    (of_decide_eq_true (by kernel_rfl)) (by unfold Func.isWrapper; first | (rw [if_pos (by decide +kernel)]; kernel_rfl) | (rw [if_neg (by decide +kernel)]; exact ⟨rfl, rfl⟩))
    (fun os started H enc _ F => by rw [OpenClaim.pre_eq_preRow]; exact lifted os started H enc F)
theorem plain (f : FuncId) (fn : Func) (hf : Tryd.pinned.checked.prog.funcNamed "stanchion/stanchionlaw16.WireApart" = some f) (hfn : Tryd.pinned.checked.prog.funcs[f]? = some fn) :
    true = Tryd.pinned.checked.prog.looks [] ∧ ∀ (j : Nat) t, fn.params[j]? = some t → Tryd.pinned.checked.prog.wantsStandIn t = false := by
  obtain rfl : f = 4 := Option.some.inj ((show Tryd.prog.funcNamed "stanchion/stanchionlaw16.WireApart" = some 4 by kernel_rfl).symm.trans hf) |>.symm
  obtain rfl : fn = Tryd.f4 := (Option.some.inj (Tryd.func4.symm.trans hfn)).symm
  refine ⟨by kernel_rfl, fun j t ht => ?_⟩
  rw [Tryd.params4] at ht
  have hm := Array.mem_of_getElem? ht
  simp only [List.mem_toArray, List.mem_cons, List.not_mem_nil, or_false] at hm
  rcases hm with rfl | rfl | rfl
  · exact (show Tryd.prog.wantsStandIn 25 = false by kernel_rfl)
  · exact (show Tryd.prog.wantsStandIn 25 = false by kernel_rfl)
  · exact (show Tryd.prog.wantsStandIn 9 = false by kernel_rfl)
/-- The card. -/
theorem proved : Rows.WireApartCardSaid :=
  Claim7.holds_tied_plain_at .later [] _ _ _ _ said (fun _ h => by cases h) (by kernel_rfl) (fun _ h => by cases h) wireApart_row_tie rfl ⟨rfl, rfl⟩ (by kernel_rfl) rfl plain (by kernel_rfl)
#print axioms proved
end Go.Proofs.YtlpcidjmaeicoaaDoor.wireApart
namespace Go.Proofs.YtlpcidjmaeicoaaDoor
/-- The card, under a short name, for the claim. -/
theorem wireApart_card : Rows.WireApartCardSaid := wireApart.proved
end Go.Proofs.YtlpcidjmaeicoaaDoor
