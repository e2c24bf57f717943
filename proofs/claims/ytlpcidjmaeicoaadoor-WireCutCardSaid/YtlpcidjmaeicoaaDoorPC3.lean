/- Part of the proof of the statement WireCut, as a card; what is proved, and on which condition, stands at the head of YtlpcidjmaeicoaaDoorPC4 (texts MayReply, TakeReply, TakeReplyC, QWix2, QWix7, QWixC, OpenRow, OpenPairs, Was, Enc) -/
import Derived.RangeFuncRecord
import Derived.Handy
import Derived.Test.YtlpcidjmaeicoaaDoorRows
import Derived.SliceStrings
import Derived.ChangeSlices
import Derived.Deep.SlicePairs
import Derived.Test.YtlpcidjmaeicoaaDoorPC2
/-! MayReply -/
/- The walk of wire.mayReply (written by wip/mkmay.py). -/
namespace Go.Proofs.YtlpcidjmaeicoaaDoor.QWi
open Go Go.RowKit Go.Proofs.YtlpcidjmaeicoaaDoorW.PrintWords Go.Proofs.YtlpcidjmaeicoaaDoorW.PrintLast Go.Proofs.YtlpcidjmaeicoaaDoorW.PrintMore

def numB (x : Int) : Bool := decide (0 ≤ x) && decide (x ≤ 1073741824)
theorem num_f (x : Int) : wire_num.f x = some (numB x) := by
  unfold wire_num.f numB
  by_cases h : x ≥ 0
  · rw [if_pos h, decide_eq_true (show 0 ≤ x from h), Bool.true_and]
  · rw [if_neg h, decide_eq_false (show ¬ 0 ≤ x from h), Bool.false_and]
theorem num_is (x : Int) (b : Bool) (h : numB x = b) (w : World) : Calls Tryd.prog 30 #[.int .i64 x] w fun e w' => e = .returned (.bool b) ∧ Below w.heap.size w w' := by
  refine (wire_num.calls x b w (by rw [num_f, h])).mono ?_
  rintro e w' ⟨rfl, nd, rfl⟩
  exact ⟨rfl, ⟨rfl, rfl, rfl, Nat.le_refl _, fun _ _ => rfl⟩⟩
theorem right_is (A0 : Option Addr) (c0 : Nat) (l0 : List S74) (k : Nat) (b : Bool) (h : table_Right.f k l0 = some b) (w : World) (hr0 : Kd.C k74 w A0 l0.length l0) (hc0 : l0.length ≤ c0) :
    Calls Tryd.prog 52 #[.slice A0 l0.length c0] w fun e w' => e = .returned (.bool b) ∧ Below w.heap.size w w' := by
  refine (table_Right.calls k A0 c0 l0 b w hr0 hc0 h).mono ?_
  rintro e w' ⟨rfl, nd, rfl⟩
  exact ⟨rfl, ⟨rfl, rfl, rfl, Nat.le_refl _, fun _ _ => rfl⟩⟩
theorem contains_is (A0 : Option Addr) (c0 : Nat) (l0 : List S74) (b : Bool) (w : World) (hr0 : Kd.C k74 w A0 l0.length l0) (hc0 : l0.length ≤ c0) (hl : l0.length ≤ 1048576) (hm : l0.any longP = b) :
    Calls Tryd.prog 53 #[.slice A0 l0.length c0, .func (.func 51) #[] #[]] w fun e w' => e = .returned (.bool b) ∧ Below w.heap.size w w' := by
  cases b with
  | true => exact contains_yes A0 c0 l0 w hr0 hc0 hl hm
  | false => exact contains_no A0 c0 l0 w hr0 hc0 hl hm
theorem cell_in {w : World} {b : Nat} {cs : Array Value} {T : TypeId} {fr : Nat × Nat} (hb : w.heap[b]? = some (.cells cs T fr)) (j : Nat) (v : Value) (h : cs[j]? = some v) : w.cell? ⟨b, j, none⟩ = some v := by
  rw [← h]
  simp [World.cell?, hb]
set_option maxRecDepth 100000 in
set_option maxHeartbeats 4000000 in
theorem may_0 (a0 a1 a2 a3 : Int) (a4 : ByteArray) (a5 : Bool) (A6 : Option Addr) (c6 : Nat) (l6 : List S74) (a7 : Bool) (w : World) (hr : Kd.C k74 w A6 l6.length l6) (hc : l6.length ≤ c6) (q0 : numB a0 = false) :
    Calls Tryd.prog 32 #[.agg #[.int .i64 a0, .int .i64 a1, .int .i64 a2, .int .i64 a3, .string a4, .bool a5, .slice A6 l6.length c6, .bool a7]] w fun e w' => e = .returned (.bool false) ∧ Below w.heap.size w w' := by
  have HR := Lib.hid hr
  have HC := Lib.hid hc
  have HB := Lib.hid ((Below.refl w.heap.size w).alloc (Nat.le_refl _) (.cells #[.int .i64 a0, .int .i64 a1, .int .i64 a2, .int .i64 a3, .string a4, .bool a5, .slice A6 l6.length c6, .bool a7] 41))
  clear hr hc
  have N0 := Lib.hid (num_is a0 _ q0)
  clear q0
  go_enter Tryd.func32, Tryd.ntmps32
  have HK : Hid ((w.alloc (.cells #[.int .i64 a0, .int .i64 a1, .int .i64 a2, .int .i64 a3, .string a4, .bool a5, .slice A6 l6.length c6, .bool a7] 41)).heap[w.heap.size]? = some (.cells #[.int .i64 a0, .int .i64 a1, .int .i64 a2, .int .i64 a3, .string a4, .bool a5, .slice A6 l6.length c6, .bool a7] 41 (0, 0))) := Lib.hid (World.alloc_heap_new w _)
  go_wp2_with fail
  refine (N0.out _).mono ?_
  rintro e v0 ⟨rfl, b0⟩
  have K0 := Lib.hid ((b0.block w.heap.size (Array.getElem?_eq_some_iff.1 HK.out).1).trans HK.out)
  have B0 := Lib.hid (HB.out.trans (b0.mono HB.out.size))
  have d0_0 := cell_in K0.out 0 _ rfl
  have d0_1 := cell_in K0.out 1 _ rfl
  have d0_2 := cell_in K0.out 2 _ rfl
  have d0_3 := cell_in K0.out 3 _ rfl
  have d0_4 := cell_in K0.out 4 _ rfl
  have d0_5 := cell_in K0.out 5 _ rfl
  have d0_6 := cell_in K0.out 6 _ rfl
  have d0_7 := cell_in K0.out 7 _ rfl
  clear b0
  go_wp2
  go_ret
  exact ⟨rfl, B0.out⟩
set_option maxRecDepth 100000 in
set_option maxHeartbeats 4000000 in
theorem may_1 (a0 a1 a2 a3 : Int) (a4 : ByteArray) (a5 : Bool) (A6 : Option Addr) (c6 : Nat) (l6 : List S74) (a7 : Bool) (w : World) (hr : Kd.C k74 w A6 l6.length l6) (hc : l6.length ≤ c6) (q0 : numB a0 = true) (q1 : numB a1 = false) :
    Calls Tryd.prog 32 #[.agg #[.int .i64 a0, .int .i64 a1, .int .i64 a2, .int .i64 a3, .string a4, .bool a5, .slice A6 l6.length c6, .bool a7]] w fun e w' => e = .returned (.bool false) ∧ Below w.heap.size w w' := by
  have HR := Lib.hid hr
  have HC := Lib.hid hc
  have HB := Lib.hid ((Below.refl w.heap.size w).alloc (Nat.le_refl _) (.cells #[.int .i64 a0, .int .i64 a1, .int .i64 a2, .int .i64 a3, .string a4, .bool a5, .slice A6 l6.length c6, .bool a7] 41))
  clear hr hc
  have N0 := Lib.hid (num_is a0 _ q0)
  have N1 := Lib.hid (num_is a1 _ q1)
  clear q0 q1
  go_enter Tryd.func32, Tryd.ntmps32
  have HK : Hid ((w.alloc (.cells #[.int .i64 a0, .int .i64 a1, .int .i64 a2, .int .i64 a3, .string a4, .bool a5, .slice A6 l6.length c6, .bool a7] 41)).heap[w.heap.size]? = some (.cells #[.int .i64 a0, .int .i64 a1, .int .i64 a2, .int .i64 a3, .string a4, .bool a5, .slice A6 l6.length c6, .bool a7] 41 (0, 0))) := Lib.hid (World.alloc_heap_new w _)
  go_wp2_with fail
  refine (N0.out _).mono ?_
  rintro e v0 ⟨rfl, b0⟩
  have K0 := Lib.hid ((b0.block w.heap.size (Array.getElem?_eq_some_iff.1 HK.out).1).trans HK.out)
  have B0 := Lib.hid (HB.out.trans (b0.mono HB.out.size))
  have d0_0 := cell_in K0.out 0 _ rfl
  have d0_1 := cell_in K0.out 1 _ rfl
  have d0_2 := cell_in K0.out 2 _ rfl
  have d0_3 := cell_in K0.out 3 _ rfl
  have d0_4 := cell_in K0.out 4 _ rfl
  have d0_5 := cell_in K0.out 5 _ rfl
  have d0_6 := cell_in K0.out 6 _ rfl
  have d0_7 := cell_in K0.out 7 _ rfl
  clear b0
  go_wp2_with fail
  refine (N1.out _).mono ?_
  rintro e v1 ⟨rfl, b1⟩
  have K1 := Lib.hid ((b1.block w.heap.size (Array.getElem?_eq_some_iff.1 K0.out).1).trans K0.out)
  have B1 := Lib.hid (B0.out.trans (b1.mono B0.out.size))
  have d1_0 := cell_in K1.out 0 _ rfl
  have d1_1 := cell_in K1.out 1 _ rfl
  have d1_2 := cell_in K1.out 2 _ rfl
  have d1_3 := cell_in K1.out 3 _ rfl
  have d1_4 := cell_in K1.out 4 _ rfl
  have d1_5 := cell_in K1.out 5 _ rfl
  have d1_6 := cell_in K1.out 6 _ rfl
  have d1_7 := cell_in K1.out 7 _ rfl
  clear b1 d0_0 d0_1 d0_2 d0_3 d0_4 d0_5 d0_6 d0_7
  go_wp2
  go_ret
  exact ⟨rfl, B1.out⟩
set_option maxRecDepth 100000 in
set_option maxHeartbeats 4000000 in
theorem may_2 (a0 a1 a2 a3 : Int) (a4 : ByteArray) (a5 : Bool) (A6 : Option Addr) (c6 : Nat) (l6 : List S74) (a7 : Bool) (w : World) (hr : Kd.C k74 w A6 l6.length l6) (hc : l6.length ≤ c6) (q0 : numB a0 = true) (q1 : numB a1 = true) (q2 : numB a2 = false) :
    Calls Tryd.prog 32 #[.agg #[.int .i64 a0, .int .i64 a1, .int .i64 a2, .int .i64 a3, .string a4, .bool a5, .slice A6 l6.length c6, .bool a7]] w fun e w' => e = .returned (.bool false) ∧ Below w.heap.size w w' := by
  have HR := Lib.hid hr
  have HC := Lib.hid hc
  have HB := Lib.hid ((Below.refl w.heap.size w).alloc (Nat.le_refl _) (.cells #[.int .i64 a0, .int .i64 a1, .int .i64 a2, .int .i64 a3, .string a4, .bool a5, .slice A6 l6.length c6, .bool a7] 41))
  clear hr hc
  have N0 := Lib.hid (num_is a0 _ q0)
  have N1 := Lib.hid (num_is a1 _ q1)
  have N2 := Lib.hid (num_is a2 _ q2)
  clear q0 q1 q2
  go_enter Tryd.func32, Tryd.ntmps32
  have HK : Hid ((w.alloc (.cells #[.int .i64 a0, .int .i64 a1, .int .i64 a2, .int .i64 a3, .string a4, .bool a5, .slice A6 l6.length c6, .bool a7] 41)).heap[w.heap.size]? = some (.cells #[.int .i64 a0, .int .i64 a1, .int .i64 a2, .int .i64 a3, .string a4, .bool a5, .slice A6 l6.length c6, .bool a7] 41 (0, 0))) := Lib.hid (World.alloc_heap_new w _)
  go_wp2_with fail
  refine (N0.out _).mono ?_
  rintro e v0 ⟨rfl, b0⟩
  have K0 := Lib.hid ((b0.block w.heap.size (Array.getElem?_eq_some_iff.1 HK.out).1).trans HK.out)
  have B0 := Lib.hid (HB.out.trans (b0.mono HB.out.size))
  have d0_0 := cell_in K0.out 0 _ rfl
  have d0_1 := cell_in K0.out 1 _ rfl
  have d0_2 := cell_in K0.out 2 _ rfl
  have d0_3 := cell_in K0.out 3 _ rfl
  have d0_4 := cell_in K0.out 4 _ rfl
  have d0_5 := cell_in K0.out 5 _ rfl
  have d0_6 := cell_in K0.out 6 _ rfl
  have d0_7 := cell_in K0.out 7 _ rfl
  clear b0
  go_wp2_with fail
  refine (N1.out _).mono ?_
  rintro e v1 ⟨rfl, b1⟩
  have K1 := Lib.hid ((b1.block w.heap.size (Array.getElem?_eq_some_iff.1 K0.out).1).trans K0.out)
  have B1 := Lib.hid (B0.out.trans (b1.mono B0.out.size))
  have d1_0 := cell_in K1.out 0 _ rfl
  have d1_1 := cell_in K1.out 1 _ rfl
  have d1_2 := cell_in K1.out 2 _ rfl
  have d1_3 := cell_in K1.out 3 _ rfl
  have d1_4 := cell_in K1.out 4 _ rfl
  have d1_5 := cell_in K1.out 5 _ rfl
  have d1_6 := cell_in K1.out 6 _ rfl
  have d1_7 := cell_in K1.out 7 _ rfl
  clear b1 d0_0 d0_1 d0_2 d0_3 d0_4 d0_5 d0_6 d0_7
  go_wp2_with fail
  refine (N2.out _).mono ?_
  rintro e v2 ⟨rfl, b2⟩
  have K2 := Lib.hid ((b2.block w.heap.size (Array.getElem?_eq_some_iff.1 K1.out).1).trans K1.out)
  have B2 := Lib.hid (B1.out.trans (b2.mono B1.out.size))
  have d2_0 := cell_in K2.out 0 _ rfl
  have d2_1 := cell_in K2.out 1 _ rfl
  have d2_2 := cell_in K2.out 2 _ rfl
  have d2_3 := cell_in K2.out 3 _ rfl
  have d2_4 := cell_in K2.out 4 _ rfl
  have d2_5 := cell_in K2.out 5 _ rfl
  have d2_6 := cell_in K2.out 6 _ rfl
  have d2_7 := cell_in K2.out 7 _ rfl
  clear b2 d1_0 d1_1 d1_2 d1_3 d1_4 d1_5 d1_6 d1_7
  go_wp2
  go_ret
  exact ⟨rfl, B2.out⟩
set_option maxRecDepth 100000 in
set_option maxHeartbeats 4000000 in
theorem may_3 (a0 a1 a2 a3 : Int) (a4 : ByteArray) (a5 : Bool) (A6 : Option Addr) (c6 : Nat) (l6 : List S74) (a7 : Bool) (w : World) (hr : Kd.C k74 w A6 l6.length l6) (hc : l6.length ≤ c6) (q0 : numB a0 = true) (q1 : numB a1 = true) (q2 : numB a2 = true) (q3 : a3 < (0 : Int)) :
    Calls Tryd.prog 32 #[.agg #[.int .i64 a0, .int .i64 a1, .int .i64 a2, .int .i64 a3, .string a4, .bool a5, .slice A6 l6.length c6, .bool a7]] w fun e w' => e = .returned (.bool false) ∧ Below w.heap.size w w' := by
  have HR := Lib.hid hr
  have HC := Lib.hid hc
  have HB := Lib.hid ((Below.refl w.heap.size w).alloc (Nat.le_refl _) (.cells #[.int .i64 a0, .int .i64 a1, .int .i64 a2, .int .i64 a3, .string a4, .bool a5, .slice A6 l6.length c6, .bool a7] 41))
  clear hr hc
  have N0 := Lib.hid (num_is a0 _ q0)
  have N1 := Lib.hid (num_is a1 _ q1)
  have N2 := Lib.hid (num_is a2 _ q2)
  clear q0 q1 q2
  go_enter Tryd.func32, Tryd.ntmps32
  have HK : Hid ((w.alloc (.cells #[.int .i64 a0, .int .i64 a1, .int .i64 a2, .int .i64 a3, .string a4, .bool a5, .slice A6 l6.length c6, .bool a7] 41)).heap[w.heap.size]? = some (.cells #[.int .i64 a0, .int .i64 a1, .int .i64 a2, .int .i64 a3, .string a4, .bool a5, .slice A6 l6.length c6, .bool a7] 41 (0, 0))) := Lib.hid (World.alloc_heap_new w _)
  go_wp2_with fail
  refine (N0.out _).mono ?_
  rintro e v0 ⟨rfl, b0⟩
  have K0 := Lib.hid ((b0.block w.heap.size (Array.getElem?_eq_some_iff.1 HK.out).1).trans HK.out)
  have B0 := Lib.hid (HB.out.trans (b0.mono HB.out.size))
  have d0_0 := cell_in K0.out 0 _ rfl
  have d0_1 := cell_in K0.out 1 _ rfl
  have d0_2 := cell_in K0.out 2 _ rfl
  have d0_3 := cell_in K0.out 3 _ rfl
  have d0_4 := cell_in K0.out 4 _ rfl
  have d0_5 := cell_in K0.out 5 _ rfl
  have d0_6 := cell_in K0.out 6 _ rfl
  have d0_7 := cell_in K0.out 7 _ rfl
  clear b0
  go_wp2_with fail
  refine (N1.out _).mono ?_
  rintro e v1 ⟨rfl, b1⟩
  have K1 := Lib.hid ((b1.block w.heap.size (Array.getElem?_eq_some_iff.1 K0.out).1).trans K0.out)
  have B1 := Lib.hid (B0.out.trans (b1.mono B0.out.size))
  have d1_0 := cell_in K1.out 0 _ rfl
  have d1_1 := cell_in K1.out 1 _ rfl
  have d1_2 := cell_in K1.out 2 _ rfl
  have d1_3 := cell_in K1.out 3 _ rfl
  have d1_4 := cell_in K1.out 4 _ rfl
  have d1_5 := cell_in K1.out 5 _ rfl
  have d1_6 := cell_in K1.out 6 _ rfl
  have d1_7 := cell_in K1.out 7 _ rfl
  clear b1 d0_0 d0_1 d0_2 d0_3 d0_4 d0_5 d0_6 d0_7
  go_wp2_with fail
  refine (N2.out _).mono ?_
  rintro e v2 ⟨rfl, b2⟩
  have K2 := Lib.hid ((b2.block w.heap.size (Array.getElem?_eq_some_iff.1 K1.out).1).trans K1.out)
  have B2 := Lib.hid (B1.out.trans (b2.mono B1.out.size))
  have d2_0 := cell_in K2.out 0 _ rfl
  have d2_1 := cell_in K2.out 1 _ rfl
  have d2_2 := cell_in K2.out 2 _ rfl
  have d2_3 := cell_in K2.out 3 _ rfl
  have d2_4 := cell_in K2.out 4 _ rfl
  have d2_5 := cell_in K2.out 5 _ rfl
  have d2_6 := cell_in K2.out 6 _ rfl
  have d2_7 := cell_in K2.out 7 _ rfl
  clear b2 d1_0 d1_1 d1_2 d1_3 d1_4 d1_5 d1_6 d1_7
  go_wp2
  go_ret
  exact ⟨rfl, B2.out⟩
set_option maxRecDepth 100000 in
set_option maxHeartbeats 4000000 in
theorem may_4 (a0 a1 a2 a3 : Int) (a4 : ByteArray) (a5 : Bool) (A6 : Option Addr) (c6 : Nat) (l6 : List S74) (a7 : Bool) (w : World) (hr : Kd.C k74 w A6 l6.length l6) (hc : l6.length ≤ c6) (q0 : numB a0 = true) (q1 : numB a1 = true) (q2 : numB a2 = true) (q3 : (0 : Int) ≤ a3) (q4 : (16 : Int) < a3) :
    Calls Tryd.prog 32 #[.agg #[.int .i64 a0, .int .i64 a1, .int .i64 a2, .int .i64 a3, .string a4, .bool a5, .slice A6 l6.length c6, .bool a7]] w fun e w' => e = .returned (.bool false) ∧ Below w.heap.size w w' := by
  have HR := Lib.hid hr
  have HC := Lib.hid hc
  have HB := Lib.hid ((Below.refl w.heap.size w).alloc (Nat.le_refl _) (.cells #[.int .i64 a0, .int .i64 a1, .int .i64 a2, .int .i64 a3, .string a4, .bool a5, .slice A6 l6.length c6, .bool a7] 41))
  clear hr hc
  have N0 := Lib.hid (num_is a0 _ q0)
  have N1 := Lib.hid (num_is a1 _ q1)
  have N2 := Lib.hid (num_is a2 _ q2)
  clear q0 q1 q2
  go_enter Tryd.func32, Tryd.ntmps32
  have HK : Hid ((w.alloc (.cells #[.int .i64 a0, .int .i64 a1, .int .i64 a2, .int .i64 a3, .string a4, .bool a5, .slice A6 l6.length c6, .bool a7] 41)).heap[w.heap.size]? = some (.cells #[.int .i64 a0, .int .i64 a1, .int .i64 a2, .int .i64 a3, .string a4, .bool a5, .slice A6 l6.length c6, .bool a7] 41 (0, 0))) := Lib.hid (World.alloc_heap_new w _)
  go_wp2_with fail
  refine (N0.out _).mono ?_
  rintro e v0 ⟨rfl, b0⟩
  have K0 := Lib.hid ((b0.block w.heap.size (Array.getElem?_eq_some_iff.1 HK.out).1).trans HK.out)
  have B0 := Lib.hid (HB.out.trans (b0.mono HB.out.size))
  have d0_0 := cell_in K0.out 0 _ rfl
  have d0_1 := cell_in K0.out 1 _ rfl
  have d0_2 := cell_in K0.out 2 _ rfl
  have d0_3 := cell_in K0.out 3 _ rfl
  have d0_4 := cell_in K0.out 4 _ rfl
  have d0_5 := cell_in K0.out 5 _ rfl
  have d0_6 := cell_in K0.out 6 _ rfl
  have d0_7 := cell_in K0.out 7 _ rfl
  clear b0
  go_wp2_with fail
  refine (N1.out _).mono ?_
  rintro e v1 ⟨rfl, b1⟩
  have K1 := Lib.hid ((b1.block w.heap.size (Array.getElem?_eq_some_iff.1 K0.out).1).trans K0.out)
  have B1 := Lib.hid (B0.out.trans (b1.mono B0.out.size))
  have d1_0 := cell_in K1.out 0 _ rfl
  have d1_1 := cell_in K1.out 1 _ rfl
  have d1_2 := cell_in K1.out 2 _ rfl
  have d1_3 := cell_in K1.out 3 _ rfl
  have d1_4 := cell_in K1.out 4 _ rfl
  have d1_5 := cell_in K1.out 5 _ rfl
  have d1_6 := cell_in K1.out 6 _ rfl
  have d1_7 := cell_in K1.out 7 _ rfl
  clear b1 d0_0 d0_1 d0_2 d0_3 d0_4 d0_5 d0_6 d0_7
  go_wp2_with fail
  refine (N2.out _).mono ?_
  rintro e v2 ⟨rfl, b2⟩
  have K2 := Lib.hid ((b2.block w.heap.size (Array.getElem?_eq_some_iff.1 K1.out).1).trans K1.out)
  have B2 := Lib.hid (B1.out.trans (b2.mono B1.out.size))
  have d2_0 := cell_in K2.out 0 _ rfl
  have d2_1 := cell_in K2.out 1 _ rfl
  have d2_2 := cell_in K2.out 2 _ rfl
  have d2_3 := cell_in K2.out 3 _ rfl
  have d2_4 := cell_in K2.out 4 _ rfl
  have d2_5 := cell_in K2.out 5 _ rfl
  have d2_6 := cell_in K2.out 6 _ rfl
  have d2_7 := cell_in K2.out 7 _ rfl
  clear b2 d1_0 d1_1 d1_2 d1_3 d1_4 d1_5 d1_6 d1_7
  go_wp2
  go_ret
  exact ⟨rfl, B2.out⟩
set_option maxRecDepth 100000 in
set_option maxHeartbeats 4000000 in
theorem may_5 (a0 a1 a2 a3 : Int) (a4 : ByteArray) (a5 : Bool) (A6 : Option Addr) (c6 : Nat) (l6 : List S74) (a7 : Bool) (w : World) (hr : Kd.C k74 w A6 l6.length l6) (hc : l6.length ≤ c6) (q0 : numB a0 = true) (q1 : numB a1 = true) (q2 : numB a2 = true) (q3 : (0 : Int) ≤ a3) (q4 : a3 ≤ (16 : Int)) (q5 : (64 : Int) < (a4.size : Int)) :
    Calls Tryd.prog 32 #[.agg #[.int .i64 a0, .int .i64 a1, .int .i64 a2, .int .i64 a3, .string a4, .bool a5, .slice A6 l6.length c6, .bool a7]] w fun e w' => e = .returned (.bool false) ∧ Below w.heap.size w w' := by
  have HR := Lib.hid hr
  have HC := Lib.hid hc
  have HB := Lib.hid ((Below.refl w.heap.size w).alloc (Nat.le_refl _) (.cells #[.int .i64 a0, .int .i64 a1, .int .i64 a2, .int .i64 a3, .string a4, .bool a5, .slice A6 l6.length c6, .bool a7] 41))
  clear hr hc
  have N0 := Lib.hid (num_is a0 _ q0)
  have N1 := Lib.hid (num_is a1 _ q1)
  have N2 := Lib.hid (num_is a2 _ q2)
  clear q0 q1 q2
  go_enter Tryd.func32, Tryd.ntmps32
  have HK : Hid ((w.alloc (.cells #[.int .i64 a0, .int .i64 a1, .int .i64 a2, .int .i64 a3, .string a4, .bool a5, .slice A6 l6.length c6, .bool a7] 41)).heap[w.heap.size]? = some (.cells #[.int .i64 a0, .int .i64 a1, .int .i64 a2, .int .i64 a3, .string a4, .bool a5, .slice A6 l6.length c6, .bool a7] 41 (0, 0))) := Lib.hid (World.alloc_heap_new w _)
  go_wp2_with fail
  refine (N0.out _).mono ?_
  rintro e v0 ⟨rfl, b0⟩
  have K0 := Lib.hid ((b0.block w.heap.size (Array.getElem?_eq_some_iff.1 HK.out).1).trans HK.out)
  have B0 := Lib.hid (HB.out.trans (b0.mono HB.out.size))
  have d0_0 := cell_in K0.out 0 _ rfl
  have d0_1 := cell_in K0.out 1 _ rfl
  have d0_2 := cell_in K0.out 2 _ rfl
  have d0_3 := cell_in K0.out 3 _ rfl
  have d0_4 := cell_in K0.out 4 _ rfl
  have d0_5 := cell_in K0.out 5 _ rfl
  have d0_6 := cell_in K0.out 6 _ rfl
  have d0_7 := cell_in K0.out 7 _ rfl
  clear b0
  go_wp2_with fail
  refine (N1.out _).mono ?_
  rintro e v1 ⟨rfl, b1⟩
  have K1 := Lib.hid ((b1.block w.heap.size (Array.getElem?_eq_some_iff.1 K0.out).1).trans K0.out)
  have B1 := Lib.hid (B0.out.trans (b1.mono B0.out.size))
  have d1_0 := cell_in K1.out 0 _ rfl
  have d1_1 := cell_in K1.out 1 _ rfl
  have d1_2 := cell_in K1.out 2 _ rfl
  have d1_3 := cell_in K1.out 3 _ rfl
  have d1_4 := cell_in K1.out 4 _ rfl
  have d1_5 := cell_in K1.out 5 _ rfl
  have d1_6 := cell_in K1.out 6 _ rfl
  have d1_7 := cell_in K1.out 7 _ rfl
  clear b1 d0_0 d0_1 d0_2 d0_3 d0_4 d0_5 d0_6 d0_7
  go_wp2_with fail
  refine (N2.out _).mono ?_
  rintro e v2 ⟨rfl, b2⟩
  have K2 := Lib.hid ((b2.block w.heap.size (Array.getElem?_eq_some_iff.1 K1.out).1).trans K1.out)
  have B2 := Lib.hid (B1.out.trans (b2.mono B1.out.size))
  have d2_0 := cell_in K2.out 0 _ rfl
  have d2_1 := cell_in K2.out 1 _ rfl
  have d2_2 := cell_in K2.out 2 _ rfl
  have d2_3 := cell_in K2.out 3 _ rfl
  have d2_4 := cell_in K2.out 4 _ rfl
  have d2_5 := cell_in K2.out 5 _ rfl
  have d2_6 := cell_in K2.out 6 _ rfl
  have d2_7 := cell_in K2.out 7 _ rfl
  clear b2 d1_0 d1_1 d1_2 d1_3 d1_4 d1_5 d1_6 d1_7
  go_wp2
  go_ret
  exact ⟨rfl, B2.out⟩
set_option maxRecDepth 100000 in
set_option maxHeartbeats 4000000 in
theorem may_6 (a0 a1 a2 a3 : Int) (a4 : ByteArray) (a5 : Bool) (A6 : Option Addr) (c6 : Nat) (l6 : List S74) (a7 : Bool) (w : World) (hr : Kd.C k74 w A6 l6.length l6) (hc : l6.length ≤ c6) (q0 : numB a0 = true) (q1 : numB a1 = true) (q2 : numB a2 = true) (q3 : (0 : Int) ≤ a3) (q4 : a3 ≤ (16 : Int)) (q5 : (a4.size : Int) ≤ 64) (q6 : (16 : Int) < (l6.length : Int)) :
    Calls Tryd.prog 32 #[.agg #[.int .i64 a0, .int .i64 a1, .int .i64 a2, .int .i64 a3, .string a4, .bool a5, .slice A6 l6.length c6, .bool a7]] w fun e w' => e = .returned (.bool false) ∧ Below w.heap.size w w' := by
  have HR := Lib.hid hr
  have HC := Lib.hid hc
  have HB := Lib.hid ((Below.refl w.heap.size w).alloc (Nat.le_refl _) (.cells #[.int .i64 a0, .int .i64 a1, .int .i64 a2, .int .i64 a3, .string a4, .bool a5, .slice A6 l6.length c6, .bool a7] 41))
  clear hr hc
  have N0 := Lib.hid (num_is a0 _ q0)
  have N1 := Lib.hid (num_is a1 _ q1)
  have N2 := Lib.hid (num_is a2 _ q2)
  clear q0 q1 q2
  go_enter Tryd.func32, Tryd.ntmps32
  have HK : Hid ((w.alloc (.cells #[.int .i64 a0, .int .i64 a1, .int .i64 a2, .int .i64 a3, .string a4, .bool a5, .slice A6 l6.length c6, .bool a7] 41)).heap[w.heap.size]? = some (.cells #[.int .i64 a0, .int .i64 a1, .int .i64 a2, .int .i64 a3, .string a4, .bool a5, .slice A6 l6.length c6, .bool a7] 41 (0, 0))) := Lib.hid (World.alloc_heap_new w _)
  go_wp2_with fail
  refine (N0.out _).mono ?_
  rintro e v0 ⟨rfl, b0⟩
  have K0 := Lib.hid ((b0.block w.heap.size (Array.getElem?_eq_some_iff.1 HK.out).1).trans HK.out)
  have B0 := Lib.hid (HB.out.trans (b0.mono HB.out.size))
  have d0_0 := cell_in K0.out 0 _ rfl
  have d0_1 := cell_in K0.out 1 _ rfl
  have d0_2 := cell_in K0.out 2 _ rfl
  have d0_3 := cell_in K0.out 3 _ rfl
  have d0_4 := cell_in K0.out 4 _ rfl
  have d0_5 := cell_in K0.out 5 _ rfl
  have d0_6 := cell_in K0.out 6 _ rfl
  have d0_7 := cell_in K0.out 7 _ rfl
  clear b0
  go_wp2_with fail
  refine (N1.out _).mono ?_
  rintro e v1 ⟨rfl, b1⟩
  have K1 := Lib.hid ((b1.block w.heap.size (Array.getElem?_eq_some_iff.1 K0.out).1).trans K0.out)
  have B1 := Lib.hid (B0.out.trans (b1.mono B0.out.size))
  have d1_0 := cell_in K1.out 0 _ rfl
  have d1_1 := cell_in K1.out 1 _ rfl
  have d1_2 := cell_in K1.out 2 _ rfl
  have d1_3 := cell_in K1.out 3 _ rfl
  have d1_4 := cell_in K1.out 4 _ rfl
  have d1_5 := cell_in K1.out 5 _ rfl
  have d1_6 := cell_in K1.out 6 _ rfl
  have d1_7 := cell_in K1.out 7 _ rfl
  clear b1 d0_0 d0_1 d0_2 d0_3 d0_4 d0_5 d0_6 d0_7
  go_wp2_with fail
  refine (N2.out _).mono ?_
  rintro e v2 ⟨rfl, b2⟩
  have K2 := Lib.hid ((b2.block w.heap.size (Array.getElem?_eq_some_iff.1 K1.out).1).trans K1.out)
  have B2 := Lib.hid (B1.out.trans (b2.mono B1.out.size))
  have d2_0 := cell_in K2.out 0 _ rfl
  have d2_1 := cell_in K2.out 1 _ rfl
  have d2_2 := cell_in K2.out 2 _ rfl
  have d2_3 := cell_in K2.out 3 _ rfl
  have d2_4 := cell_in K2.out 4 _ rfl
  have d2_5 := cell_in K2.out 5 _ rfl
  have d2_6 := cell_in K2.out 6 _ rfl
  have d2_7 := cell_in K2.out 7 _ rfl
  clear b2 d1_0 d1_1 d1_2 d1_3 d1_4 d1_5 d1_6 d1_7
  go_wp2
  go_ret
  exact ⟨rfl, B2.out⟩
set_option maxRecDepth 100000 in
set_option maxHeartbeats 4000000 in
theorem may_7 (a0 a1 a2 a3 : Int) (a4 : ByteArray) (a5 : Bool) (A6 : Option Addr) (c6 : Nat) (l6 : List S74) (a7 : Bool) (w : World) (hr : Kd.C k74 w A6 l6.length l6) (hc : l6.length ≤ c6) (q0 : numB a0 = true) (q1 : numB a1 = true) (q2 : numB a2 = true) (q3 : (0 : Int) ≤ a3) (q4 : a3 ≤ (16 : Int)) (q5 : (a4.size : Int) ≤ 64) (q6 : (l6.length : Int) ≤ 16) (q7 : table_Right.f 20 l6 = some false) :
    Calls Tryd.prog 32 #[.agg #[.int .i64 a0, .int .i64 a1, .int .i64 a2, .int .i64 a3, .string a4, .bool a5, .slice A6 l6.length c6, .bool a7]] w fun e w' => e = .returned (.bool false) ∧ Below w.heap.size w w' := by
  have HR := Lib.hid hr
  have HC := Lib.hid hc
  have HB := Lib.hid ((Below.refl w.heap.size w).alloc (Nat.le_refl _) (.cells #[.int .i64 a0, .int .i64 a1, .int .i64 a2, .int .i64 a3, .string a4, .bool a5, .slice A6 l6.length c6, .bool a7] 41))
  clear hr hc
  have N0 := Lib.hid (num_is a0 _ q0)
  have N1 := Lib.hid (num_is a1 _ q1)
  have N2 := Lib.hid (num_is a2 _ q2)
  have NR := Lib.hid (right_is A6 c6 l6 20 _ q7)
  have NL : Hid (l6.length ≤ 16) := Lib.hid (by omega)
  clear q0 q1 q2 q7
  go_enter Tryd.func32, Tryd.ntmps32
  have HK : Hid ((w.alloc (.cells #[.int .i64 a0, .int .i64 a1, .int .i64 a2, .int .i64 a3, .string a4, .bool a5, .slice A6 l6.length c6, .bool a7] 41)).heap[w.heap.size]? = some (.cells #[.int .i64 a0, .int .i64 a1, .int .i64 a2, .int .i64 a3, .string a4, .bool a5, .slice A6 l6.length c6, .bool a7] 41 (0, 0))) := Lib.hid (World.alloc_heap_new w _)
  go_wp2_with fail
  refine (N0.out _).mono ?_
  rintro e v0 ⟨rfl, b0⟩
  have K0 := Lib.hid ((b0.block w.heap.size (Array.getElem?_eq_some_iff.1 HK.out).1).trans HK.out)
  have B0 := Lib.hid (HB.out.trans (b0.mono HB.out.size))
  have d0_0 := cell_in K0.out 0 _ rfl
  have d0_1 := cell_in K0.out 1 _ rfl
  have d0_2 := cell_in K0.out 2 _ rfl
  have d0_3 := cell_in K0.out 3 _ rfl
  have d0_4 := cell_in K0.out 4 _ rfl
  have d0_5 := cell_in K0.out 5 _ rfl
  have d0_6 := cell_in K0.out 6 _ rfl
  have d0_7 := cell_in K0.out 7 _ rfl
  clear b0
  go_wp2_with fail
  refine (N1.out _).mono ?_
  rintro e v1 ⟨rfl, b1⟩
  have K1 := Lib.hid ((b1.block w.heap.size (Array.getElem?_eq_some_iff.1 K0.out).1).trans K0.out)
  have B1 := Lib.hid (B0.out.trans (b1.mono B0.out.size))
  have d1_0 := cell_in K1.out 0 _ rfl
  have d1_1 := cell_in K1.out 1 _ rfl
  have d1_2 := cell_in K1.out 2 _ rfl
  have d1_3 := cell_in K1.out 3 _ rfl
  have d1_4 := cell_in K1.out 4 _ rfl
  have d1_5 := cell_in K1.out 5 _ rfl
  have d1_6 := cell_in K1.out 6 _ rfl
  have d1_7 := cell_in K1.out 7 _ rfl
  clear b1 d0_0 d0_1 d0_2 d0_3 d0_4 d0_5 d0_6 d0_7
  go_wp2_with fail
  refine (N2.out _).mono ?_
  rintro e v2 ⟨rfl, b2⟩
  have K2 := Lib.hid ((b2.block w.heap.size (Array.getElem?_eq_some_iff.1 K1.out).1).trans K1.out)
  have B2 := Lib.hid (B1.out.trans (b2.mono B1.out.size))
  have d2_0 := cell_in K2.out 0 _ rfl
  have d2_1 := cell_in K2.out 1 _ rfl
  have d2_2 := cell_in K2.out 2 _ rfl
  have d2_3 := cell_in K2.out 3 _ rfl
  have d2_4 := cell_in K2.out 4 _ rfl
  have d2_5 := cell_in K2.out 5 _ rfl
  have d2_6 := cell_in K2.out 6 _ rfl
  have d2_7 := cell_in K2.out 7 _ rfl
  clear b2 d1_0 d1_1 d1_2 d1_3 d1_4 d1_5 d1_6 d1_7
  go_wp2_with fail
  refine (NR.out _ (Kd.C_below HR.out B2.out) HC.out).mono ?_
  rintro e v3 ⟨rfl, b3⟩
  have K3 := Lib.hid ((b3.block w.heap.size (Array.getElem?_eq_some_iff.1 K2.out).1).trans K2.out)
  have B3 := Lib.hid (B2.out.trans (b3.mono B2.out.size))
  have d3_0 := cell_in K3.out 0 _ rfl
  have d3_1 := cell_in K3.out 1 _ rfl
  have d3_2 := cell_in K3.out 2 _ rfl
  have d3_3 := cell_in K3.out 3 _ rfl
  have d3_4 := cell_in K3.out 4 _ rfl
  have d3_5 := cell_in K3.out 5 _ rfl
  have d3_6 := cell_in K3.out 6 _ rfl
  have d3_7 := cell_in K3.out 7 _ rfl
  clear b3 d2_0 d2_1 d2_2 d2_3 d2_4 d2_5 d2_6 d2_7
  go_wp2
  go_ret
  exact ⟨rfl, B3.out⟩
set_option maxRecDepth 100000 in
set_option maxHeartbeats 4000000 in
theorem may_8 (a0 a1 a2 a3 : Int) (a4 : ByteArray) (a5 : Bool) (A6 : Option Addr) (c6 : Nat) (l6 : List S74) (a7 : Bool) (w : World) (hr : Kd.C k74 w A6 l6.length l6) (hc : l6.length ≤ c6) (q0 : numB a0 = true) (q1 : numB a1 = true) (q2 : numB a2 = true) (q3 : (0 : Int) ≤ a3) (q4 : a3 ≤ (16 : Int)) (q5 : (a4.size : Int) ≤ 64) (q6 : (l6.length : Int) ≤ 16) (q7 : table_Right.f 20 l6 = some true) (q8 : l6.any longP = true) :
    Calls Tryd.prog 32 #[.agg #[.int .i64 a0, .int .i64 a1, .int .i64 a2, .int .i64 a3, .string a4, .bool a5, .slice A6 l6.length c6, .bool a7]] w fun e w' => e = .returned (.bool false) ∧ Below w.heap.size w w' := by
  have HR := Lib.hid hr
  have HC := Lib.hid hc
  have HB := Lib.hid ((Below.refl w.heap.size w).alloc (Nat.le_refl _) (.cells #[.int .i64 a0, .int .i64 a1, .int .i64 a2, .int .i64 a3, .string a4, .bool a5, .slice A6 l6.length c6, .bool a7] 41))
  clear hr hc
  have N0 := Lib.hid (num_is a0 _ q0)
  have N1 := Lib.hid (num_is a1 _ q1)
  have N2 := Lib.hid (num_is a2 _ q2)
  have NR := Lib.hid (right_is A6 c6 l6 20 _ q7)
  have NL : Hid (l6.length ≤ 16) := Lib.hid (by omega)
  have NA := Lib.hid q8
  clear q0 q1 q2 q7 q8
  go_enter Tryd.func32, Tryd.ntmps32
  have HK : Hid ((w.alloc (.cells #[.int .i64 a0, .int .i64 a1, .int .i64 a2, .int .i64 a3, .string a4, .bool a5, .slice A6 l6.length c6, .bool a7] 41)).heap[w.heap.size]? = some (.cells #[.int .i64 a0, .int .i64 a1, .int .i64 a2, .int .i64 a3, .string a4, .bool a5, .slice A6 l6.length c6, .bool a7] 41 (0, 0))) := Lib.hid (World.alloc_heap_new w _)
  go_wp2_with fail
  refine (N0.out _).mono ?_
  rintro e v0 ⟨rfl, b0⟩
  have K0 := Lib.hid ((b0.block w.heap.size (Array.getElem?_eq_some_iff.1 HK.out).1).trans HK.out)
  have B0 := Lib.hid (HB.out.trans (b0.mono HB.out.size))
  have d0_0 := cell_in K0.out 0 _ rfl
  have d0_1 := cell_in K0.out 1 _ rfl
  have d0_2 := cell_in K0.out 2 _ rfl
  have d0_3 := cell_in K0.out 3 _ rfl
  have d0_4 := cell_in K0.out 4 _ rfl
  have d0_5 := cell_in K0.out 5 _ rfl
  have d0_6 := cell_in K0.out 6 _ rfl
  have d0_7 := cell_in K0.out 7 _ rfl
  clear b0
  go_wp2_with fail
  refine (N1.out _).mono ?_
  rintro e v1 ⟨rfl, b1⟩
  have K1 := Lib.hid ((b1.block w.heap.size (Array.getElem?_eq_some_iff.1 K0.out).1).trans K0.out)
  have B1 := Lib.hid (B0.out.trans (b1.mono B0.out.size))
  have d1_0 := cell_in K1.out 0 _ rfl
  have d1_1 := cell_in K1.out 1 _ rfl
  have d1_2 := cell_in K1.out 2 _ rfl
  have d1_3 := cell_in K1.out 3 _ rfl
  have d1_4 := cell_in K1.out 4 _ rfl
  have d1_5 := cell_in K1.out 5 _ rfl
  have d1_6 := cell_in K1.out 6 _ rfl
  have d1_7 := cell_in K1.out 7 _ rfl
  clear b1 d0_0 d0_1 d0_2 d0_3 d0_4 d0_5 d0_6 d0_7
  go_wp2_with fail
  refine (N2.out _).mono ?_
  rintro e v2 ⟨rfl, b2⟩
  have K2 := Lib.hid ((b2.block w.heap.size (Array.getElem?_eq_some_iff.1 K1.out).1).trans K1.out)
  have B2 := Lib.hid (B1.out.trans (b2.mono B1.out.size))
  have d2_0 := cell_in K2.out 0 _ rfl
  have d2_1 := cell_in K2.out 1 _ rfl
  have d2_2 := cell_in K2.out 2 _ rfl
  have d2_3 := cell_in K2.out 3 _ rfl
  have d2_4 := cell_in K2.out 4 _ rfl
  have d2_5 := cell_in K2.out 5 _ rfl
  have d2_6 := cell_in K2.out 6 _ rfl
  have d2_7 := cell_in K2.out 7 _ rfl
  clear b2 d1_0 d1_1 d1_2 d1_3 d1_4 d1_5 d1_6 d1_7
  go_wp2_with fail
  refine (NR.out _ (Kd.C_below HR.out B2.out) HC.out).mono ?_
  rintro e v3 ⟨rfl, b3⟩
  have K3 := Lib.hid ((b3.block w.heap.size (Array.getElem?_eq_some_iff.1 K2.out).1).trans K2.out)
  have B3 := Lib.hid (B2.out.trans (b3.mono B2.out.size))
  have d3_0 := cell_in K3.out 0 _ rfl
  have d3_1 := cell_in K3.out 1 _ rfl
  have d3_2 := cell_in K3.out 2 _ rfl
  have d3_3 := cell_in K3.out 3 _ rfl
  have d3_4 := cell_in K3.out 4 _ rfl
  have d3_5 := cell_in K3.out 5 _ rfl
  have d3_6 := cell_in K3.out 6 _ rfl
  have d3_7 := cell_in K3.out 7 _ rfl
  clear b3 d2_0 d2_1 d2_2 d2_3 d2_4 d2_5 d2_6 d2_7
  go_wp2_with fail
  refine (contains_is A6 c6 l6 _ _ (Kd.C_below HR.out B3.out) HC.out (by have := NL.out; omega) NA.out).mono ?_
  rintro e v4 ⟨rfl, b4⟩
  have K4 := Lib.hid ((b4.block w.heap.size (Array.getElem?_eq_some_iff.1 K3.out).1).trans K3.out)
  have B4 := Lib.hid (B3.out.trans (b4.mono B3.out.size))
  have d4_0 := cell_in K4.out 0 _ rfl
  have d4_1 := cell_in K4.out 1 _ rfl
  have d4_2 := cell_in K4.out 2 _ rfl
  have d4_3 := cell_in K4.out 3 _ rfl
  have d4_4 := cell_in K4.out 4 _ rfl
  have d4_5 := cell_in K4.out 5 _ rfl
  have d4_6 := cell_in K4.out 6 _ rfl
  have d4_7 := cell_in K4.out 7 _ rfl
  clear b4 d3_0 d3_1 d3_2 d3_3 d3_4 d3_5 d3_6 d3_7
  go_wp2
  go_ret
  exact ⟨rfl, B4.out⟩
set_option maxRecDepth 100000 in
set_option maxHeartbeats 4000000 in
theorem may_9 (a0 a1 a2 a3 : Int) (a4 : ByteArray) (a5 : Bool) (A6 : Option Addr) (c6 : Nat) (l6 : List S74) (a7 : Bool) (w : World) (hr : Kd.C k74 w A6 l6.length l6) (hc : l6.length ≤ c6) (q0 : numB a0 = true) (q1 : numB a1 = true) (q2 : numB a2 = true) (q3 : (0 : Int) ≤ a3) (q4 : a3 ≤ (16 : Int)) (q5 : (a4.size : Int) ≤ 64) (q6 : (l6.length : Int) ≤ 16) (q7 : table_Right.f 20 l6 = some true) (q8 : l6.any longP = false) :
    Calls Tryd.prog 32 #[.agg #[.int .i64 a0, .int .i64 a1, .int .i64 a2, .int .i64 a3, .string a4, .bool a5, .slice A6 l6.length c6, .bool a7]] w fun e w' => e = .returned (.bool true) ∧ Below w.heap.size w w' := by
  have HR := Lib.hid hr
  have HC := Lib.hid hc
  have HB := Lib.hid ((Below.refl w.heap.size w).alloc (Nat.le_refl _) (.cells #[.int .i64 a0, .int .i64 a1, .int .i64 a2, .int .i64 a3, .string a4, .bool a5, .slice A6 l6.length c6, .bool a7] 41))
  clear hr hc
  have N0 := Lib.hid (num_is a0 _ q0)
  have N1 := Lib.hid (num_is a1 _ q1)
  have N2 := Lib.hid (num_is a2 _ q2)
  have NR := Lib.hid (right_is A6 c6 l6 20 _ q7)
  have NL : Hid (l6.length ≤ 16) := Lib.hid (by omega)
  have NA := Lib.hid q8
  clear q0 q1 q2 q7 q8
  go_enter Tryd.func32, Tryd.ntmps32
  have HK : Hid ((w.alloc (.cells #[.int .i64 a0, .int .i64 a1, .int .i64 a2, .int .i64 a3, .string a4, .bool a5, .slice A6 l6.length c6, .bool a7] 41)).heap[w.heap.size]? = some (.cells #[.int .i64 a0, .int .i64 a1, .int .i64 a2, .int .i64 a3, .string a4, .bool a5, .slice A6 l6.length c6, .bool a7] 41 (0, 0))) := Lib.hid (World.alloc_heap_new w _)
  go_wp2_with fail
  refine (N0.out _).mono ?_
  rintro e v0 ⟨rfl, b0⟩
  have K0 := Lib.hid ((b0.block w.heap.size (Array.getElem?_eq_some_iff.1 HK.out).1).trans HK.out)
  have B0 := Lib.hid (HB.out.trans (b0.mono HB.out.size))
  have d0_0 := cell_in K0.out 0 _ rfl
  have d0_1 := cell_in K0.out 1 _ rfl
  have d0_2 := cell_in K0.out 2 _ rfl
  have d0_3 := cell_in K0.out 3 _ rfl
  have d0_4 := cell_in K0.out 4 _ rfl
  have d0_5 := cell_in K0.out 5 _ rfl
  have d0_6 := cell_in K0.out 6 _ rfl
  have d0_7 := cell_in K0.out 7 _ rfl
  clear b0
  go_wp2_with fail
  refine (N1.out _).mono ?_
  rintro e v1 ⟨rfl, b1⟩
  have K1 := Lib.hid ((b1.block w.heap.size (Array.getElem?_eq_some_iff.1 K0.out).1).trans K0.out)
  have B1 := Lib.hid (B0.out.trans (b1.mono B0.out.size))
  have d1_0 := cell_in K1.out 0 _ rfl
  have d1_1 := cell_in K1.out 1 _ rfl
  have d1_2 := cell_in K1.out 2 _ rfl
  have d1_3 := cell_in K1.out 3 _ rfl
  have d1_4 := cell_in K1.out 4 _ rfl
  have d1_5 := cell_in K1.out 5 _ rfl
  have d1_6 := cell_in K1.out 6 _ rfl
  have d1_7 := cell_in K1.out 7 _ rfl
  clear b1 d0_0 d0_1 d0_2 d0_3 d0_4 d0_5 d0_6 d0_7
  go_wp2_with fail
  refine (N2.out _).mono ?_
  rintro e v2 ⟨rfl, b2⟩
  have K2 := Lib.hid ((b2.block w.heap.size (Array.getElem?_eq_some_iff.1 K1.out).1).trans K1.out)
  have B2 := Lib.hid (B1.out.trans (b2.mono B1.out.size))
  have d2_0 := cell_in K2.out 0 _ rfl
  have d2_1 := cell_in K2.out 1 _ rfl
  have d2_2 := cell_in K2.out 2 _ rfl
  have d2_3 := cell_in K2.out 3 _ rfl
  have d2_4 := cell_in K2.out 4 _ rfl
  have d2_5 := cell_in K2.out 5 _ rfl
  have d2_6 := cell_in K2.out 6 _ rfl
  have d2_7 := cell_in K2.out 7 _ rfl
  clear b2 d1_0 d1_1 d1_2 d1_3 d1_4 d1_5 d1_6 d1_7
  go_wp2_with fail
  refine (NR.out _ (Kd.C_below HR.out B2.out) HC.out).mono ?_
  rintro e v3 ⟨rfl, b3⟩
  have K3 := Lib.hid ((b3.block w.heap.size (Array.getElem?_eq_some_iff.1 K2.out).1).trans K2.out)
  have B3 := Lib.hid (B2.out.trans (b3.mono B2.out.size))
  have d3_0 := cell_in K3.out 0 _ rfl
  have d3_1 := cell_in K3.out 1 _ rfl
  have d3_2 := cell_in K3.out 2 _ rfl
  have d3_3 := cell_in K3.out 3 _ rfl
  have d3_4 := cell_in K3.out 4 _ rfl
  have d3_5 := cell_in K3.out 5 _ rfl
  have d3_6 := cell_in K3.out 6 _ rfl
  have d3_7 := cell_in K3.out 7 _ rfl
  clear b3 d2_0 d2_1 d2_2 d2_3 d2_4 d2_5 d2_6 d2_7
  go_wp2_with fail
  refine (contains_is A6 c6 l6 _ _ (Kd.C_below HR.out B3.out) HC.out (by have := NL.out; omega) NA.out).mono ?_
  rintro e v4 ⟨rfl, b4⟩
  have K4 := Lib.hid ((b4.block w.heap.size (Array.getElem?_eq_some_iff.1 K3.out).1).trans K3.out)
  have B4 := Lib.hid (B3.out.trans (b4.mono B3.out.size))
  have d4_0 := cell_in K4.out 0 _ rfl
  have d4_1 := cell_in K4.out 1 _ rfl
  have d4_2 := cell_in K4.out 2 _ rfl
  have d4_3 := cell_in K4.out 3 _ rfl
  have d4_4 := cell_in K4.out 4 _ rfl
  have d4_5 := cell_in K4.out 5 _ rfl
  have d4_6 := cell_in K4.out 6 _ rfl
  have d4_7 := cell_in K4.out 7 _ rfl
  clear b4 d3_0 d3_1 d3_2 d3_3 d3_4 d3_5 d3_6 d3_7
  go_wp2
  go_ret
  exact ⟨rfl, B4.out⟩
/-- May a reply be? -/
def wire_mayReply.f (a0 a1 a2 a3 : Int) (a4 : ByteArray) (_a5 : Bool) (l6 : List S74) (_a7 : Bool) : Option (Bool) :=
  if numB a0 = false then some false else if numB a1 = false then some false else if numB a2 = false then some false else if a3 < 0 then some false else if 16 < a3 then some false else if 64 < (a4.size : Int) then some false
  else if 16 < (l6.length : Int) then some false else if table_Right.f 20 l6 = some false then some false else if table_Right.f 20 l6 = some true then (if l6.any longP = true then some false else some true) else none
theorem wire_mayReply.calls (a0 a1 a2 a3 : Int) (a4 : ByteArray) (a5 : Bool) (A6 : Option Addr) (c6 : Nat) (l6 : List S74) (a7 : Bool) (r : Bool) (w : World) (hr : Kd.C k74 w A6 l6.length l6) (hc : l6.length ≤ c6) (h : wire_mayReply.f a0 a1 a2 a3 a4 a5 l6 a7 = some r) :
    Calls Tryd.prog 32 #[.agg #[.int .i64 a0, .int .i64 a1, .int .i64 a2, .int .i64 a3, .string a4, .bool a5, .slice A6 l6.length c6, .bool a7]] w fun e w' => e = .returned (.bool r) ∧ Below w.heap.size w w' := by
  unfold wire_mayReply.f at h
  by_cases c0 : numB a0 = false
  · rw [if_pos c0] at h
    obtain rfl := Option.some.inj h
    exact may_0 a0 a1 a2 a3 a4 a5 A6 c6 l6 a7 w hr hc c0
  rw [if_neg c0] at h
  have c0 : numB a0 = true := by simpa using c0
  by_cases c1 : numB a1 = false
  · rw [if_pos c1] at h
    obtain rfl := Option.some.inj h
    exact may_1 a0 a1 a2 a3 a4 a5 A6 c6 l6 a7 w hr hc c0 c1
  rw [if_neg c1] at h
  have c1 : numB a1 = true := by simpa using c1
  by_cases c2 : numB a2 = false
  · rw [if_pos c2] at h
    obtain rfl := Option.some.inj h
    exact may_2 a0 a1 a2 a3 a4 a5 A6 c6 l6 a7 w hr hc c0 c1 c2
  rw [if_neg c2] at h
  have c2 : numB a2 = true := by simpa using c2
  by_cases c3 : a3 < 0
  · rw [if_pos c3] at h
    obtain rfl := Option.some.inj h
    exact may_3 a0 a1 a2 a3 a4 a5 A6 c6 l6 a7 w hr hc c0 c1 c2 c3
  rw [if_neg c3] at h
  by_cases c4 : 16 < a3
  · rw [if_pos c4] at h
    obtain rfl := Option.some.inj h
    exact may_4 a0 a1 a2 a3 a4 a5 A6 c6 l6 a7 w hr hc c0 c1 c2 (by omega) c4
  rw [if_neg c4] at h
  by_cases c5 : 64 < (a4.size : Int)
  · rw [if_pos c5] at h
    obtain rfl := Option.some.inj h
    exact may_5 a0 a1 a2 a3 a4 a5 A6 c6 l6 a7 w hr hc c0 c1 c2 (by omega) (by omega) c5
  rw [if_neg c5] at h
  by_cases c6' : 16 < (l6.length : Int)
  · rw [if_pos c6'] at h
    obtain rfl := Option.some.inj h
    exact may_6 a0 a1 a2 a3 a4 a5 A6 c6 l6 a7 w hr hc c0 c1 c2 (by omega) (by omega) (by omega) c6'
  rw [if_neg c6'] at h
  by_cases c7 : table_Right.f 20 l6 = some false
  · rw [if_pos c7] at h
    obtain rfl := Option.some.inj h
    exact may_7 a0 a1 a2 a3 a4 a5 A6 c6 l6 a7 w hr hc c0 c1 c2 (by omega) (by omega) (by omega) (by omega) c7
  rw [if_neg c7] at h
  by_cases c8 : table_Right.f 20 l6 = some true
  · rw [if_pos c8] at h
    by_cases c9 : l6.any longP = true
    · rw [if_pos c9] at h
      obtain rfl := Option.some.inj h
      exact may_8 a0 a1 a2 a3 a4 a5 A6 c6 l6 a7 w hr hc c0 c1 c2 (by omega) (by omega) (by omega) (by omega) c8 c9
    · rw [if_neg c9] at h
      obtain rfl := Option.some.inj h
      exact may_9 a0 a1 a2 a3 a4 a5 A6 c6 l6 a7 w hr hc c0 c1 c2 (by omega) (by omega) (by omega) (by omega) c8 (Bool.eq_false_iff.mpr c9)
  · rw [if_neg c8] at h
    cases h
end Go.Proofs.YtlpcidjmaeicoaaDoor.QWi

/-! TakeReply -/
/- The walk of wire.TakeReply (written by wip/mktakerep.py). -/
namespace Go.Proofs.YtlpcidjmaeicoaaDoor.Reader
open Go Go.RowKit Go.Proofs.YtlpcidjmaeicoaaDoor.DecM Go.Proofs.YtlpcidjmaeicoaaDoor.Giv Go.Proofs.YtlpcidjmaeicoaaDoor.Err Go.Proofs.YtlpcidjmaeicoaaDoorW.PrintWords Go.Proofs.YtlpcidjmaeicoaaDoorW.PrintLast Go.Proofs.YtlpcidjmaeicoaaDoor.QWi

set_option linter.unusedSimpArgs false
theorem start_rep (w : World) (s : ByteArray) (hg : Handle w) : St w (w.heap.size + 1) (w.heap.size + 1 + 1) [(w.heap.size + 1 + 1 + 1, [.pointer (some ⟨w.heap.size + 1 + 1, 0, none⟩), .pointer (some ⟨w.heap.size + 1 + 1, 1, none⟩), .pointer (some ⟨w.heap.size + 1 + 1, 2, none⟩)]), (w.heap.size, [.int .i64 0, .int .i64 0, .int .i64 0, .int .i64 0, .string ⟨#[]⟩, .bool false, .slice none 0 0, .bool false])]
    ((((w.alloc (.cells #[.int .i64 0, .int .i64 0, .int .i64 0, .int .i64 0, .string ⟨#[]⟩, .bool false, .slice none 0 0, .bool false] 41)).alloc (.cells #[.string s, .int .i64 0, .nilIface] 60)).alloc (.cells #[.int .i64 0, .int .i64 0, .int .i64 0, .int .i64 0, .string ⟨#[]⟩, .bool false, .slice none 0 0, .bool false] 41)).alloc (.cells #[.pointer (some ⟨w.heap.size + 1 + 1, 0, none⟩), .pointer (some ⟨w.heap.size + 1 + 1, 1, none⟩), .pointer (some ⟨w.heap.size + 1 + 1, 2, none⟩)] 63)) s 0 false [.int .i64 0, .int .i64 0, .int .i64 0, .int .i64 0, .string ⟨#[]⟩, .bool false, .slice none 0 0, .bool false] := by
  have S0 := start_st w s #[.int .i64 0, .int .i64 0, .int .i64 0, .int .i64 0, .string ⟨#[]⟩, .bool false, .slice none 0 0, .bool false] 41 (by decide) hg
  have e2 : ((w.alloc (.cells #[.int .i64 0, .int .i64 0, .int .i64 0, .int .i64 0, .string ⟨#[]⟩, .bool false, .slice none 0 0, .bool false] 41)).alloc (.cells #[.string s, .int .i64 0, .nilIface] 60)).heap.size = w.heap.size + 1 + 1 := by simp
  have S1 := S0.push #[.int .i64 0, .int .i64 0, .int .i64 0, .int .i64 0, .string ⟨#[]⟩, .bool false, .slice none 0 0, .bool false] 41 (by decide)
  rw [e2] at S1
  have S2 := S1.swap (by omega)
  have e3 : (((w.alloc (.cells #[.int .i64 0, .int .i64 0, .int .i64 0, .int .i64 0, .string ⟨#[]⟩, .bool false, .slice none 0 0, .bool false] 41)).alloc (.cells #[.string s, .int .i64 0, .nilIface] 60)).alloc (.cells #[.int .i64 0, .int .i64 0, .int .i64 0, .int .i64 0, .string ⟨#[]⟩, .bool false, .slice none 0 0, .bool false] 41)).heap.size = w.heap.size + 1 + 1 + 1 := by simp
  have S3 := S2.push #[.pointer (some ⟨w.heap.size + 1 + 1, 0, none⟩), .pointer (some ⟨w.heap.size + 1 + 1, 1, none⟩), .pointer (some ⟨w.heap.size + 1 + 1, 2, none⟩)] 63 (by simp)
  rw [e3] at S3
  exact S3
set_option maxHeartbeats 4000000 in
set_option maxRecDepth 10000 in
theorem rep_walk (s : ByteArray) (w : World) (hg : Handle w) (hs : s.size ≤ 9223372036854775807) (v1 : Int × ByteArray × Bool) (v2 : Int × ByteArray × Bool) (v3 : Int × ByteArray × Bool) (v4 : Int × ByteArray × Bool) (v5 : ByteArray × ByteArray × Bool) (v6 : Int × ByteArray × Bool) (v7 : Int × ByteArray × Bool) (m : Nat) (hm : m ≤ 16) (x8 : ByteArray × Bool) (h1 : numR s false 1073741824 = v1) (h2 : numR v1.2.1 v1.2.2 1073741824 = v2) (h3 : numR v2.2.1 v2.2.2 1073741824 = v3) (h4 : numR v3.2.1 v3.2.2 16 = v4) (h5 : textR v4.2.1 v4.2.2 64 = v5) (h6 : numR v5.2.1 v5.2.2 1 = v6) (h7 : numR v6.2.1 v6.2.2 1 = v7) (h8 : numR v7.2.1 v7.2.2 16 = ((m : Int), x8)) (mb : Bool) (hmb : wire_mayReply.f v1.1 v2.1 v3.1 v4.1 v5.1 (v6.1 == 1) (rowsI x8 m).1 (v7.1 == 1) = some mb)
    (P : S41 × Int) (hP : (if ((rowsI x8 m).2.2 = true ∨ ¬ (rowsI x8 m).2.1.size = 0) then (z41, (3 : Int)) else if mb = true then (⟨v1.1, v2.1, v3.1, v4.1, v5.1, v6.1 == 1, (rowsI x8 m).1, v7.1 == 1⟩, 0) else (z41, 3)) = P) :
    Calls Tryd.prog 17 #[.string s] w fun e w' => ∃ vr, e = .returned (repOut P vr) ∧ Kd.R k74 74 w' w.heap.size (fun _ => True) vr P.1.f6 ∧ Below w.heap.size w w' := by
  have z1 : v1.2.1.size ≤ s.size := by have h := numR_size s false 1073741824; rw [h1] at h; omega
  have z2 : v2.2.1.size ≤ s.size := by have h := numR_size v1.2.1 v1.2.2 1073741824; rw [h2] at h; omega
  have z3 : v3.2.1.size ≤ s.size := by have h := numR_size v2.2.1 v2.2.2 1073741824; rw [h3] at h; omega
  have z4 : v4.2.1.size ≤ s.size := by have h := numR_size v3.2.1 v3.2.2 16; rw [h4] at h; omega
  have z5 : v5.2.1.size ≤ s.size := by have h := textR_size v4.2.1 v4.2.2 64; rw [h5] at h; omega
  have z6 : v6.2.1.size ≤ s.size := by have h := numR_size v5.2.1 v5.2.2 1; rw [h6] at h; omega
  have z7 : v7.2.1.size ≤ s.size := by have h := numR_size v6.2.1 v6.2.2 1; rw [h7] at h; omega
  have z8 : x8.1.size ≤ s.size := by have h := numR_size v7.2.1 v7.2.2 16; rw [h8] at h; dsimp only at h; omega
  have h00 : 0 < w.heap.size := Nat.lt_of_le_of_lt (Nat.zero_le _) (cell_lt hg)
  have HS0b := Lib.hid (start_rep w s hg)
  have Z1 := Lib.hid z1
  have H1 := Lib.hid h1
  have Z2 := Lib.hid z2
  have H2 := Lib.hid h2
  have Z3 := Lib.hid z3
  have H3 := Lib.hid h3
  have Z4 := Lib.hid z4
  have H4 := Lib.hid h4
  have Z5 := Lib.hid z5
  have H5 := Lib.hid h5
  have Z6 := Lib.hid z6
  have H6 := Lib.hid h6
  have Z7 := Lib.hid z7
  have H7 := Lib.hid h7
  have Z8 := Lib.hid z8
  have H8 := Lib.hid h8
  have HSS := Lib.hid hs
  have HM := Lib.hid hm
  have HMB := Lib.hid hmb
  have H00 := Lib.hid h00
  have HP := Lib.hid hP
  clear hg hs hm hmb hP h00 z1 h1 z2 h2 z3 h3 z4 h4 z5 h5 z6 h6 z7 h7 z8 h8
  go_enter Tryd.func17, Tryd.ntmps17
  go_wp2
  refine wp_loop_rounds 4 ?_
  rw [rounds_succ]
  go_wp2_with (go_at_call 25; refine (num_calls (w.heap.size + 1) _ _ 0 _ 1073741824 _ HS0b.out.rd (by omega) (by have := HSS.out; have := HSS.out; omega) (by omega)).mono ?_)
  rintro e w1 ⟨rfl, R1, O1⟩
  have S1 := HS0b.out.call R1 O1
  rw [H1.out] at S1 ⊢
  clear R1 O1
  have q1 := S1.qc.c 0 (by simp)
  have g1 := S1.qc.f 0
  simp only [List.getElem_cons_zero, List.getElem_cons_succ] at q1
  have S1b := S1.store 0 (by simp) (.int .i64 v1.1)
  simp only [List.set_cons_zero, List.set_cons_succ] at S1b
  have HS1b := Lib.hid S1b
  have p1 := (S1b.kc _ (List.mem_cons_self ..)).1.c 1 (by simp)
  simp only [List.getElem_cons_zero, List.getElem_cons_succ] at p1
  clear S1 S1b
  go_wp2
  rw [rounds_succ]
  go_wp2_with (go_at_call 25; refine (num_calls (w.heap.size + 1) _ _ 1 _ 1073741824 _ HS1b.out.rd (by omega) (by have := Z1.out; have := HSS.out; omega) (by omega)).mono ?_)
  rintro e w2 ⟨rfl, R2, O2⟩
  have S2 := HS1b.out.call R2 O2
  rw [H2.out] at S2 ⊢
  clear R2 O2
  have q2 := S2.qc.c 1 (by simp)
  have g2 := S2.qc.f 1
  simp only [List.getElem_cons_zero, List.getElem_cons_succ] at q2
  have S2b := S2.store 1 (by simp) (.int .i64 v2.1)
  simp only [List.set_cons_zero, List.set_cons_succ] at S2b
  have HS2b := Lib.hid S2b
  have p2 := (S2b.kc _ (List.mem_cons_self ..)).1.c 2 (by simp)
  simp only [List.getElem_cons_zero, List.getElem_cons_succ] at p2
  clear S2 S2b
  go_wp2
  rw [rounds_succ]
  go_wp2_with (go_at_call 25; refine (num_calls (w.heap.size + 1) _ _ 2 _ 1073741824 _ HS2b.out.rd (by omega) (by have := Z2.out; have := HSS.out; omega) (by omega)).mono ?_)
  rintro e w3 ⟨rfl, R3, O3⟩
  have S3 := HS2b.out.call R3 O3
  rw [H3.out] at S3 ⊢
  clear R3 O3
  have q3 := S3.qc.c 2 (by simp)
  have g3 := S3.qc.f 2
  simp only [List.getElem_cons_zero, List.getElem_cons_succ] at q3
  have S3b := S3.store 2 (by simp) (.int .i64 v3.1)
  simp only [List.set_cons_zero, List.set_cons_succ] at S3b
  have HS3b := Lib.hid S3b
  clear S3 S3b
  go_wp2
  rw [rounds_succ]
  go_wp2_with (go_at_call 25; refine (num_calls (w.heap.size + 1) _ _ 3 _ 16 _ HS3b.out.rd (by omega) (by have := Z3.out; have := HSS.out; omega) (by omega)).mono ?_)
  rintro e w4 ⟨rfl, R4, O4⟩
  have S4 := HS3b.out.call R4 O4
  rw [H4.out] at S4 ⊢
  clear R4 O4
  have q4 := S4.qc.c 3 (by simp)
  have g4 := S4.qc.f 3
  simp only [List.getElem_cons_zero, List.getElem_cons_succ] at q4
  have S4b := S4.store 3 (by simp) (.int .i64 v4.1)
  simp only [List.set_cons_zero, List.set_cons_succ] at S4b
  have HS4b := Lib.hid S4b
  clear S4 S4b
  go_wp2_with (go_at_call 26; refine (text_calls (w.heap.size + 1) _ _ 4 _ 64 _ HS4b.out.rd (by omega) (by have := Z4.out; have := HSS.out; omega) (by omega)).mono ?_)
  rintro e w5 ⟨rfl, R5, O5⟩
  have S5 := HS4b.out.call R5 O5
  rw [H5.out] at S5 ⊢
  clear R5 O5
  have q5 := S5.qc.c 4 (by simp)
  have g5 := S5.qc.f 4
  simp only [List.getElem_cons_zero, List.getElem_cons_succ] at q5
  have S5b := S5.store 4 (by simp) (.string v5.1)
  simp only [List.set_cons_zero, List.set_cons_succ] at S5b
  have HS5b := Lib.hid S5b
  clear S5 S5b
  go_wp2_with (go_at_call 25; refine (num_calls (w.heap.size + 1) _ _ 5 _ 1 _ HS5b.out.rd (by omega) (by have := Z5.out; have := HSS.out; omega) (by omega)).mono ?_)
  rintro e w6 ⟨rfl, R6, O6⟩
  have S6 := HS5b.out.call R6 O6
  rw [H6.out] at S6 ⊢
  clear R6 O6
  have q6 := S6.qc.c 5 (by simp)
  have g6 := S6.qc.f 5
  simp only [List.getElem_cons_zero, List.getElem_cons_succ] at q6
  have S6b := S6.store 5 (by simp) (.bool (v6.1 == 1))
  simp only [List.set_cons_zero, List.set_cons_succ] at S6b
  have HS6b := Lib.hid S6b
  clear S6 S6b
  go_wp2_with (go_at_call 25; refine (num_calls (w.heap.size + 1) _ _ 6 _ 1 _ HS6b.out.rd (by omega) (by have := Z6.out; have := HSS.out; omega) (by omega)).mono ?_)
  rintro e w7 ⟨rfl, R7, O7⟩
  have S7 := HS6b.out.call R7 O7
  rw [H7.out] at S7 ⊢
  clear R7 O7
  have q7 := S7.qc.c 7 (by simp)
  have g7 := S7.qc.f 7
  simp only [List.getElem_cons_zero, List.getElem_cons_succ] at q7
  have S7b := S7.store 7 (by simp) (.bool (v7.1 == 1))
  simp only [List.set_cons_zero, List.set_cons_succ] at S7b
  have HS7b := Lib.hid S7b
  clear S7 S7b
  go_wp2_with (go_at_call 25; refine (num_calls (w.heap.size + 1) _ _ 7 _ 16 _ HS7b.out.rd (by omega) (by have := Z7.out; have := HSS.out; omega) (by omega)).mono ?_)
  rintro e w8 ⟨rfl, R8, O8⟩
  have S8 := HS7b.out.call R8 O8
  rw [H8.out] at S8 ⊢
  dsimp only at S8 ⊢
  clear R8 O8
  have LP0 : Aside0 (Lp w (w.heap.size + 1) (w.heap.size + 1 + 1) (w.heap.size) [w.heap.size + 1 + 1 + 1, w.heap.size, w.heap.size + 1 + 1, w.heap.size + 1] [w.heap.size + 1, w.heap.size + 1 + 1, w.heap.size] w8 (rowsI x8 0).2.1 (8 + 2 * ((0 : Nat) : Int)) (rowsI x8 0).2.2 [.int .i64 v1.1, .int .i64 v2.1, .int .i64 v3.1, .int .i64 v4.1, .string v5.1, .bool (v6.1 == 1), .slice none 0 0, .bool (v7.1 == 1)] [.int .i64 0, .int .i64 0, .int .i64 0, .int .i64 0, .string ⟨#[]⟩, .bool false, .slice none 0 0, .bool false] (.slice none ((rowsI x8 0).1.length) 0) (rowsI x8 0).1) := ⟨Lp.start S8 (by simp) (Nat.le_refl _)⟩
  clear S8
  go_wp2
  go_loopg [43] m (fun kq v43 w' => ∃ (i : Nat) (av : List Nat) (A : Option Addr) (c : Nat), v43 = .int .i64 i ∧ Aside0 (kq + i = m) ∧ Aside0 (Lp w (w.heap.size + 1) (w.heap.size + 1 + 1) (w.heap.size) av [w.heap.size + 1, w.heap.size + 1 + 1, w.heap.size] w' (rowsI x8 i).2.1 (8 + 2 * (i : Int)) (rowsI x8 i).2.2 [.int .i64 v1.1, .int .i64 v2.1, .int .i64 v3.1, .int .i64 v4.1, .string v5.1, .bool (v6.1 == 1), .slice A (rowsI x8 i).1.length c, .bool (v7.1 == 1)] [.int .i64 0, .int .i64 0, .int .i64 0, .int .i64 0, .string ⟨#[]⟩, .bool false, .slice none 0 0, .bool false] (.slice A (rowsI x8 i).1.length c) (rowsI x8 i).1))
  case atStart => exact ⟨0, _, none, 0, rfl, ⟨by omega⟩, LP0⟩
  case round =>
    obtain ⟨i, av, A, c, rfl, HK, HL⟩ := hrel
    clear LP0
    have hsz := Lib.hid (rowsI_size x8 i)
    by_cases hi : i < m
    · have c0b : decide ((i : Int) < (m : Int)) = true := decide_eq_true (by omega)
      obtain ⟨k1, hk1⟩ : ∃ v, textR (rowsI x8 i).2.1 (rowsI x8 i).2.2 32 = v := ⟨_, rfl⟩
      obtain ⟨k2, hk2⟩ : ∃ v, textR k1.2.1 k1.2.2 64 = v := ⟨_, rfl⟩
      have hstep : rowsI x8 (i + 1) = ((rowsI x8 i).1 ++ [⟨k1.1, k2.1⟩], k2.2) := by
        show rowStep _ = _
        unfold rowStep
        rw [tx_of _ hk1, tx_of _ hk2]
      have hz1 : k1.2.1.size ≤ (rowsI x8 i).2.1.size := by have h := textR_size (rowsI x8 i).2.1 (rowsI x8 i).2.2 32; rw [hk1] at h; exact h
      have hlen := rowsI_length x8 i
      have HSTEP := Lib.hid hstep
      have HK1 := Lib.hid hk1
      have HK2 := Lib.hid hk2
      have HZ1 := Lib.hid hz1
      have HLEN := Lib.hid hlen
      clear hstep hk1 hk2 hz1 hlen
      generalize rowsI x8 i = p at *
      go_wp2_with (go_at_call 26; refine (text_calls (w.heap.size + 1) av _ (8 + 2 * (i : Int)) _ 32 _ HL.out.rd (by have := HM.out; omega) (by have := hsz.out; have := Z8.out; have := HSS.out; omega) (by omega)).mono ?_)
      rintro e w20 ⟨rfl, R20, O20⟩
      have L1 := HL.out.call R20 O20
      rw [HK1.out] at L1 ⊢
      have L1p := L1.push #[.string k1.1, .string ⟨#[]⟩] 74
      have X1 : CellsAt (w20.alloc (.cells #[.string k1.1, .string ⟨#[]⟩] 74)) w20.heap.size [.string k1.1, .string ⟨#[]⟩] := cells_new w20 #[.string k1.1, .string ⟨#[]⟩] 74
      have HLT := Lib.hid L1.lt
      have HBZ := Lib.hid L1.bel.size
      have HL1 := Lib.hid L1p
      have HX1 := Lib.hid X1
      clear R20 O20 L1 L1p X1
      go_wp2_with (go_at_call 26; refine (text_calls (w.heap.size + 1) (w20.heap.size :: av) _ (8 + 2 * (i : Int) + 1) _ 64 _ HL1.out.rd (by have := HM.out; omega) (by have := HZ1.out; have := hsz.out; have := Z8.out; have := HSS.out; omega) (by omega)).mono ?_)
      rintro e w21 ⟨rfl, R21, O21⟩
      have L2 := HL1.out.call R21 O21
      rw [HK2.out] at L2 ⊢
      have X2 := HX1.out.only (by simp) O21 (by have := HLT.out; omega)
      have y1 := X2.c 1 (by simp)
      have gy1 := X2.f 1
      have L2s := L2.other (t := w20.heap.size) (by simp) (by simp) (by have := HLT.out; omega) (by have := HLT.out; omega) (by have := HLT.out; omega) HBZ.out 1 (.string k2.1)
      have X2s := X2.set 1 (by simp) (.string k2.1)
      simp only [List.getElem_cons_zero, List.getElem_cons_succ] at y1
      simp only [List.set_cons_zero, List.set_cons_succ] at X2s
      have y2 := X2s.c 0 (by simp)
      have y3 := X2s.c 1 (by simp)
      have L3 := L2s.less (fb' := [w.heap.size + 1, w.heap.size + 1 + 1, w.heap.size]) (fun a ha => List.mem_cons_of_mem _ ha) (by simp) (by simp) (by simp)
      have y4 := L3.qc.c 6 (by simp)
      simp only [List.getElem_cons_zero, List.getElem_cons_succ] at y2 y3 y4
      have HL3 := Lib.hid L3
      clear R21 O21 L2 X2 L2s X2s L3
      go_wp2_with ((with_reducible refine gate_builtin (b := .append) (xs := #[.tmp 52, .tmp 54]) rfl ?_); (try (refine gate_guard (by rfl) ?_; dsimp only)); at_builtin; refine Kd.R_append k74 (w0 := w) w.heap.size rfl (.tmp 52) (.tmp 54) 39 74 (.agg #[(.string ⟨#[]⟩), (.string ⟨#[]⟩)]) 32 rfl Tryd.underlying39 info74 rfl (by decide) (by omega) (.slice A p.1.length c) p.1 (⟨k1.1, k2.1⟩ : S74) [.string k1.1, .string k2.1] (fun k => k ∉ [w.heap.size + 1, w.heap.size + 1 + 1, w.heap.size]) (fun _ => False) rfl (by first | (go_simp; done) | (go_simp; rfl)) ?aP (fun _ hk => hk.elim) ?aF ?aO ?aB ?aS ?aL ?_; (case aP => exact k74_mkM _ _ _ _); (case aF => exact (fun k hk => by have := HL3.out.lt; simp only [List.mem_cons, List.not_mem_nil, or_false]; omega)); (case aO => exact HL3.out.row); (case aB => exact HL3.out.bel); (case aS => exact HL3.out.bel.size); (case aL => exact (by have := HLEN.out; have := HM.out; omega)); intro v1x w22 hR hB hG hAt; have L4 := HL3.out.grown hR hB hG hAt; obtain ⟨A1, c1, e1⟩ := Kd.R_slice hR; have e5 : (p.1 ++ [(⟨k1.1, k2.1⟩ : S74)]).length = p.1.length + 1 := (by simp); rw [e5] at e1; subst e1; have y5 := L4.qc.c 6 (by simp); have gy5 := L4.qc.f 6; have HL5 := Lib.hid (L4.store 6 (by simp) (.slice A1 (p.1.length + 1) c1)); have HE5 := Lib.hid e5; clear e5; simp only [List.getElem_cons_zero, List.getElem_cons_succ] at y5; clear hR hB hG hAt L4)
      go_roundg (gk - 1)
      case measure => have := HK.out; omega
      case rel =>
        refine ⟨i + 1, (Value.slice A1 (p.1.length + 1) c1).ownBlock.toList ++ (w20.heap.size :: av), A1, c1, by rw [w_nat i (by have := HM.out; omega)], ⟨by have := HK.out; omega⟩, ⟨?_⟩⟩
        rw [HSTEP.out]
        have e9 : 8 + 2 * ((i + 1 : Nat) : Int) = 8 + 2 * (i : Int) + 1 + 1 := by omega
        rw [e9]
        dsimp only
        rw [HE5.out]
        exact HL5.out
    · have c0b : decide ((i : Int) < (m : Int)) = false := decide_eq_false (by omega)
      have e : i = m := by have := HK.out; omega
      subst e
      have e0 := Lib.hid (end_calls (w.heap.size + 1) _ _ _ _ _ HL.out.hg (by omega) HL.out.rd (by have := HM.out; omega))
      have HOK := Lib.hid HL.out.row
      by_cases hb : ((rowsI x8 i).2.2 = true ∨ ¬ (rowsI x8 i).2.1.size = 0)
      · rw [if_pos hb] at e0
        have eP := HP.out
        rw [if_pos hb] at eP
        subst eP
        clear hb HP
        go_wp2_with (go_at_call 27; refine e0.out.mono ?_)
        rintro e w90 ⟨rfl, O90⟩
        have B90 := Lib.hid (HL.out.bel.trans (O90.below HL.out.r0 HL.out.bel.size))
        have K90 := HL.out.zc.only (by simp) O90 HL.out.zr
        have y0 : w90.cell? ⟨w.heap.size, 0, none⟩ = some (.int .i64 0) := K90.c 0 (by simp)
        have y1 : w90.cell? ⟨w.heap.size, 1, none⟩ = some (.int .i64 0) := K90.c 1 (by simp)
        have y2 : w90.cell? ⟨w.heap.size, 2, none⟩ = some (.int .i64 0) := K90.c 2 (by simp)
        have y3 : w90.cell? ⟨w.heap.size, 3, none⟩ = some (.int .i64 0) := K90.c 3 (by simp)
        have y4 : w90.cell? ⟨w.heap.size, 4, none⟩ = some (.string ⟨#[]⟩) := K90.c 4 (by simp)
        have y5 : w90.cell? ⟨w.heap.size, 5, none⟩ = some (.bool false) := K90.c 5 (by simp)
        have y6 : w90.cell? ⟨w.heap.size, 6, none⟩ = some (.slice none 0 0) := K90.c 6 (by simp)
        have y7 : w90.cell? ⟨w.heap.size, 7, none⟩ = some (.bool false) := K90.c 7 (by simp)
        have f0 := K90.f 0
        have f1 := K90.f 1
        have f2 := K90.f 2
        have f3 := K90.f 3
        have f4 := K90.f 4
        have f5 := K90.f 5
        have f6 := K90.f 6
        have f7 := K90.f 7
        have HK90 := Lib.hid K90
        clear K90 O90
        go_wp2
        have KF := ((((((((HK90.out).set 0 (by simp) (.int .i64 0)).set 1 (by simp) (.int .i64 0)).set 2 (by simp) (.int .i64 0)).set 3 (by simp) (.int .i64 0)).set 4 (by simp) (.string ⟨#[]⟩)).set 5 (by simp) (.bool false)).set 6 (by simp) (.slice none 0 0)).set 7 (by simp) (.bool false)
        try simp only [Exit.inBlock, Exit.then]
        have HLD := load_rep _ _ _ KF (.int .i64 0) (.int .i64 0) (.int .i64 0) (.int .i64 0) (.string ⟨#[]⟩) (.bool false) (.slice none 0 0) (.bool false) rfl
        refine bodyPost_ret (results_cell_tmp Tryd.results17 _ _ _ ⟨w.heap.size, 0, none⟩ _ rfl HLD) rfl ?_
        refine ⟨.slice none 0 0, ?_, ?_, ?_⟩
        · rfl
        · exact Kd.R_nil _ _ _ _ _
        · exact ((((((((B90.out).setCell (p := ⟨w.heap.size, _, none⟩) (Nat.le_refl _) _).setCell (p := ⟨w.heap.size, _, none⟩) (Nat.le_refl _) _).setCell (p := ⟨w.heap.size, _, none⟩) (Nat.le_refl _) _).setCell (p := ⟨w.heap.size, _, none⟩) (Nat.le_refl _) _).setCell (p := ⟨w.heap.size, _, none⟩) (Nat.le_refl _) _).setCell (p := ⟨w.heap.size, _, none⟩) (Nat.le_refl _) _).setCell (p := ⟨w.heap.size, _, none⟩) (Nat.le_refl _) _).setCell (p := ⟨w.heap.size, _, none⟩) (Nat.le_refl _) _
      · rw [if_neg hb] at e0
        have eP := HP.out
        rw [if_neg hb] at eP
        have HPX := Lib.hid eP
        clear hb HP eP
        go_wp2_with (go_at_call 27; refine e0.out.mono ?_)
        rintro e w90 ⟨rfl, O90⟩
        have B90 := Lib.hid (HL.out.bel.trans (O90.below HL.out.r0 HL.out.bel.size))
        have K90 := HL.out.zc.only (by simp) O90 HL.out.zr
        have Q90 := HL.out.qc.only (by simp) O90 HL.out.qr
        have R90 := Kd.R_step HOK.out (fun k hk hlt => O90.block k hlt (fun e => hk (by rw [e]; simp)))
        obtain ⟨A9, c9, e9, hc9, hC9⟩ := Kd.R_reads R90
        cases e9
        have x0 := Q90.c 0 (by simp)
        have x1 := Q90.c 1 (by simp)
        have x2 := Q90.c 2 (by simp)
        have x3 := Q90.c 3 (by simp)
        have x4 := Q90.c 4 (by simp)
        have x5 := Q90.c 5 (by simp)
        have x6 := Q90.c 6 (by simp)
        have x7 := Q90.c 7 (by simp)
        simp only [List.getElem_cons_zero, List.getElem_cons_succ] at x0 x1 x2 x3 x4 x5 x6 x7
        have HC9 := Lib.hid hC9
        have Hc9 := Lib.hid hc9
        have HR90 := Lib.hid R90
        have HK90 := Lib.hid K90
        have HQ90 := Lib.hid Q90
        clear hC9 hc9 R90 K90 Q90 O90 HK
        go_wp2_with (go_at_call 32; refine (wire_mayReply.calls v1.1 v2.1 v3.1 v4.1 v5.1 (v6.1 == 1) A c (rowsI x8 i).1 (v7.1 == 1) mb _ HC9.out Hc9.out HMB.out).mono ?_)
        rintro e w91 ⟨rfl, b91⟩
        have B91 := Lib.hid (B90.out.trans (b91.mono B90.out.size))
        have K91 := HK90.out.below (by simp) b91
        have Q91 := HQ90.out.below (by simp) b91
        have R91 := Kd.R_below HR90.out b91
        have y0 : w91.cell? ⟨w.heap.size, 0, none⟩ = some (.int .i64 0) := K91.c 0 (by simp)
        have y1 : w91.cell? ⟨w.heap.size, 1, none⟩ = some (.int .i64 0) := K91.c 1 (by simp)
        have y2 : w91.cell? ⟨w.heap.size, 2, none⟩ = some (.int .i64 0) := K91.c 2 (by simp)
        have y3 : w91.cell? ⟨w.heap.size, 3, none⟩ = some (.int .i64 0) := K91.c 3 (by simp)
        have y4 : w91.cell? ⟨w.heap.size, 4, none⟩ = some (.string ⟨#[]⟩) := K91.c 4 (by simp)
        have y5 : w91.cell? ⟨w.heap.size, 5, none⟩ = some (.bool false) := K91.c 5 (by simp)
        have y6 : w91.cell? ⟨w.heap.size, 6, none⟩ = some (.slice none 0 0) := K91.c 6 (by simp)
        have y7 : w91.cell? ⟨w.heap.size, 7, none⟩ = some (.bool false) := K91.c 7 (by simp)
        have f0 := K91.f 0
        have f1 := K91.f 1
        have f2 := K91.f 2
        have f3 := K91.f 3
        have f4 := K91.f 4
        have f5 := K91.f 5
        have f6 := K91.f 6
        have f7 := K91.f 7
        have u0 := Q91.c 0 (by simp)
        have u1 := Q91.c 1 (by simp)
        have u2 := Q91.c 2 (by simp)
        have u3 := Q91.c 3 (by simp)
        have u4 := Q91.c 4 (by simp)
        have u5 := Q91.c 5 (by simp)
        have u6 := Q91.c 6 (by simp)
        have u7 := Q91.c 7 (by simp)
        simp only [List.getElem_cons_zero, List.getElem_cons_succ] at u0 u1 u2 u3 u4 u5 u6 u7
        have HR91 := Lib.hid R91
        have HK91 := Lib.hid K91
        clear b91 K91 Q91 R91
        cases mb with
        | true =>
          have eP := HPX.out
          rw [if_pos rfl] at eP
          subst eP
          clear HPX
          go_wp2
          have KF := ((((((((HK91.out).set 0 (by simp) (.int .i64 v1.1)).set 1 (by simp) (.int .i64 v2.1)).set 2 (by simp) (.int .i64 v3.1)).set 3 (by simp) (.int .i64 v4.1)).set 4 (by simp) (.string v5.1)).set 5 (by simp) (.bool (v6.1 == 1))).set 6 (by simp) (.slice A (rowsI x8 i).1.length c)).set 7 (by simp) (.bool (v7.1 == 1))
          try simp only [Exit.inBlock, Exit.then]
          have HLD := load_rep _ _ _ KF (.int .i64 v1.1) (.int .i64 v2.1) (.int .i64 v3.1) (.int .i64 v4.1) (.string v5.1) (.bool (v6.1 == 1)) (.slice A (rowsI x8 i).1.length c) (.bool (v7.1 == 1)) rfl
          refine bodyPost_ret (results_cell_tmp Tryd.results17 _ _ _ ⟨w.heap.size, 0, none⟩ _ rfl HLD) rfl ?_
          refine ⟨.slice A (rowsI x8 i).1.length c, ?_, ?_, ?_⟩
          · rfl
          · exact Kd.R_mono (Kd.R_step (Kd.R_step (Kd.R_step (Kd.R_step (Kd.R_step (Kd.R_step (Kd.R_step (Kd.R_step (HR91.out) (fun k hk _ => Below.heap_setCell _ _ _ k (fun e => hk (by rw [e]; simp)))) (fun k hk _ => Below.heap_setCell _ _ _ k (fun e => hk (by rw [e]; simp)))) (fun k hk _ => Below.heap_setCell _ _ _ k (fun e => hk (by rw [e]; simp)))) (fun k hk _ => Below.heap_setCell _ _ _ k (fun e => hk (by rw [e]; simp)))) (fun k hk _ => Below.heap_setCell _ _ _ k (fun e => hk (by rw [e]; simp)))) (fun k hk _ => Below.heap_setCell _ _ _ k (fun e => hk (by rw [e]; simp)))) (fun k hk _ => Below.heap_setCell _ _ _ k (fun e => hk (by rw [e]; simp)))) (fun k hk _ => Below.heap_setCell _ _ _ k (fun e => hk (by rw [e]; simp)))) (fun _ _ => trivial)
          · exact ((((((((B91.out).setCell (p := ⟨w.heap.size, _, none⟩) (Nat.le_refl _) _).setCell (p := ⟨w.heap.size, _, none⟩) (Nat.le_refl _) _).setCell (p := ⟨w.heap.size, _, none⟩) (Nat.le_refl _) _).setCell (p := ⟨w.heap.size, _, none⟩) (Nat.le_refl _) _).setCell (p := ⟨w.heap.size, _, none⟩) (Nat.le_refl _) _).setCell (p := ⟨w.heap.size, _, none⟩) (Nat.le_refl _) _).setCell (p := ⟨w.heap.size, _, none⟩) (Nat.le_refl _) _).setCell (p := ⟨w.heap.size, _, none⟩) (Nat.le_refl _) _
        | false =>
          have eP := HPX.out
          rw [if_neg (by decide)] at eP
          subst eP
          clear HPX
          go_wp2
          have KF := ((((((((HK91.out).set 0 (by simp) (.int .i64 0)).set 1 (by simp) (.int .i64 0)).set 2 (by simp) (.int .i64 0)).set 3 (by simp) (.int .i64 0)).set 4 (by simp) (.string ⟨#[]⟩)).set 5 (by simp) (.bool false)).set 6 (by simp) (.slice none 0 0)).set 7 (by simp) (.bool false)
          try simp only [Exit.inBlock, Exit.then]
          have HLD := load_rep _ _ _ KF (.int .i64 0) (.int .i64 0) (.int .i64 0) (.int .i64 0) (.string ⟨#[]⟩) (.bool false) (.slice none 0 0) (.bool false) rfl
          refine bodyPost_ret (results_cell_tmp Tryd.results17 _ _ _ ⟨w.heap.size, 0, none⟩ _ rfl HLD) rfl ?_
          refine ⟨.slice none 0 0, ?_, ?_, ?_⟩
          · rfl
          · exact Kd.R_nil _ _ _ _ _
          · exact ((((((((B91.out).setCell (p := ⟨w.heap.size, _, none⟩) (Nat.le_refl _) _).setCell (p := ⟨w.heap.size, _, none⟩) (Nat.le_refl _) _).setCell (p := ⟨w.heap.size, _, none⟩) (Nat.le_refl _) _).setCell (p := ⟨w.heap.size, _, none⟩) (Nat.le_refl _) _).setCell (p := ⟨w.heap.size, _, none⟩) (Nat.le_refl _) _).setCell (p := ⟨w.heap.size, _, none⟩) (Nat.le_refl _) _).setCell (p := ⟨w.heap.size, _, none⟩) (Nat.le_refl _) _).setCell (p := ⟨w.heap.size, _, none⟩) (Nat.le_refl _) _
end Go.Proofs.YtlpcidjmaeicoaaDoor.Reader

/-! TakeReplyC -/
/- The contract of wire.TakeReply, in a closed form, as the printed texts call it. -/
namespace Go.Proofs.YtlpcidjmaeicoaaDoor.QWi
open Go Go.RowKit Go.Proofs.YtlpcidjmaeicoaaDoor.Reader Go.Proofs.YtlpcidjmaeicoaaDoorW.PrintWords

/-- May a reply be? -/
def mayB (a0 a1 a2 a3 : Int) (a4 : ByteArray) (a5 : Bool) (l : List S74) (a7 : Bool) : Bool := (wire_mayReply.f a0 a1 a2 a3 a4 a5 l a7).getD false
theorem w_back (i : Nat) (h : i < 9223372036854775807) (h1 : 1 ≤ i) : wrap64 ((i : Int) - 1) = ((i - 1 : Nat) : Int) := by
  unfold wrap64
  omega
theorem right_at (l : List S74) (hl : l.length ≤ 16) : ∀ (d i k : Nat), l.length + 1 - i = d → 1 ≤ i → d < k → ∃ b, table_Right.l0 k l (i : Int) = some b := by
  intro d
  induction d with
  | zero =>
    intro i k hd h1 hk
    obtain ⟨k, rfl⟩ : ∃ j, k = j + 1 := ⟨k - 1, by omega⟩
    rw [table_Right.l0, if_neg (by omega)]
    exact ⟨_, rfl⟩
  | succ d ih =>
    intro i k hd h1 hk
    obtain ⟨k, rfl⟩ : ∃ j, k = j + 1 := ⟨k - 1, by omega⟩
    rw [table_Right.l0]
    by_cases hx : (i : Int) < (l.length : Int)
    · rw [if_pos hx, w_back i (by omega) h1, w_nat i (by omega), if_pos (by omega), if_pos (by omega), if_pos (by omega)]
      split
      · exact ih (i + 1) k (by omega) (by omega) (by omega)
      · exact ⟨_, rfl⟩
    · rw [if_neg hx]
      exact ⟨_, rfl⟩
theorem mayReply_some (a0 a1 a2 a3 : Int) (a4 : ByteArray) (a5 : Bool) (l : List S74) (a7 : Bool) : wire_mayReply.f a0 a1 a2 a3 a4 a5 l a7 = some (mayB a0 a1 a2 a3 a4 a5 l a7) := by
  have h : ∃ b, wire_mayReply.f a0 a1 a2 a3 a4 a5 l a7 = some b := by
    unfold wire_mayReply.f
    by_cases c6 : 16 < (l.length : Int)
    · simp only [if_pos c6]
      repeat' split
      all_goals exact ⟨_, rfl⟩
    · obtain ⟨b, hb⟩ : ∃ b, table_Right.f 20 l = some b := right_at l (by omega) _ 1 20 rfl (Nat.le_refl _) (by omega)
      rw [hb]
      cases b with
      | false =>
        repeat' split
        all_goals first | exact ⟨_, rfl⟩ | contradiction
      | true =>
        repeat' split
        all_goals first | exact ⟨_, rfl⟩ | contradiction
  obtain ⟨b, hb⟩ := h
  unfold mayB
  rw [hb]
  rfl
abbrev P9 : Type := Int × Int × Int × Int × ByteArray × Bool × List S74 × Bool × Int
def flatP (P : S41 × Int) : P9 := (P.1.f0, P.1.f1, P.1.f2, P.1.f3, P.1.f4, P.1.f5, P.1.f6, P.1.f7, P.2)
def goodP (a0 a1 a2 a3 : Int) (t : ByteArray) (f o : Bool) (p : List S74 × ByteArray × Bool) : S41 × Int :=
  if p.2.2 = true ∨ ¬ p.2.1.size = 0 then (z41, 3) else if mayB a0 a1 a2 a3 t f p.1 o = true then (⟨a0, a1, a2, a3, t, f, p.1, o⟩, 0) else (z41, 3)
/-- What wire.TakeReply gives. -/
def takeReplyF (s : ByteArray) : S41 × Int :=
  nx (s, false) 1073741824 fun a1 x1 => nx x1 1073741824 fun a2 x2 => nx x2 1073741824 fun a3 x3 => nx x3 16 fun a4 x4 => tx x4 64 fun a5 x5 => nx x5 1 fun a6 x6 => nx x6 1 fun a7 x7 => nx x7 16 fun a8 x8 =>
    goodP a1 a2 a3 a4 a5 (a6 == 1) (a7 == 1) (rowsI x8 a8.toNat)
theorem numR_nonneg (s : ByteArray) (bad : Bool) (most : Int) (h : 0 ≤ most) : 0 ≤ (numR s bad most).1 ∧ (numR s bad most).1 ≤ most := by
  unfold numR
  split
  · exact ⟨Int.le_refl _, h⟩
  · rename_i hx
    have := takeNum_nonneg s
    simp only [not_or] at hx
    exact ⟨this, by omega⟩
theorem takeReply_all (s : ByteArray) (hs : s.size ≤ 9223372036854775807) (w : World) (hg : Handle w) : Calls Tryd.prog 17 #[.string s] w fun e w' => ∃ vr, e = .returned (repOut (takeReplyF s) vr) ∧ Kd.R k74 74 w' w.heap.size (fun _ => True) vr (takeReplyF s).1.f6 ∧ Below w.heap.size w w' := by
  obtain ⟨v1, h1⟩ : ∃ v, numR s false 1073741824 = v := ⟨_, rfl⟩
  obtain ⟨v2, h2⟩ : ∃ v, numR v1.2.1 v1.2.2 1073741824 = v := ⟨_, rfl⟩
  obtain ⟨v3, h3⟩ : ∃ v, numR v2.2.1 v2.2.2 1073741824 = v := ⟨_, rfl⟩
  obtain ⟨v4, h4⟩ : ∃ v, numR v3.2.1 v3.2.2 16 = v := ⟨_, rfl⟩
  obtain ⟨v5, h5⟩ : ∃ v, textR v4.2.1 v4.2.2 64 = v := ⟨_, rfl⟩
  obtain ⟨v6, h6⟩ : ∃ v, numR v5.2.1 v5.2.2 1 = v := ⟨_, rfl⟩
  obtain ⟨v7, h7⟩ : ∃ v, numR v6.2.1 v6.2.2 1 = v := ⟨_, rfl⟩
  obtain ⟨v8, h8⟩ : ∃ v, numR v7.2.1 v7.2.2 16 = v := ⟨_, rfl⟩
  have hF : takeReplyF s = goodP v1.1 v2.1 v3.1 v4.1 v5.1 (v6.1 == 1) (v7.1 == 1) (rowsI v8.2 v8.1.toNat) := by
    unfold takeReplyF
    rw [nx_of _ h1, nx_of _ h2, nx_of _ h3, nx_of _ h4, tx_of _ h5, nx_of _ h6, nx_of _ h7, nx_of _ h8]
  have h8b := numR_nonneg v7.2.1 v7.2.2 16 (by omega)
  rw [h8] at h8b
  rw [hF]
  refine rep_walk s w hg hs v1 v2 v3 v4 v5 v6 v7 v8.1.toNat (by omega) v8.2 h1 h2 h3 h4 h5 h6 h7 ?_ _ (mayReply_some ..) _ rfl
  rw [h8]
  exact Prod.ext (by show v8.1 = ((v8.1.toNat : Nat) : Int); omega) rfl
def wire_TakeReply.f (s : ByteArray) : Option P9 := if s.size ≤ 9223372036854775807 then some (flatP (takeReplyF s)) else none
theorem wire_TakeReply.calls (a0 : ByteArray) (r1 r2 r3 r4 : Int) (r5 : ByteArray) (r6 : Bool) (r7 : List S74) (r8 : Bool) (r9 : Int) (w : World) (h : wire_TakeReply.f a0 = some (r1, r2, r3, r4, r5, r6, r7, r8, r9)) (hg : Handle w) :
    Calls Tryd.prog 17 #[.string a0] w fun e w' => ∃ v6_ : Value, e = .returned (.tuple #[.agg #[.int .i64 r1, .int .i64 r2, .int .i64 r3, .int .i64 r4, .string r5, .bool r6, v6_, .bool r8], .int .i64 r9]) ∧ Kd.R k74 74 w' w.heap.size (fun _ => True) v6_ r7 ∧ Below w.heap.size w w' := by
  unfold wire_TakeReply.f at h
  by_cases hs : a0.size ≤ 9223372036854775807
  · rw [if_pos hs] at h
    have e := Option.some.inj h
    have c := takeReply_all a0 hs w hg
    generalize takeReplyF a0 = P at e c
    obtain ⟨⟨b0, b1, b2, b3, b4, b5, b6, b7⟩, b8⟩ := P
    simp only [flatP, Prod.mk.injEq] at e
    obtain ⟨rfl, rfl, rfl, rfl, rfl, rfl, rfl, rfl, rfl⟩ := e
    exact c
  · rw [if_neg hs] at h
    cases h
end Go.Proofs.YtlpcidjmaeicoaaDoor.QWi

/-! QWix2 -/
namespace Go.Proofs.YtlpcidjmaeicoaaDoor.QWi
open Go.RowKit Go.Proofs.YtlpcidjmaeicoaaDoorW.PrintWords Go.Proofs.YtlpcidjmaeicoaaDoorW.PrintLast Go.Proofs.YtlpcidjmaeicoaaDoorW.PrintMore
attribute [local go_sem] max2_int min2_int max_two min_two max_three min_three max_four min_four   -- for this text's walks alone
set_option linter.unusedVariables false
set_option linter.unusedSimpArgs false

end Go.Proofs.YtlpcidjmaeicoaaDoor.QWi

/-! QWix7 -/
namespace Go.Proofs.YtlpcidjmaeicoaaDoor.QWi
open Go.RowKit Go.Proofs.YtlpcidjmaeicoaaDoorW.PrintWords Go.Proofs.YtlpcidjmaeicoaaDoorW.PrintLast Go.Proofs.YtlpcidjmaeicoaaDoorW.PrintMore
attribute [local go_sem] max2_int min2_int max_two min_two max_three min_three max_four min_four   -- for this text's walks alone
set_option linter.unusedVariables false
set_option linter.unusedSimpArgs false

/-! ### wire_Reply: function 15 -/
def wire_Reply.l0 : Nat → ByteArray → List (S74) → Int → Int → Option (ByteArray × Int)
  | 0, _, _, _, _ => none
  | k + 1, x4, x38, x39, x40 => if x40 < x39 then (if 0 ≤ x40 then (if x40 < (x38.length : Int) then ((wire_texts.f (([(rd_T74 x38 x40).f0, (rd_T74 x38 x40).f1] : List ByteArray))).bind fun t154 => (if x4.size + t154.size ≤ 9223372036854775807 then (wire_Reply.l0 k (x4 ++ t154) x38 x39 (wrap64 (x40 + 1))) else (none))) else (none)) else (none)) else (some (x4, 0))
def wire_Reply.f (k : Nat) (a0_0 : Int) (a0_1 : Int) (a0_2 : Int) (a0_3 : Int) (a0_4 : ByteArray) (a0_5 : Bool) (l0_6 : List (S74)) (a0_7 : Bool) : Option (ByteArray × Int) := (wire_mayReply.f a0_0 a0_1 a0_2 a0_3 a0_4 a0_5 l0_6 a0_7).bind fun t134 => (if t134 = true then ((wire_nums.f (([a0_0, a0_1, a0_2, a0_3] : List Int))).bind fun t138 => ((wire_texts.f (([a0_4] : List ByteArray))).bind fun t142 => (if t138.size + t142.size ≤ 9223372036854775807 then ((wire_flag.f a0_5).bind fun t143 => ((wire_flag.f a0_7).bind fun t144 => ((wire_nums.f (([t143, t144, (l0_6.length : Int)] : List Int))).bind fun t148 => (if (t138 ++ t142).size + t148.size ≤ 9223372036854775807 then (wire_Reply.l0 k ((t138 ++ t142) ++ t148) l0_6 (l0_6.length : Int) 0) else (none))))) else (none)))) else (some ((⟨#[]⟩ : ByteArray), 1)))
def wire_Reply.T3 : Bool × List (List Nat × List Nat) := (true, [([], []), ([0], [0]), ([], []), ([2], [2]), ([], []), ([4], [4]), ([], []), ([6], [6]), ([1, 3, 5, 7], [1, 3, 5, 7]), ([8], [8]), ([], []), ([10], [10]), ([11], [11]), ([12, 9], [12]), ([9, 13], [9, 13]), ([], []), ([15], [15]), ([16, 13], [16]), ([], []), ([18], [18]), ([19, 17], [19]), ([], []), ([21], [21]), ([22], [22]), ([17, 20, 23], [17, 20, 23]), ([24, 20], [24]), ([14, 25], [14, 25]), ([26, 25, 0, 1, 2, 3, 4, 5, 6, 7, 8, 9, 10, 11, 12, 13, 14, 15, 16, 17, 18, 19, 20, 21, 22, 23, 24, 25, 26], [26])])
def wire_Reply.B3 : List Nat := [0, 1, 0, 4, 0, 16, 0, 64, 255, 511, 0, 1024, 3072, 8191, 16383, 0, 32768, 114687, 0, 262144, 1032191, 0, 2097152, 6291456, 16760831, 33538047, 67108863, 134217727]
theorem wire_Reply.tab3 : rtab .any (opsOf Tryd.f15 3) = wire_Reply.T3 := by kernel_rfl
theorem wire_Reply.bits3 : waitsOk wire_Reply.T3.2 wire_Reply.B3 = true := by kernel_rfl
set_option maxHeartbeats 8000000 in
set_option maxRecDepth 100000 in
theorem wire_Reply.calls (k : Nat) (a0_0 : Int) (a0_1 : Int) (a0_2 : Int) (a0_3 : Int) (a0_4 : ByteArray) (a0_5 : Bool) (A0_6 : Option Addr) (c0_6 : Nat) (l0_6 : List (S74)) (a0_7 : Bool) (r1 : ByteArray) (r2 : Int) (w : World) (hr0_6 : Kd.C k74 w A0_6 l0_6.length l0_6) (hc0_6 : l0_6.length ≤ c0_6) (h : wire_Reply.f k a0_0 a0_1 a0_2 a0_3 a0_4 a0_5 l0_6 a0_7 = some (r1, r2)) :
    Calls Tryd.prog 15 #[.agg #[.int .i64 a0_0, .int .i64 a0_1, .int .i64 a0_2, .int .i64 a0_3, .string a0_4, .bool a0_5, .slice A0_6 l0_6.length c0_6, .bool a0_7]] w fun e w' => e = .returned (.tuple #[.string r1, .int .i64 r2]) ∧ Below w.heap.size w w' := by
  have hu41 := Tryd.underlying41
  have hu74 := Tryd.underlying74
  have HR0_6 := Aside0.mk hr0_6
  have HC0_6 := Aside0.mk hc0_6
  clear hr0_6 hc0_6
  have HB := Aside0.mk (Below.refl w.heap.size w)
  have H : ((wire_mayReply.f a0_0 a0_1 a0_2 a0_3 a0_4 a0_5 l0_6 a0_7).bind fun t134 => (if t134 = true then ((wire_nums.f (([a0_0, a0_1, a0_2, a0_3] : List Int))).bind fun t138 => ((wire_texts.f (([a0_4] : List ByteArray))).bind fun t142 => (if t138.size + t142.size ≤ 9223372036854775807 then ((wire_flag.f a0_5).bind fun t143 => ((wire_flag.f a0_7).bind fun t144 => ((wire_nums.f (([t143, t144, (l0_6.length : Int)] : List Int))).bind fun t148 => (if (t138 ++ t142).size + t148.size ≤ 9223372036854775807 then (wire_Reply.l0 k ((t138 ++ t142) ++ t148) l0_6 (l0_6.length : Int) 0) else (none))))) else (none)))) else (some ((⟨#[]⟩ : ByteArray), 1)))) = some (r1, r2) := h
  clear h
  replace H := Option.bind_eq_some_iff.mp H
  obtain ⟨t134, A20, H⟩ := H
  replace H : (if t134 = true then ((wire_nums.f (([a0_0, a0_1, a0_2, a0_3] : List Int))).bind fun t138 => ((wire_texts.f (([a0_4] : List ByteArray))).bind fun t142 => (if t138.size + t142.size ≤ 9223372036854775807 then ((wire_flag.f a0_5).bind fun t143 => ((wire_flag.f a0_7).bind fun t144 => ((wire_nums.f (([t143, t144, (l0_6.length : Int)] : List Int))).bind fun t148 => (if (t138 ++ t142).size + t148.size ≤ 9223372036854775807 then (wire_Reply.l0 k ((t138 ++ t142) ++ t148) l0_6 (l0_6.length : Int) 0) else (none))))) else (none)))) else (some ((⟨#[]⟩ : ByteArray), 1))) = some (r1, r2) := H
  have A2 := Aside0.mk A20
  clear A20
  by_cases c3 : t134 = true
  · subst c3
    have H1 : ((wire_nums.f (([a0_0, a0_1, a0_2, a0_3] : List Int))).bind fun t138 => ((wire_texts.f (([a0_4] : List ByteArray))).bind fun t142 => (if t138.size + t142.size ≤ 9223372036854775807 then ((wire_flag.f a0_5).bind fun t143 => ((wire_flag.f a0_7).bind fun t144 => ((wire_nums.f (([t143, t144, (l0_6.length : Int)] : List Int))).bind fun t148 => (if (t138 ++ t142).size + t148.size ≤ 9223372036854775807 then (wire_Reply.l0 k ((t138 ++ t142) ++ t148) l0_6 (l0_6.length : Int) 0) else (none))))) else (none)))) = some (r1, r2) := by rw [if_pos rfl] at H; exact H
    clear H
    have H := H1
    clear H1
    obtain ⟨y135, hy135⟩ : ∃ y_ : List Int, y_ = (([a0_0, a0_1, a0_2, a0_3] : List Int)) := ⟨_, rfl⟩
    replace H : ((wire_nums.f y135).bind fun t138 => ((wire_texts.f (([a0_4] : List ByteArray))).bind fun t142 => (if t138.size + t142.size ≤ 9223372036854775807 then ((wire_flag.f a0_5).bind fun t143 => ((wire_flag.f a0_7).bind fun t144 => ((wire_nums.f (([t143, t144, (l0_6.length : Int)] : List Int))).bind fun t148 => (if (t138 ++ t142).size + t148.size ≤ 9223372036854775807 then (wire_Reply.l0 k ((t138 ++ t142) ++ t148) l0_6 (l0_6.length : Int) 0) else (none))))) else (none)))) = some (r1, r2) := by first | (rw [hy135]; with_reducible exact H) | (have H2_ := (Option.bind_some _ _).symm.trans H; rw [hy135]; with_reducible exact H2_) | (have H2_ := (Option.bind_some _ _).symm.trans H; with_reducible exact H2_) | with_reducible exact H | (rw [hy135]; exact H) | exact H
    have Ny135 := Aside0.mk hy135
    clear hy135
    replace H := Option.bind_eq_some_iff.mp H
    obtain ⟨t138, A40, H⟩ := H
    replace H : ((wire_texts.f (([a0_4] : List ByteArray))).bind fun t142 => (if t138.size + t142.size ≤ 9223372036854775807 then ((wire_flag.f a0_5).bind fun t143 => ((wire_flag.f a0_7).bind fun t144 => ((wire_nums.f (([t143, t144, (l0_6.length : Int)] : List Int))).bind fun t148 => (if (t138 ++ t142).size + t148.size ≤ 9223372036854775807 then (wire_Reply.l0 k ((t138 ++ t142) ++ t148) l0_6 (l0_6.length : Int) 0) else (none))))) else (none))) = some (r1, r2) := H
    have A4 := Aside0.mk A40
    clear A40
    obtain ⟨y139, hy139⟩ : ∃ y_ : List ByteArray, y_ = (([a0_4] : List ByteArray)) := ⟨_, rfl⟩
    replace H : ((wire_texts.f y139).bind fun t142 => (if t138.size + t142.size ≤ 9223372036854775807 then ((wire_flag.f a0_5).bind fun t143 => ((wire_flag.f a0_7).bind fun t144 => ((wire_nums.f (([t143, t144, (l0_6.length : Int)] : List Int))).bind fun t148 => (if (t138 ++ t142).size + t148.size ≤ 9223372036854775807 then (wire_Reply.l0 k ((t138 ++ t142) ++ t148) l0_6 (l0_6.length : Int) 0) else (none))))) else (none))) = some (r1, r2) := by first | (rw [hy139]; with_reducible exact H) | (have H2_ := (Option.bind_some _ _).symm.trans H; rw [hy139]; with_reducible exact H2_) | (have H2_ := (Option.bind_some _ _).symm.trans H; with_reducible exact H2_) | with_reducible exact H | (rw [hy139]; exact H) | exact H
    have Ny139 := Aside0.mk hy139
    clear hy139
    replace H := Option.bind_eq_some_iff.mp H
    obtain ⟨t142, A50, H⟩ := H
    replace H : (if t138.size + t142.size ≤ 9223372036854775807 then ((wire_flag.f a0_5).bind fun t143 => ((wire_flag.f a0_7).bind fun t144 => ((wire_nums.f (([t143, t144, (l0_6.length : Int)] : List Int))).bind fun t148 => (if (t138 ++ t142).size + t148.size ≤ 9223372036854775807 then (wire_Reply.l0 k ((t138 ++ t142) ++ t148) l0_6 (l0_6.length : Int) 0) else (none))))) else (none)) = some (r1, r2) := H
    have A5 := Aside0.mk A50
    clear A50
    by_cases c6 : t138.size + t142.size ≤ 9223372036854775807
    · rw [if_pos c6] at H
      have c6b0 := eq_true c6
      have c6b1 : decide (t138.size + t142.size ≤ 9223372036854775807) = true := decide_eq_true c6
      try have c6b2 : (9223372036854775807 < t138.size + t142.size) = False := eq_false (Nat.not_lt.2 c6)
      replace H := Option.bind_eq_some_iff.mp H
      obtain ⟨t143, A70, H⟩ := H
      replace H : ((wire_flag.f a0_7).bind fun t144 => ((wire_nums.f (([t143, t144, (l0_6.length : Int)] : List Int))).bind fun t148 => (if (t138 ++ t142).size + t148.size ≤ 9223372036854775807 then (wire_Reply.l0 k ((t138 ++ t142) ++ t148) l0_6 (l0_6.length : Int) 0) else (none)))) = some (r1, r2) := H
      have A7 := Aside0.mk A70
      clear A70
      replace H := Option.bind_eq_some_iff.mp H
      obtain ⟨t144, A80, H⟩ := H
      replace H : ((wire_nums.f (([t143, t144, (l0_6.length : Int)] : List Int))).bind fun t148 => (if (t138 ++ t142).size + t148.size ≤ 9223372036854775807 then (wire_Reply.l0 k ((t138 ++ t142) ++ t148) l0_6 (l0_6.length : Int) 0) else (none))) = some (r1, r2) := H
      have A8 := Aside0.mk A80
      clear A80
      obtain ⟨y145, hy145⟩ : ∃ y_ : List Int, y_ = (([t143, t144, (l0_6.length : Int)] : List Int)) := ⟨_, rfl⟩
      replace H : ((wire_nums.f y145).bind fun t148 => (if (t138 ++ t142).size + t148.size ≤ 9223372036854775807 then (wire_Reply.l0 k ((t138 ++ t142) ++ t148) l0_6 (l0_6.length : Int) 0) else (none))) = some (r1, r2) := by first | (rw [hy145]; with_reducible exact H) | (have H2_ := (Option.bind_some _ _).symm.trans H; rw [hy145]; with_reducible exact H2_) | (have H2_ := (Option.bind_some _ _).symm.trans H; with_reducible exact H2_) | with_reducible exact H | (rw [hy145]; exact H) | exact H
      have Ny145 := Aside0.mk hy145
      clear hy145
      replace H := Option.bind_eq_some_iff.mp H
      obtain ⟨t148, A90, H⟩ := H
      replace H : (if (t138 ++ t142).size + t148.size ≤ 9223372036854775807 then (wire_Reply.l0 k ((t138 ++ t142) ++ t148) l0_6 (l0_6.length : Int) 0) else (none)) = some (r1, r2) := H
      have A9 := Aside0.mk A90
      clear A90
      by_cases c10 : (t138 ++ t142).size + t148.size ≤ 9223372036854775807
      · rw [if_pos c10] at H
        have c10b0 := eq_true c10
        have c10b1 : decide ((t138 ++ t142).size + t148.size ≤ 9223372036854775807) = true := decide_eq_true c10
        try have c10b2 : (9223372036854775807 < (t138 ++ t142).size + t148.size) = False := eq_false (Nat.not_lt.2 c10)
        try have c10b9 : (9223372036854775807 < t138.size + t142.size + t148.size) = False := by first | (rw [← ByteArray.size_append]; exact c10b2) | (have h9 := c10b2; simp only [ByteArray.size_append] at h9 ⊢; exact h9)
        have H' := Aside0.mk H
        clear H
        go_enter Tryd.func15, Tryd.ntmps15
        try go_wp2_with (first | ((with_reducible refine gate_dst (N := 1) rfl ?_); refine box_event ?hg (N := 1) ?hd (cs := #[.int .i64 a0_0, .int .i64 a0_1, .int .i64 a0_2, .int .i64 a0_3, .string a0_4, .bool a0_5, .slice A0_6 l0_6.length c0_6, .bool a0_7]) (t := 41) ?hr ?_; (case hd => rfl); (case hg => rfl); (case hr => first | (go_simp; done) | (go_simp; rfl)); intro gb133 hg w11 hbox hb; have n0_ := Aside0.mk (below_step (by repeat (first | (with_reducible first | exact HB.out | apply below_alloc | apply pw_below_drewN | apply below_drew1) | exact HB.out)) hb); have n1_ := Aside0.mk (hbox); have n2_ := Aside0.mk ((by rw [hg]; exact (below_size (by repeat (first | (with_reducible first | exact HB.out | apply below_alloc | apply pw_below_drewN | apply below_drew1) | exact HB.out))) : w.heap.size ≤ gb133)); have n3_ := Aside0.mk ((by rw [hg]; exact (below_size (by repeat (first | (with_reducible first | exact HB.out | apply below_alloc | apply pw_below_drewN | apply below_drew1) | exact HB.out))) : w.heap.size ≤ gb133)); clear HB; have HB := n0_; have BK133 := n1_; have GW133 := n2_; have GE133 := n3_; clear n0_ n1_ n2_ n3_; clear hb hbox hg; have hcz12_0 : w11.cell? ⟨gb133, 0, none⟩ = some (.int .i64 a0_0) := (blk_cell BK133.out 0).trans rfl; have hcz12_1 : w11.cell? ⟨gb133, 1, none⟩ = some (.int .i64 a0_1) := (blk_cell BK133.out 1).trans rfl; have hcz12_2 : w11.cell? ⟨gb133, 2, none⟩ = some (.int .i64 a0_2) := (blk_cell BK133.out 2).trans rfl; have hcz12_3 : w11.cell? ⟨gb133, 3, none⟩ = some (.int .i64 a0_3) := (blk_cell BK133.out 3).trans rfl; have hcz12_4 : w11.cell? ⟨gb133, 4, none⟩ = some (.string a0_4) := (blk_cell BK133.out 4).trans rfl; have hcz12_5 : w11.cell? ⟨gb133, 5, none⟩ = some (.bool a0_5) := (blk_cell BK133.out 5).trans rfl; have hcz12_6 : w11.cell? ⟨gb133, 6, none⟩ = some (.slice A0_6 l0_6.length c0_6) := (blk_cell BK133.out 6).trans rfl; have hcz12_7 : w11.cell? ⟨gb133, 7, none⟩ = some (.bool a0_7) := (blk_cell BK133.out 7).trans rfl; have hfz12_0 := blk_frozen BK133.out 0; have hfz12_1 := blk_frozen BK133.out 1; have hfz12_2 := blk_frozen BK133.out 2; have hfz12_3 := blk_frozen BK133.out 3; have hfz12_4 := blk_frozen BK133.out 4; have hfz12_5 := blk_frozen BK133.out 5; have hfz12_6 := blk_frozen BK133.out 6; have hfz12_7 := blk_frozen BK133.out 7) | ((with_reducible refine gate_callee (f := 32) rfl ?_); refine goesL_ (some 8) rfl rfl Tryd.func32 (by kernel_rfl) rfl #[.agg #[.int .i64 a0_0, .int .i64 a0_1, .int .i64 a0_2, .int .i64 a0_3, .string a0_4, .bool a0_5, .slice A0_6 l0_6.length c0_6, .bool a0_7]] rfl (by (try simp only [List.map_toArray, List.map_cons, List.map_nil]); first | done | rfl | (simp only [List.length_drop, List.length_take]; rfl)) ?_; (with_reducible refine (wire_mayReply.calls a0_0 a0_1 a0_2 a0_3 a0_4 a0_5 _ _ l0_6 a0_7 true _ ?side1 ?side2 A2.out).mono ?_); (case side1 => repeat (first | exact (Kd.C_below HR0_6.out HB.out) | (with_reducible refine Kd.C_alloc ?_ _) | (with_reducible refine Kd.C_drewN ?_ _) | (with_reducible refine Kd.C_drew ?_))); (case side2 => exact HC0_6.out); rintro e w13 ⟨rfl, hb⟩; refine ⟨_, rfl, ?_⟩; have n0_ := Aside0.mk (blk_below (g := gb133) (o := .cells #[.int .i64 a0_0, .int .i64 a0_1, .int .i64 a0_2, .int .i64 a0_3, .string a0_4, .bool a0_5, .slice A0_6 l0_6.length c0_6, .bool a0_7] 41 (0, 0)) (by (with_reducible repeat (first | refine blk_drewN ?_ _ | refine blk_drew ?_ | refine blk_alloc ?_ _)); exact BK133.out) hb); have n1_ := Aside0.mk (below_step (by repeat (first | (with_reducible first | exact HB.out | apply below_alloc | apply pw_below_drewN | apply below_drew1 | refine below_set ?_ GE133.out) | exact HB.out)) hb); clear BK133; clear HB; have BK133 := n0_; have HB := n1_; clear n0_ n1_; (try clear hb); (try clear hb2); (try clear hk); (try clear hi)))
        have n0_ := Aside0.mk (blk_drew BK133.out)
        have n1_ := Aside0.mk (below_drew1 HB.out)
        clear BK133
        clear HB
        have BK133 := n0_
        have HB := n1_
        clear n0_ n1_
        refine start_ (n := 28) (S := fun w' => w'.cell? ⟨gb133, 0, none⟩ = some (.int .i64 a0_0) ∧ w'.cell? ⟨gb133, 1, none⟩ = some (.int .i64 a0_1) ∧ w'.cell? ⟨gb133, 2, none⟩ = some (.int .i64 a0_2) ∧ w'.cell? ⟨gb133, 3, none⟩ = some (.int .i64 a0_3) ∧ w'.cell? ⟨gb133, 4, none⟩ = some (.string a0_4) ∧ w'.cell? ⟨gb133, 5, none⟩ = some (.bool a0_5) ∧ w'.cell? ⟨gb133, 6, none⟩ = some (.slice A0_6 l0_6.length c0_6) ∧ w'.cell? ⟨gb133, 7, none⟩ = some (.bool a0_7)) (ds := []) #[false, false, false, false, false, false, false, false, false, false, false, false, false, false, false, false, false, false, false, false, false, false, false, false, false, false, false, false] (by kernel_rfl) rfl rfl ⟨(blk_cell BK133.out 0).trans rfl, (blk_cell BK133.out 1).trans rfl, (blk_cell BK133.out 2).trans rfl, (blk_cell BK133.out 3).trans rfl, (blk_cell BK133.out 4).trans rfl, (blk_cell BK133.out 5).trans rfl, (blk_cell BK133.out 6).trans rfl, (blk_cell BK133.out 7).trans rfl⟩ (fun hHeld => ?_); refine with_tabW wire_Reply.tab3 wire_Reply.bits3 (fun HT_ HW_ => ?_)
        generalize w13.drew = w14 at BK133 HB hHeld ⊢
        refine pure_ (i := 0) (N := some 10) (v := ?_) (a' := ?_) #[true, false, false, false, false, false, false, false, false, false, false, false, false, false, false, false, false, false, false, false, false, false, false, false, false, false, false, false] rfl rfl (any_of HT_.out (by kernel_rfl)) (fun _ _ _ h => h) (Or.inl ⟨by rfl, ?_⟩) ?_ ?_
        rotate_left
        · intro w'
          go_simp
          with_reducible rfl
        rotate_left
        · simp only [Act.put, List.setIfInBounds_toArray, List.set_cons_zero, List.set_cons_succ, i64_w, i32_w]
          rfl
        refine pure_ (i := 2) (N := some 12) (v := ?_) (a' := ?_) #[true, false, true, false, false, false, false, false, false, false, false, false, false, false, false, false, false, false, false, false, false, false, false, false, false, false, false, false] rfl rfl (any_of HT_.out (by kernel_rfl)) (fun _ _ _ h => h) (Or.inl ⟨by rfl, ?_⟩) ?_ ?_
        rotate_left
        · intro w'
          go_simp
          with_reducible rfl
        rotate_left
        · simp only [Act.put, List.setIfInBounds_toArray, List.set_cons_zero, List.set_cons_succ, i64_w, i32_w]
          rfl
        refine pure_ (i := 4) (N := some 14) (v := ?_) (a' := ?_) #[true, false, true, false, true, false, false, false, false, false, false, false, false, false, false, false, false, false, false, false, false, false, false, false, false, false, false, false] rfl rfl (any_of HT_.out (by kernel_rfl)) (fun _ _ _ h => h) (Or.inl ⟨by rfl, ?_⟩) ?_ ?_
        rotate_left
        · intro w'
          go_simp
          with_reducible rfl
        rotate_left
        · simp only [Act.put, List.setIfInBounds_toArray, List.set_cons_zero, List.set_cons_succ, i64_w, i32_w]
          rfl
        refine pure_ (i := 6) (N := some 16) (v := ?_) (a' := ?_) #[true, false, true, false, true, false, true, false, false, false, false, false, false, false, false, false, false, false, false, false, false, false, false, false, false, false, false, false] rfl rfl (any_of HT_.out (by kernel_rfl)) (fun _ _ _ h => h) (Or.inl ⟨by rfl, ?_⟩) ?_ ?_
        rotate_left
        · intro w'
          go_simp
          with_reducible rfl
        rotate_left
        · simp only [Act.put, List.setIfInBounds_toArray, List.set_cons_zero, List.set_cons_succ, i64_w, i32_w]
          rfl
        refine pure_ (i := 10) (N := some 20) (v := ?_) (a' := ?_) #[true, false, true, false, true, false, true, false, false, false, true, false, false, false, false, false, false, false, false, false, false, false, false, false, false, false, false, false] rfl rfl (any_of HT_.out (by kernel_rfl)) (fun _ _ _ h => h) (Or.inl ⟨by rfl, ?_⟩) ?_ ?_
        rotate_left
        · intro w'
          go_simp
          with_reducible rfl
        rotate_left
        · simp only [Act.put, List.setIfInBounds_toArray, List.set_cons_zero, List.set_cons_succ, i64_w, i32_w]
          rfl
        refine pure_ (i := 15) (N := some 25) (v := ?_) (a' := ?_) #[true, false, true, false, true, false, true, false, false, false, true, false, false, false, false, true, false, false, false, false, false, false, false, false, false, false, false, false] rfl rfl (any_of HT_.out (by kernel_rfl)) (fun _ _ _ h => h) (Or.inl ⟨by rfl, ?_⟩) ?_ ?_
        rotate_left
        · intro w'
          go_simp
          with_reducible rfl
        rotate_left
        · simp only [Act.put, List.setIfInBounds_toArray, List.set_cons_zero, List.set_cons_succ, i64_w, i32_w]
          rfl
        refine pure_ (i := 18) (N := some 28) (v := ?_) (a' := ?_) #[true, false, true, false, true, false, true, false, false, false, true, false, false, false, false, true, false, false, true, false, false, false, false, false, false, false, false, false] rfl rfl (any_of HT_.out (by kernel_rfl)) (fun _ _ _ h => h) (Or.inl ⟨by rfl, ?_⟩) ?_ ?_
        rotate_left
        · intro w'
          go_simp
          with_reducible rfl
        rotate_left
        · simp only [Act.put, List.setIfInBounds_toArray, List.set_cons_zero, List.set_cons_succ, i64_w, i32_w]
          rfl
        refine pure_ (i := 21) (N := some 31) (v := ?_) (a' := ?_) #[true, false, true, false, true, false, true, false, false, false, true, false, false, false, false, true, false, false, true, false, false, true, false, false, false, false, false, false] rfl rfl (any_of HT_.out (by kernel_rfl)) (fun _ _ _ h => h) (Or.inl ⟨by rfl, ?_⟩) ?_ ?_
        rotate_left
        · intro w'
          go_simp
          with_reducible rfl
        rotate_left
        · simp only [Act.put, List.setIfInBounds_toArray, List.set_cons_zero, List.set_cons_succ, i64_w, i32_w]
          rfl
        refine take_ (i := 1) (N := some 11) (v := ?_) (a' := ?_) #[true, true, true, false, true, false, true, false, false, false, true, false, false, false, false, true, false, false, true, false, false, true, false, false, false, false, false, false] rfl rfl (take_ofW HT_.out HW_.out (by kernel_rfl)) (fun _ _ _ h => h) (Or.inl ⟨by rfl, ?_⟩) hHeld ?_ ?_
        rotate_left
        · rintro w' ⟨s0, s1, s2, s3, s4, s5, s6, s7⟩
          go_simp
          with_reducible rfl
        rotate_left
        · simp only [Act.put, List.setIfInBounds_toArray, List.set_cons_zero, List.set_cons_succ, i64_w, i32_w]
          rfl
        refine take_ (i := 3) (N := some 13) (v := ?_) (a' := ?_) #[true, true, true, true, true, false, true, false, false, false, true, false, false, false, false, true, false, false, true, false, false, true, false, false, false, false, false, false] rfl rfl (take_ofW HT_.out HW_.out (by kernel_rfl)) (fun _ _ _ h => h) (Or.inl ⟨by rfl, ?_⟩) hHeld ?_ ?_
        rotate_left
        · rintro w' ⟨s0, s1, s2, s3, s4, s5, s6, s7⟩
          go_simp
          with_reducible rfl
        rotate_left
        · simp only [Act.put, List.setIfInBounds_toArray, List.set_cons_zero, List.set_cons_succ, i64_w, i32_w]
          rfl
        refine take_ (i := 5) (N := some 15) (v := ?_) (a' := ?_) #[true, true, true, true, true, true, true, false, false, false, true, false, false, false, false, true, false, false, true, false, false, true, false, false, false, false, false, false] rfl rfl (take_ofW HT_.out HW_.out (by kernel_rfl)) (fun _ _ _ h => h) (Or.inl ⟨by rfl, ?_⟩) hHeld ?_ ?_
        rotate_left
        · rintro w' ⟨s0, s1, s2, s3, s4, s5, s6, s7⟩
          go_simp
          with_reducible rfl
        rotate_left
        · simp only [Act.put, List.setIfInBounds_toArray, List.set_cons_zero, List.set_cons_succ, i64_w, i32_w]
          rfl
        refine take_ (i := 7) (N := some 17) (v := ?_) (a' := ?_) #[true, true, true, true, true, true, true, true, false, false, true, false, false, false, false, true, false, false, true, false, false, true, false, false, false, false, false, false] rfl rfl (take_ofW HT_.out HW_.out (by kernel_rfl)) (fun _ _ _ h => h) (Or.inl ⟨by rfl, ?_⟩) hHeld ?_ ?_
        rotate_left
        · rintro w' ⟨s0, s1, s2, s3, s4, s5, s6, s7⟩
          go_simp
          with_reducible rfl
        rotate_left
        · simp only [Act.put, List.setIfInBounds_toArray, List.set_cons_zero, List.set_cons_succ, i64_w, i32_w]
          rfl
        refine take_ (i := 11) (N := some 21) (v := ?_) (a' := ?_) #[true, true, true, true, true, true, true, true, false, false, true, true, false, false, false, true, false, false, true, false, false, true, false, false, false, false, false, false] rfl rfl (take_ofW HT_.out HW_.out (by kernel_rfl)) (fun _ _ _ h => h) (Or.inl ⟨by rfl, ?_⟩) hHeld ?_ ?_
        rotate_left
        · rintro w' ⟨s0, s1, s2, s3, s4, s5, s6, s7⟩
          go_simp
          with_reducible rfl
        rotate_left
        · simp only [Act.put, List.setIfInBounds_toArray, List.set_cons_zero, List.set_cons_succ, i64_w, i32_w]
          rfl
        refine take_ (i := 16) (N := some 26) (v := ?_) (a' := ?_) #[true, true, true, true, true, true, true, true, false, false, true, true, false, false, false, true, true, false, true, false, false, true, false, false, false, false, false, false] rfl rfl (take_ofW HT_.out HW_.out (by kernel_rfl)) (fun _ _ _ h => h) (Or.inl ⟨by rfl, ?_⟩) hHeld ?_ ?_
        rotate_left
        · rintro w' ⟨s0, s1, s2, s3, s4, s5, s6, s7⟩
          go_simp
          with_reducible rfl
        rotate_left
        · simp only [Act.put, List.setIfInBounds_toArray, List.set_cons_zero, List.set_cons_succ, i64_w, i32_w]
          rfl
        refine take_ (i := 19) (N := some 29) (v := ?_) (a' := ?_) #[true, true, true, true, true, true, true, true, false, false, true, true, false, false, false, true, true, false, true, true, false, true, false, false, false, false, false, false] rfl rfl (take_ofW HT_.out HW_.out (by kernel_rfl)) (fun _ _ _ h => h) (Or.inl ⟨by rfl, ?_⟩) hHeld ?_ ?_
        rotate_left
        · rintro w' ⟨s0, s1, s2, s3, s4, s5, s6, s7⟩
          go_simp
          with_reducible rfl
        rotate_left
        · simp only [Act.put, List.setIfInBounds_toArray, List.set_cons_zero, List.set_cons_succ, i64_w, i32_w]
          rfl
        refine take_ (i := 22) (N := some 32) (v := ?_) (a' := ?_) #[true, true, true, true, true, true, true, true, false, false, true, true, false, false, false, true, true, false, true, true, false, true, true, false, false, false, false, false] rfl rfl (take_ofW HT_.out HW_.out (by kernel_rfl)) (fun _ _ _ h => h) (Or.inl ⟨by rfl, ?_⟩) hHeld ?_ ?_
        rotate_left
        · rintro w' ⟨s0, s1, s2, s3, s4, s5, s6, s7⟩
          go_simp
          with_reducible rfl
        rotate_left
        · simp only [Act.put, List.setIfInBounds_toArray, List.set_cons_zero, List.set_cons_succ, i64_w, i32_w]
          rfl
        refine pure_ (i := 23) (N := some 33) (v := ?_) (a' := ?_) #[true, true, true, true, true, true, true, true, false, false, true, true, false, false, false, true, true, false, true, true, false, true, true, true, false, false, false, false] rfl rfl (any_of HT_.out (by kernel_rfl)) (fun _ _ _ h => h) (Or.inl ⟨by rfl, ?_⟩) ?_ ?_
        rotate_left
        · intro w'
          go_simp
          with_reducible rfl
        rotate_left
        · simp only [Act.put, List.setIfInBounds_toArray, List.set_cons_zero, List.set_cons_succ, i64_w, i32_w]
          rfl
        refine join_ (σ := Value × Value) 8 #[true, true, true, true, true, true, true, true, true, true, true, true, true, false, false, true, true, false, true, true, false, true, true, true, false, false, false, false] (fun s_ => [(18, s_.1), (19, .string t138), (22, s_.2)]) (fun s_ w' => (w'.cell? ⟨gb133, 0, none⟩ = some (.int .i64 a0_0) ∧ w'.cell? ⟨gb133, 1, none⟩ = some (.int .i64 a0_1) ∧ w'.cell? ⟨gb133, 2, none⟩ = some (.int .i64 a0_2) ∧ w'.cell? ⟨gb133, 3, none⟩ = some (.int .i64 a0_3) ∧ w'.cell? ⟨gb133, 4, none⟩ = some (.string a0_4) ∧ w'.cell? ⟨gb133, 5, none⟩ = some (.bool a0_5) ∧ w'.cell? ⟨gb133, 6, none⟩ = some (.slice A0_6 l0_6.length c0_6) ∧ w'.cell? ⟨gb133, 7, none⟩ = some (.bool a0_7)) ∧ (Kd.R (Kd.int .i64) 3 w' w.heap.size (fun _ => True) s_.1 y135) ∧ (Kd.R Kd.string 9 w' w.heap.size (fun _ => True) s_.2 y139) ∧ (w'.heap[gb133]? = some (.cells #[.int .i64 a0_0, .int .i64 a0_1, .int .i64 a0_2, .int .i64 a0_3, .string a0_4, .bool a0_5, .slice A0_6 l0_6.length c0_6, .bool a0_7] 41 (0, 0))) ∧ (Below w.heap.size w w')) ?_ ?_
        rotate_left
        · intro hCont
          refine two_ (i := 8) (j := 12) (Ni := some 18) (Nj := some 22) #[true, true, true, true, true, true, true, true, true, false, true, true, false, false, false, true, true, false, true, true, false, true, true, true, false, false, false, false] #[true, true, true, true, true, true, true, true, false, false, true, true, true, false, false, true, true, false, true, true, false, true, true, true, false, false, false, false] rfl rfl rfl rfl (two_of HT_.out (by kernel_rfl)) (by decide) (by decide) (fun K hK => ?_) (fun K hK => ?_)
          · skip
            refine Kd.R_lit_step (Kd.int .i64) _ 3 ?hg (N := 18) ?hd (xs := ([a0_0, a0_1, a0_2, a0_3] : List Int)) (inner := [.int .i64 a0_0, .int .i64 a0_1, .int .i64 a0_2, .int .i64 a0_3]) (ok := fun _ => True) (okp := fun _ => True) ?hr ?hp (fun _ hk => hk) trivial (Below.refl _ _) (Nat.le_refl _) (by simp) ?_; (case hd => rfl); (case hg => rfl); (case hr => first | (go_simp; done) | (go_simp; rfl)); (case hp => exact (Reps.one (show Kd.M (Kd.int .i64) _ _ _ a0_0 [.int .i64 a0_0] from rfl) (Reps.one (show Kd.M (Kd.int .i64) _ _ _ a0_1 [.int .i64 a0_1] from rfl) (Reps.one (show Kd.M (Kd.int .i64) _ _ _ a0_2 [.int .i64 a0_2] from rfl) (Reps.one (show Kd.M (Kd.int .i64) _ _ _ a0_3 [.int .i64 a0_3] from rfl) (Reps.none _ _))))))
            intro v136 w15 ho16 hb hg_ hnew_
            clear hg_ hnew_
            (first | rw [← Ny135.out] at ho16 | (simp only [Int.reduceToNat] at ho16; rw [← Ny135.out] at ho16))
            have n0_ := Aside0.mk (Kd.R_lower ho16 (below_size (by repeat (first | (with_reducible first | exact HB.out | apply below_alloc | apply pw_below_drewN | apply below_drew1 | refine below_set ?_ GE133.out) | exact HB.out))))
            have n1_ := Aside0.mk (blk_below (g := gb133) (o := .cells #[.int .i64 a0_0, .int .i64 a0_1, .int .i64 a0_2, .int .i64 a0_3, .string a0_4, .bool a0_5, .slice A0_6 l0_6.length c0_6, .bool a0_7] 41 (0, 0)) (by (with_reducible repeat (first | refine blk_drewN ?_ _ | refine blk_drew ?_ | refine blk_alloc ?_ _)); exact BK133.out) hb)
            have n2_ := Aside0.mk (below_step (by repeat (first | (with_reducible first | exact HB.out | apply below_alloc | apply pw_below_drewN | apply below_drew1 | refine below_set ?_ GE133.out) | exact HB.out)) hb)
            clear BK133
            clear HB
            have HO137 := n0_
            have BK133 := n1_
            have HB := n2_
            clear n0_ n1_ n2_
            clear hb ho16
            obtain ⟨Ao17, co17, eo17⟩ := Kd.R_slice HO137.out
            (first | subst eo17 | (injection eo17 with f1_ f2_ f3_; have f4_ := f1_.symm; have f5_ := f3_.symm; clear f1_ f2_ f3_; subst f4_; subst f5_))
            refine hK.out _ _ ⟨(blk_cell BK133.out 0).trans rfl, (blk_cell BK133.out 1).trans rfl, (blk_cell BK133.out 2).trans rfl, (blk_cell BK133.out 3).trans rfl, (blk_cell BK133.out 4).trans rfl, (blk_cell BK133.out 5).trans rfl, (blk_cell BK133.out 6).trans rfl, (blk_cell BK133.out 7).trans rfl⟩ (fun hHeld => ?_)
            clear hK K
            refine norm_ (a' := ?_) ?_ ?_
            rotate_left
            · show Act.put _ (some 18) _ = _
              simp only [Act.put, List.setIfInBounds_toArray, List.set_cons_zero, List.set_cons_succ, i64_w, i32_w]
              rfl
            refine two_ (i := 9) (j := 12) (Ni := some 19) (Nj := some 22) #[true, true, true, true, true, true, true, true, true, true, true, true, false, false, false, true, true, false, true, true, false, true, true, true, false, false, false, false] #[true, true, true, true, true, true, true, true, true, false, true, true, true, false, false, true, true, false, true, true, false, true, true, true, false, false, false, false] rfl rfl rfl rfl (two_of HT_.out (by kernel_rfl)) (by decide) (by decide) (fun K hK => ?_) (fun K hK => ?_)
            · skip
              refine goes_ Tryd.func21 (by kernel_rfl) rfl #[.slice Ao17 y135.length co17] (by rfl) rfl rfl (by (try simp only [List.map_toArray, List.map_cons, List.map_nil]); first | done | rfl | (simp only [List.length_drop, List.length_take]; rfl)) ?_
              with_reducible refine (wire_nums.calls _ _ y135 t138 _ ?side1 ?side2 A4.out).mono ?_
              (case side1 => repeat (first | exact (Kd.R_reads' HO137.out).2.2 | (with_reducible refine Kd.C_alloc ?_ _) | (with_reducible refine Kd.C_drewN ?_ _) | (with_reducible refine Kd.C_drew ?_)))
              (case side2 => exact (Kd.R_reads' HO137.out).2.1)
              rintro e w18 ⟨rfl, hb⟩
              refine ⟨_, rfl, ?_⟩
              have n0_ := Aside0.mk (Kd.R_below (by (with_reducible repeat (first | apply Kd.R_alloc | apply Kd.R_drewN | apply Kd.R_drew)); exact HO137.out) hb)
              have n1_ := Aside0.mk (blk_below (g := gb133) (o := .cells #[.int .i64 a0_0, .int .i64 a0_1, .int .i64 a0_2, .int .i64 a0_3, .string a0_4, .bool a0_5, .slice A0_6 l0_6.length c0_6, .bool a0_7] 41 (0, 0)) (by (with_reducible repeat (first | refine blk_drewN ?_ _ | refine blk_drew ?_ | refine blk_alloc ?_ _)); exact BK133.out) hb)
              have n2_ := Aside0.mk (below_step (by repeat (first | (with_reducible first | exact HB.out | apply below_alloc | apply pw_below_drewN | apply below_drew1 | refine below_set ?_ GE133.out) | exact HB.out)) hb)
              clear HO137
              clear BK133
              clear HB
              have HO137 := n0_
              have BK133 := n1_
              have HB := n2_
              clear n0_ n1_ n2_
              (try clear hb)
              (try clear hb2)
              (try clear hk)
              (try clear hi)
              refine hK.out _ _ ⟨(blk_cell BK133.out 0).trans rfl, (blk_cell BK133.out 1).trans rfl, (blk_cell BK133.out 2).trans rfl, (blk_cell BK133.out 3).trans rfl, (blk_cell BK133.out 4).trans rfl, (blk_cell BK133.out 5).trans rfl, (blk_cell BK133.out 6).trans rfl, (blk_cell BK133.out 7).trans rfl⟩ (fun hHeld => ?_)
              clear hK K
              refine norm_ (a' := ?_) ?_ ?_
              rotate_left
              · show Act.put _ (some 19) _ = _
                simp only [Act.put, List.setIfInBounds_toArray, List.set_cons_zero, List.set_cons_succ, i64_w, i32_w]
                rfl
              refine one_ (i := 12) (N := some 22) #[true, true, true, true, true, true, true, true, true, true, true, true, true, false, false, true, true, false, true, true, false, true, true, true, false, false, false, false] rfl rfl (one_of HT_.out (by kernel_rfl)) (by decide) (fun K hK => ?_)
              refine Kd.R_lit_step Kd.string _ 9 ?hg (N := 22) ?hd (xs := ([a0_4] : List ByteArray)) (inner := [.string a0_4]) (ok := fun _ => True) (okp := fun _ => True) ?hr ?hp (fun _ hk => hk) trivial (Below.refl _ _) (Nat.le_refl _) (by simp) ?_; (case hd => rfl); (case hg => rfl); (case hr => first | (go_simp; done) | (go_simp; rfl)); (case hp => exact (Reps.one (show Kd.M Kd.string _ _ _ a0_4 [.string a0_4] from rfl) (Reps.none _ _)))
              intro v140 w19 ho20 hb hg_ hnew_
              clear hg_ hnew_
              (first | rw [← Ny139.out] at ho20 | (simp only [Int.reduceToNat] at ho20; rw [← Ny139.out] at ho20))
              have n0_ := Aside0.mk (Kd.R_below (by (with_reducible repeat (first | apply Kd.R_alloc | apply Kd.R_drewN | apply Kd.R_drew)); exact HO137.out) hb)
              have n1_ := Aside0.mk (Kd.R_lower ho20 (below_size (by repeat (first | (with_reducible first | exact HB.out | apply below_alloc | apply pw_below_drewN | apply below_drew1 | refine below_set ?_ GE133.out) | exact HB.out))))
              have n2_ := Aside0.mk (blk_below (g := gb133) (o := .cells #[.int .i64 a0_0, .int .i64 a0_1, .int .i64 a0_2, .int .i64 a0_3, .string a0_4, .bool a0_5, .slice A0_6 l0_6.length c0_6, .bool a0_7] 41 (0, 0)) (by (with_reducible repeat (first | refine blk_drewN ?_ _ | refine blk_drew ?_ | refine blk_alloc ?_ _)); exact BK133.out) hb)
              have n3_ := Aside0.mk (below_step (by repeat (first | (with_reducible first | exact HB.out | apply below_alloc | apply pw_below_drewN | apply below_drew1 | refine below_set ?_ GE133.out) | exact HB.out)) hb)
              clear HO137
              clear BK133
              clear HB
              have HO137 := n0_
              have HO141 := n1_
              have BK133 := n2_
              have HB := n3_
              clear n0_ n1_ n2_ n3_
              clear hb ho20
              refine hK.out _ _ ⟨(blk_cell BK133.out 0).trans rfl, (blk_cell BK133.out 1).trans rfl, (blk_cell BK133.out 2).trans rfl, (blk_cell BK133.out 3).trans rfl, (blk_cell BK133.out 4).trans rfl, (blk_cell BK133.out 5).trans rfl, (blk_cell BK133.out 6).trans rfl, (blk_cell BK133.out 7).trans rfl⟩ (fun hHeld => ?_)
              clear hK K
              refine norm_ (a' := ?_) ?_ ?_
              rotate_left
              · show Act.put _ (some 22) _ = _
                simp only [Act.put, List.setIfInBounds_toArray, List.set_cons_zero, List.set_cons_succ, i64_w, i32_w]
                rfl
              exact norm_ (by simp only [putAll, Act.put, List.setIfInBounds_toArray, List.set_cons_zero, List.set_cons_succ]) (hCont (.slice Ao17 y135.length co17, v140) _ ⟨hHeld, (by (with_reducible repeat (first | apply Kd.R_alloc | apply Kd.R_drewN | apply Kd.R_drew)); exact HO137.out), (by (with_reducible repeat (first | apply Kd.R_alloc | apply Kd.R_drewN | apply Kd.R_drew)); exact HO141.out), (by (with_reducible repeat (first | refine blk_drewN ?_ _ | refine blk_drew ?_ | refine blk_alloc ?_ _)); exact BK133.out), (by repeat (first | (with_reducible first | exact HB.out | apply below_alloc | apply pw_below_drewN | apply below_drew1 | refine below_set ?_ GE133.out) | exact HB.out))⟩)
            · skip
              refine Kd.R_lit_step Kd.string _ 9 ?hg (N := 22) ?hd (xs := ([a0_4] : List ByteArray)) (inner := [.string a0_4]) (ok := fun _ => True) (okp := fun _ => True) ?hr ?hp (fun _ hk => hk) trivial (Below.refl _ _) (Nat.le_refl _) (by simp) ?_; (case hd => rfl); (case hg => rfl); (case hr => first | (go_simp; done) | (go_simp; rfl)); (case hp => exact (Reps.one (show Kd.M Kd.string _ _ _ a0_4 [.string a0_4] from rfl) (Reps.none _ _)))
              intro v140 w17 ho18 hb hg_ hnew_
              clear hg_ hnew_
              (first | rw [← Ny139.out] at ho18 | (simp only [Int.reduceToNat] at ho18; rw [← Ny139.out] at ho18))
              have n0_ := Aside0.mk (Kd.R_below (by (with_reducible repeat (first | apply Kd.R_alloc | apply Kd.R_drewN | apply Kd.R_drew)); exact HO137.out) hb)
              have n1_ := Aside0.mk (Kd.R_lower ho18 (below_size (by repeat (first | (with_reducible first | exact HB.out | apply below_alloc | apply pw_below_drewN | apply below_drew1 | refine below_set ?_ GE133.out) | exact HB.out))))
              have n2_ := Aside0.mk (blk_below (g := gb133) (o := .cells #[.int .i64 a0_0, .int .i64 a0_1, .int .i64 a0_2, .int .i64 a0_3, .string a0_4, .bool a0_5, .slice A0_6 l0_6.length c0_6, .bool a0_7] 41 (0, 0)) (by (with_reducible repeat (first | refine blk_drewN ?_ _ | refine blk_drew ?_ | refine blk_alloc ?_ _)); exact BK133.out) hb)
              have n3_ := Aside0.mk (below_step (by repeat (first | (with_reducible first | exact HB.out | apply below_alloc | apply pw_below_drewN | apply below_drew1 | refine below_set ?_ GE133.out) | exact HB.out)) hb)
              clear HO137
              clear BK133
              clear HB
              have HO137 := n0_
              have HO141 := n1_
              have BK133 := n2_
              have HB := n3_
              clear n0_ n1_ n2_ n3_
              clear hb ho18
              obtain ⟨Ao19, co19, eo19⟩ := Kd.R_slice HO137.out
              (first | subst eo19 | (injection eo19 with f1_ f2_ f3_; have f4_ := f1_.symm; have f5_ := f3_.symm; clear f1_ f2_ f3_; subst f4_; subst f5_))
              refine hK.out _ _ ⟨(blk_cell BK133.out 0).trans rfl, (blk_cell BK133.out 1).trans rfl, (blk_cell BK133.out 2).trans rfl, (blk_cell BK133.out 3).trans rfl, (blk_cell BK133.out 4).trans rfl, (blk_cell BK133.out 5).trans rfl, (blk_cell BK133.out 6).trans rfl, (blk_cell BK133.out 7).trans rfl⟩ (fun hHeld => ?_)
              clear hK K
              refine norm_ (a' := ?_) ?_ ?_
              rotate_left
              · show Act.put _ (some 22) _ = _
                simp only [Act.put, List.setIfInBounds_toArray, List.set_cons_zero, List.set_cons_succ, i64_w, i32_w]
                rfl
              refine one_ (i := 9) (N := some 19) #[true, true, true, true, true, true, true, true, true, true, true, true, true, false, false, true, true, false, true, true, false, true, true, true, false, false, false, false] rfl rfl (one_of HT_.out (by kernel_rfl)) (by decide) (fun K hK => ?_)
              refine goes_ Tryd.func21 (by kernel_rfl) rfl #[.slice Ao19 y135.length co19] (by rfl) rfl rfl (by (try simp only [List.map_toArray, List.map_cons, List.map_nil]); first | done | rfl | (simp only [List.length_drop, List.length_take]; rfl)) ?_
              with_reducible refine (wire_nums.calls _ _ y135 t138 _ ?side1 ?side2 A4.out).mono ?_
              (case side1 => repeat (first | exact (Kd.R_reads' HO137.out).2.2 | (with_reducible refine Kd.C_alloc ?_ _) | (with_reducible refine Kd.C_drewN ?_ _) | (with_reducible refine Kd.C_drew ?_)))
              (case side2 => exact (Kd.R_reads' HO137.out).2.1)
              rintro e w20 ⟨rfl, hb⟩
              refine ⟨_, rfl, ?_⟩
              have n0_ := Aside0.mk (Kd.R_below (by (with_reducible repeat (first | apply Kd.R_alloc | apply Kd.R_drewN | apply Kd.R_drew)); exact HO137.out) hb)
              have n1_ := Aside0.mk (Kd.R_below (by (with_reducible repeat (first | apply Kd.R_alloc | apply Kd.R_drewN | apply Kd.R_drew)); exact HO141.out) hb)
              have n2_ := Aside0.mk (blk_below (g := gb133) (o := .cells #[.int .i64 a0_0, .int .i64 a0_1, .int .i64 a0_2, .int .i64 a0_3, .string a0_4, .bool a0_5, .slice A0_6 l0_6.length c0_6, .bool a0_7] 41 (0, 0)) (by (with_reducible repeat (first | refine blk_drewN ?_ _ | refine blk_drew ?_ | refine blk_alloc ?_ _)); exact BK133.out) hb)
              have n3_ := Aside0.mk (below_step (by repeat (first | (with_reducible first | exact HB.out | apply below_alloc | apply pw_below_drewN | apply below_drew1 | refine below_set ?_ GE133.out) | exact HB.out)) hb)
              clear HO137
              clear HO141
              clear BK133
              clear HB
              have HO137 := n0_
              have HO141 := n1_
              have BK133 := n2_
              have HB := n3_
              clear n0_ n1_ n2_ n3_
              (try clear hb)
              (try clear hb2)
              (try clear hk)
              (try clear hi)
              refine hK.out _ _ ⟨(blk_cell BK133.out 0).trans rfl, (blk_cell BK133.out 1).trans rfl, (blk_cell BK133.out 2).trans rfl, (blk_cell BK133.out 3).trans rfl, (blk_cell BK133.out 4).trans rfl, (blk_cell BK133.out 5).trans rfl, (blk_cell BK133.out 6).trans rfl, (blk_cell BK133.out 7).trans rfl⟩ (fun hHeld => ?_)
              clear hK K
              refine norm_ (a' := ?_) ?_ ?_
              rotate_left
              · show Act.put _ (some 19) _ = _
                simp only [Act.put, List.setIfInBounds_toArray, List.set_cons_zero, List.set_cons_succ, i64_w, i32_w]
                rfl
              exact norm_ (by simp only [putAll, Act.put, List.setIfInBounds_toArray, List.set_cons_zero, List.set_cons_succ]) (hCont (.slice Ao19 y135.length co19, v140) _ ⟨hHeld, (by (with_reducible repeat (first | apply Kd.R_alloc | apply Kd.R_drewN | apply Kd.R_drew)); exact HO137.out), (by (with_reducible repeat (first | apply Kd.R_alloc | apply Kd.R_drewN | apply Kd.R_drew)); exact HO141.out), (by (with_reducible repeat (first | refine blk_drewN ?_ _ | refine blk_drew ?_ | refine blk_alloc ?_ _)); exact BK133.out), (by repeat (first | (with_reducible first | exact HB.out | apply below_alloc | apply pw_below_drewN | apply below_drew1 | refine below_set ?_ GE133.out) | exact HB.out))⟩)
          · skip
            refine Kd.R_lit_step Kd.string _ 9 ?hg (N := 22) ?hd (xs := ([a0_4] : List ByteArray)) (inner := [.string a0_4]) (ok := fun _ => True) (okp := fun _ => True) ?hr ?hp (fun _ hk => hk) trivial (Below.refl _ _) (Nat.le_refl _) (by simp) ?_; (case hd => rfl); (case hg => rfl); (case hr => first | (go_simp; done) | (go_simp; rfl)); (case hp => exact (Reps.one (show Kd.M Kd.string _ _ _ a0_4 [.string a0_4] from rfl) (Reps.none _ _)))
            intro v140 w15 ho16 hb hg_ hnew_
            clear hg_ hnew_
            (first | rw [← Ny139.out] at ho16 | (simp only [Int.reduceToNat] at ho16; rw [← Ny139.out] at ho16))
            have n0_ := Aside0.mk (Kd.R_lower ho16 (below_size (by repeat (first | (with_reducible first | exact HB.out | apply below_alloc | apply pw_below_drewN | apply below_drew1 | refine below_set ?_ GE133.out) | exact HB.out))))
            have n1_ := Aside0.mk (blk_below (g := gb133) (o := .cells #[.int .i64 a0_0, .int .i64 a0_1, .int .i64 a0_2, .int .i64 a0_3, .string a0_4, .bool a0_5, .slice A0_6 l0_6.length c0_6, .bool a0_7] 41 (0, 0)) (by (with_reducible repeat (first | refine blk_drewN ?_ _ | refine blk_drew ?_ | refine blk_alloc ?_ _)); exact BK133.out) hb)
            have n2_ := Aside0.mk (below_step (by repeat (first | (with_reducible first | exact HB.out | apply below_alloc | apply pw_below_drewN | apply below_drew1 | refine below_set ?_ GE133.out) | exact HB.out)) hb)
            clear BK133
            clear HB
            have HO141 := n0_
            have BK133 := n1_
            have HB := n2_
            clear n0_ n1_ n2_
            clear hb ho16
            refine hK.out _ _ ⟨(blk_cell BK133.out 0).trans rfl, (blk_cell BK133.out 1).trans rfl, (blk_cell BK133.out 2).trans rfl, (blk_cell BK133.out 3).trans rfl, (blk_cell BK133.out 4).trans rfl, (blk_cell BK133.out 5).trans rfl, (blk_cell BK133.out 6).trans rfl, (blk_cell BK133.out 7).trans rfl⟩ (fun hHeld => ?_)
            clear hK K
            refine norm_ (a' := ?_) ?_ ?_
            rotate_left
            · show Act.put _ (some 22) _ = _
              simp only [Act.put, List.setIfInBounds_toArray, List.set_cons_zero, List.set_cons_succ, i64_w, i32_w]
              rfl
            refine one_ (i := 8) (N := some 18) #[true, true, true, true, true, true, true, true, true, false, true, true, true, false, false, true, true, false, true, true, false, true, true, true, false, false, false, false] rfl rfl (one_of HT_.out (by kernel_rfl)) (by decide) (fun K hK => ?_)
            refine Kd.R_lit_step (Kd.int .i64) _ 3 ?hg (N := 18) ?hd (xs := ([a0_0, a0_1, a0_2, a0_3] : List Int)) (inner := [.int .i64 a0_0, .int .i64 a0_1, .int .i64 a0_2, .int .i64 a0_3]) (ok := fun _ => True) (okp := fun _ => True) ?hr ?hp (fun _ hk => hk) trivial (Below.refl _ _) (Nat.le_refl _) (by simp) ?_; (case hd => rfl); (case hg => rfl); (case hr => first | (go_simp; done) | (go_simp; rfl)); (case hp => exact (Reps.one (show Kd.M (Kd.int .i64) _ _ _ a0_0 [.int .i64 a0_0] from rfl) (Reps.one (show Kd.M (Kd.int .i64) _ _ _ a0_1 [.int .i64 a0_1] from rfl) (Reps.one (show Kd.M (Kd.int .i64) _ _ _ a0_2 [.int .i64 a0_2] from rfl) (Reps.one (show Kd.M (Kd.int .i64) _ _ _ a0_3 [.int .i64 a0_3] from rfl) (Reps.none _ _))))))
            intro v136 w17 ho18 hb hg_ hnew_
            clear hg_ hnew_
            (first | rw [← Ny135.out] at ho18 | (simp only [Int.reduceToNat] at ho18; rw [← Ny135.out] at ho18))
            have n0_ := Aside0.mk (Kd.R_below (by (with_reducible repeat (first | apply Kd.R_alloc | apply Kd.R_drewN | apply Kd.R_drew)); exact HO141.out) hb)
            have n1_ := Aside0.mk (Kd.R_lower ho18 (below_size (by repeat (first | (with_reducible first | exact HB.out | apply below_alloc | apply pw_below_drewN | apply below_drew1 | refine below_set ?_ GE133.out) | exact HB.out))))
            have n2_ := Aside0.mk (blk_below (g := gb133) (o := .cells #[.int .i64 a0_0, .int .i64 a0_1, .int .i64 a0_2, .int .i64 a0_3, .string a0_4, .bool a0_5, .slice A0_6 l0_6.length c0_6, .bool a0_7] 41 (0, 0)) (by (with_reducible repeat (first | refine blk_drewN ?_ _ | refine blk_drew ?_ | refine blk_alloc ?_ _)); exact BK133.out) hb)
            have n3_ := Aside0.mk (below_step (by repeat (first | (with_reducible first | exact HB.out | apply below_alloc | apply pw_below_drewN | apply below_drew1 | refine below_set ?_ GE133.out) | exact HB.out)) hb)
            clear HO141
            clear BK133
            clear HB
            have HO141 := n0_
            have HO137 := n1_
            have BK133 := n2_
            have HB := n3_
            clear n0_ n1_ n2_ n3_
            clear hb ho18
            obtain ⟨Ao19, co19, eo19⟩ := Kd.R_slice HO137.out
            (first | subst eo19 | (injection eo19 with f1_ f2_ f3_; have f4_ := f1_.symm; have f5_ := f3_.symm; clear f1_ f2_ f3_; subst f4_; subst f5_))
            refine hK.out _ _ ⟨(blk_cell BK133.out 0).trans rfl, (blk_cell BK133.out 1).trans rfl, (blk_cell BK133.out 2).trans rfl, (blk_cell BK133.out 3).trans rfl, (blk_cell BK133.out 4).trans rfl, (blk_cell BK133.out 5).trans rfl, (blk_cell BK133.out 6).trans rfl, (blk_cell BK133.out 7).trans rfl⟩ (fun hHeld => ?_)
            clear hK K
            refine norm_ (a' := ?_) ?_ ?_
            rotate_left
            · show Act.put _ (some 18) _ = _
              simp only [Act.put, List.setIfInBounds_toArray, List.set_cons_zero, List.set_cons_succ, i64_w, i32_w]
              rfl
            refine one_ (i := 9) (N := some 19) #[true, true, true, true, true, true, true, true, true, true, true, true, true, false, false, true, true, false, true, true, false, true, true, true, false, false, false, false] rfl rfl (one_of HT_.out (by kernel_rfl)) (by decide) (fun K hK => ?_)
            refine goes_ Tryd.func21 (by kernel_rfl) rfl #[.slice Ao19 y135.length co19] (by rfl) rfl rfl (by (try simp only [List.map_toArray, List.map_cons, List.map_nil]); first | done | rfl | (simp only [List.length_drop, List.length_take]; rfl)) ?_
            with_reducible refine (wire_nums.calls _ _ y135 t138 _ ?side1 ?side2 A4.out).mono ?_
            (case side1 => repeat (first | exact (Kd.R_reads' HO137.out).2.2 | (with_reducible refine Kd.C_alloc ?_ _) | (with_reducible refine Kd.C_drewN ?_ _) | (with_reducible refine Kd.C_drew ?_)))
            (case side2 => exact (Kd.R_reads' HO137.out).2.1)
            rintro e w20 ⟨rfl, hb⟩
            refine ⟨_, rfl, ?_⟩
            have n0_ := Aside0.mk (Kd.R_below (by (with_reducible repeat (first | apply Kd.R_alloc | apply Kd.R_drewN | apply Kd.R_drew)); exact HO141.out) hb)
            have n1_ := Aside0.mk (Kd.R_below (by (with_reducible repeat (first | apply Kd.R_alloc | apply Kd.R_drewN | apply Kd.R_drew)); exact HO137.out) hb)
            have n2_ := Aside0.mk (blk_below (g := gb133) (o := .cells #[.int .i64 a0_0, .int .i64 a0_1, .int .i64 a0_2, .int .i64 a0_3, .string a0_4, .bool a0_5, .slice A0_6 l0_6.length c0_6, .bool a0_7] 41 (0, 0)) (by (with_reducible repeat (first | refine blk_drewN ?_ _ | refine blk_drew ?_ | refine blk_alloc ?_ _)); exact BK133.out) hb)
            have n3_ := Aside0.mk (below_step (by repeat (first | (with_reducible first | exact HB.out | apply below_alloc | apply pw_below_drewN | apply below_drew1 | refine below_set ?_ GE133.out) | exact HB.out)) hb)
            clear HO141
            clear HO137
            clear BK133
            clear HB
            have HO141 := n0_
            have HO137 := n1_
            have BK133 := n2_
            have HB := n3_
            clear n0_ n1_ n2_ n3_
            (try clear hb)
            (try clear hb2)
            (try clear hk)
            (try clear hi)
            refine hK.out _ _ ⟨(blk_cell BK133.out 0).trans rfl, (blk_cell BK133.out 1).trans rfl, (blk_cell BK133.out 2).trans rfl, (blk_cell BK133.out 3).trans rfl, (blk_cell BK133.out 4).trans rfl, (blk_cell BK133.out 5).trans rfl, (blk_cell BK133.out 6).trans rfl, (blk_cell BK133.out 7).trans rfl⟩ (fun hHeld => ?_)
            clear hK K
            refine norm_ (a' := ?_) ?_ ?_
            rotate_left
            · show Act.put _ (some 19) _ = _
              simp only [Act.put, List.setIfInBounds_toArray, List.set_cons_zero, List.set_cons_succ, i64_w, i32_w]
              rfl
            exact norm_ (by simp only [putAll, Act.put, List.setIfInBounds_toArray, List.set_cons_zero, List.set_cons_succ]) (hCont (.slice Ao19 y135.length co19, v140) _ ⟨hHeld, (by (with_reducible repeat (first | apply Kd.R_alloc | apply Kd.R_drewN | apply Kd.R_drew)); exact HO137.out), (by (with_reducible repeat (first | apply Kd.R_alloc | apply Kd.R_drewN | apply Kd.R_drew)); exact HO141.out), (by (with_reducible repeat (first | refine blk_drewN ?_ _ | refine blk_drew ?_ | refine blk_alloc ?_ _)); exact BK133.out), (by repeat (first | (with_reducible first | exact HB.out | apply below_alloc | apply pw_below_drewN | apply below_drew1 | refine below_set ?_ GE133.out) | exact HB.out))⟩)
        rintro ⟨v136, v140⟩ w21 ⟨hS_, h0_, h1_, h2_, h3_⟩
        have n0_ : Aside0 (Kd.R (Kd.int .i64) 3 w21 w.heap.size (fun _ => True) v136 y135) := ⟨h0_⟩
        have n1_ : Aside0 (Kd.R Kd.string 9 w21 w.heap.size (fun _ => True) v140 y139) := ⟨h1_⟩
        have n2_ : Aside0 (w21.heap[gb133]? = some (.cells #[.int .i64 a0_0, .int .i64 a0_1, .int .i64 a0_2, .int .i64 a0_3, .string a0_4, .bool a0_5, .slice A0_6 l0_6.length c0_6, .bool a0_7] 41 (0, 0))) := ⟨h2_⟩
        have n3_ : Aside0 (Below w.heap.size w w21) := ⟨h3_⟩
        clear BK133
        clear HB
        clear h0_ h1_ h2_ h3_
        have HO137 := n0_
        have HO141 := n1_
        have BK133 := n2_
        have HB := n3_
        clear n0_ n1_ n2_ n3_
        have hHeld : w21.cell? ⟨gb133, 0, none⟩ = some (.int .i64 a0_0) ∧ w21.cell? ⟨gb133, 1, none⟩ = some (.int .i64 a0_1) ∧ w21.cell? ⟨gb133, 2, none⟩ = some (.int .i64 a0_2) ∧ w21.cell? ⟨gb133, 3, none⟩ = some (.int .i64 a0_3) ∧ w21.cell? ⟨gb133, 4, none⟩ = some (.string a0_4) ∧ w21.cell? ⟨gb133, 5, none⟩ = some (.bool a0_5) ∧ w21.cell? ⟨gb133, 6, none⟩ = some (.slice A0_6 l0_6.length c0_6) ∧ w21.cell? ⟨gb133, 7, none⟩ = some (.bool a0_7) := hS_
        obtain ⟨Ao22, co22, eo22⟩ := Kd.R_slice HO141.out
        (first | subst eo22 | (injection eo22 with f1_ f2_ f3_; have f4_ := f1_.symm; have f5_ := f3_.symm; clear f1_ f2_ f3_; subst f4_; subst f5_))
        refine norm_ (a' := ?_) ?_ ?_
        rotate_left
        · simp only [putAll, Act.put, List.setIfInBounds_toArray, List.set_cons_zero, List.set_cons_succ]
          rfl
        refine one_ (i := 13) (N := some 23) #[true, true, true, true, true, true, true, true, true, true, true, true, true, true, false, true, true, false, true, true, false, true, true, true, false, false, false, false] rfl rfl (one_of HT_.out (by kernel_rfl)) (by decide) (fun K hK => ?_)
        refine goes_ Tryd.func22 (by kernel_rfl) rfl #[.slice Ao22 y139.length co22] (by rfl) rfl rfl (by (try simp only [List.map_toArray, List.map_cons, List.map_nil]); first | done | rfl | (simp only [List.length_drop, List.length_take]; rfl)) ?_
        with_reducible refine (wire_texts.calls _ _ y139 t142 _ ?side1 ?side2 A5.out).mono ?_
        (case side1 => repeat (first | exact (Kd.R_reads' HO141.out).2.2 | (with_reducible refine Kd.C_alloc ?_ _) | (with_reducible refine Kd.C_drewN ?_ _) | (with_reducible refine Kd.C_drew ?_)))
        (case side2 => exact (Kd.R_reads' HO141.out).2.1)
        rintro e w23 ⟨rfl, hb⟩
        refine ⟨_, rfl, ?_⟩
        have n0_ := Aside0.mk (Kd.R_below (by (with_reducible repeat (first | apply Kd.R_alloc | apply Kd.R_drewN | apply Kd.R_drew)); exact HO137.out) hb)
        have n1_ := Aside0.mk (Kd.R_below (by (with_reducible repeat (first | apply Kd.R_alloc | apply Kd.R_drewN | apply Kd.R_drew)); exact HO141.out) hb)
        have n2_ := Aside0.mk (blk_below (g := gb133) (o := .cells #[.int .i64 a0_0, .int .i64 a0_1, .int .i64 a0_2, .int .i64 a0_3, .string a0_4, .bool a0_5, .slice A0_6 l0_6.length c0_6, .bool a0_7] 41 (0, 0)) (by (with_reducible repeat (first | refine blk_drewN ?_ _ | refine blk_drew ?_ | refine blk_alloc ?_ _)); exact BK133.out) hb)
        have n3_ := Aside0.mk (below_step (by repeat (first | (with_reducible first | exact HB.out | apply below_alloc | apply pw_below_drewN | apply below_drew1 | refine below_set ?_ GE133.out) | exact HB.out)) hb)
        clear HO137
        clear HO141
        clear BK133
        clear HB
        have HO137 := n0_
        have HO141 := n1_
        have BK133 := n2_
        have HB := n3_
        clear n0_ n1_ n2_ n3_
        (try clear hb)
        (try clear hb2)
        (try clear hk)
        (try clear hi)
        refine hK.out _ _ ⟨(blk_cell BK133.out 0).trans rfl, (blk_cell BK133.out 1).trans rfl, (blk_cell BK133.out 2).trans rfl, (blk_cell BK133.out 3).trans rfl, (blk_cell BK133.out 4).trans rfl, (blk_cell BK133.out 5).trans rfl, (blk_cell BK133.out 6).trans rfl, (blk_cell BK133.out 7).trans rfl⟩ (fun hHeld => ?_)
        clear hK K
        refine norm_ (a' := ?_) ?_ ?_
        rotate_left
        · show Act.put _ (some 23) _ = _
          simp only [Act.put, List.setIfInBounds_toArray, List.set_cons_zero, List.set_cons_succ, i64_w, i32_w]
          rfl
        refine pure_ (i := 14) (N := some 24) (v := ?_) (a' := ?_) #[true, true, true, true, true, true, true, true, true, true, true, true, true, true, true, true, true, false, true, true, false, true, true, true, false, false, false, false] rfl rfl (any_of HT_.out (by kernel_rfl)) (fun _ _ _ h => h) (Or.inl ⟨by rfl, ?_⟩) ?_ ?_
        rotate_left
        · intro w'
          go_simp
          with_reducible rfl
        rotate_left
        · simp only [Act.put, List.setIfInBounds_toArray, List.set_cons_zero, List.set_cons_succ, i64_w, i32_w]
          rfl
        refine one_ (i := 17) (N := some 27) #[true, true, true, true, true, true, true, true, true, true, true, true, true, true, true, true, true, true, true, true, false, true, true, true, false, false, false, false] rfl rfl (one_of HT_.out (by kernel_rfl)) (by decide) (fun K hK => ?_)
        refine goes_ Tryd.func33 (by kernel_rfl) rfl #[.bool a0_5] (by rfl) rfl rfl (by (try simp only [List.map_toArray, List.map_cons, List.map_nil]); first | done | rfl | (simp only [List.length_drop, List.length_take]; rfl)) ?_
        with_reducible refine (wire_flag.calls a0_5 t143 _ A7.out).mono ?_
        rintro e w' ⟨rfl, ⟨nd, rfl⟩⟩
        refine ⟨_, rfl, ?_⟩
        refine hK.out _ _ ⟨(blk_cell BK133.out 0).trans rfl, (blk_cell BK133.out 1).trans rfl, (blk_cell BK133.out 2).trans rfl, (blk_cell BK133.out 3).trans rfl, (blk_cell BK133.out 4).trans rfl, (blk_cell BK133.out 5).trans rfl, (blk_cell BK133.out 6).trans rfl, (blk_cell BK133.out 7).trans rfl⟩ (fun hHeld => ?_)
        clear hK K
        refine norm_ (a' := ?_) ?_ ?_
        rotate_left
        · show Act.put _ (some 27) _ = _
          simp only [Act.put, List.setIfInBounds_toArray, List.set_cons_zero, List.set_cons_succ, i64_w, i32_w]
          rfl
        refine one_ (i := 20) (N := some 30) #[true, true, true, true, true, true, true, true, true, true, true, true, true, true, true, true, true, true, true, true, true, true, true, true, false, false, false, false] rfl rfl (one_of HT_.out (by kernel_rfl)) (by decide) (fun K hK => ?_)
        refine goes_ Tryd.func33 (by kernel_rfl) rfl #[.bool a0_7] (by rfl) rfl rfl (by (try simp only [List.map_toArray, List.map_cons, List.map_nil]); first | done | rfl | (simp only [List.length_drop, List.length_take]; rfl)) ?_
        with_reducible refine (wire_flag.calls a0_7 t144 _ A8.out).mono ?_
        rintro e w' ⟨rfl, ⟨nd, rfl⟩⟩
        refine ⟨_, rfl, ?_⟩
        refine hK.out _ _ ⟨(blk_cell BK133.out 0).trans rfl, (blk_cell BK133.out 1).trans rfl, (blk_cell BK133.out 2).trans rfl, (blk_cell BK133.out 3).trans rfl, (blk_cell BK133.out 4).trans rfl, (blk_cell BK133.out 5).trans rfl, (blk_cell BK133.out 6).trans rfl, (blk_cell BK133.out 7).trans rfl⟩ (fun hHeld => ?_)
        clear hK K
        refine norm_ (a' := ?_) ?_ ?_
        rotate_left
        · show Act.put _ (some 30) _ = _
          simp only [Act.put, List.setIfInBounds_toArray, List.set_cons_zero, List.set_cons_succ, i64_w, i32_w]
          rfl
        refine one_ (i := 24) (N := some 34) #[true, true, true, true, true, true, true, true, true, true, true, true, true, true, true, true, true, true, true, true, true, true, true, true, true, false, false, false] rfl rfl (one_of HT_.out (by kernel_rfl)) (by decide) (fun K hK => ?_)
        refine Kd.R_lit_step (Kd.int .i64) _ 3 ?hg (N := 34) ?hd (xs := ([t143, t144, (l0_6.length : Int)] : List Int)) (inner := [.int .i64 t143, .int .i64 t144, .int .i64 (l0_6.length : Int)]) (ok := fun _ => True) (okp := fun _ => True) ?hr ?hp (fun _ hk => hk) trivial (Below.refl _ _) (Nat.le_refl _) (by simp) ?_; (case hd => rfl); (case hg => rfl); (case hr => first | (go_simp; done) | (go_simp; rfl)); (case hp => exact (Reps.one (show Kd.M (Kd.int .i64) _ _ _ t143 [.int .i64 t143] from rfl) (Reps.one (show Kd.M (Kd.int .i64) _ _ _ t144 [.int .i64 t144] from rfl) (Reps.one (show Kd.M (Kd.int .i64) _ _ _ (l0_6.length : Int) [.int .i64 (l0_6.length : Int)] from rfl) (Reps.none _ _)))))
        intro v146 w24 ho25 hb hg_ hnew_
        clear hg_ hnew_
        (first | rw [← Ny145.out] at ho25 | (simp only [Int.reduceToNat] at ho25; rw [← Ny145.out] at ho25))
        have n0_ := Aside0.mk (Kd.R_elder' (by (with_reducible repeat (first | apply Kd.R_alloc | apply Kd.R_drewN | apply Kd.R_drew)); exact HO137.out) (Kd.R_base ho25) hb)
        have n1_ := Aside0.mk (Kd.R_below (by (with_reducible repeat (first | apply Kd.R_alloc | apply Kd.R_drewN | apply Kd.R_drew)); exact HO141.out) hb)
        have n2_ := Aside0.mk (Kd.R_lower (Kd.R_new' ho25 (Kd.R_lt (by (with_reducible repeat (first | apply Kd.R_alloc | apply Kd.R_drewN | apply Kd.R_drew)); exact HO137.out))) (below_size (by repeat (first | (with_reducible first | exact HB.out | apply below_alloc | apply pw_below_drewN | apply below_drew1 | refine below_set ?_ GE133.out) | exact HB.out))))
        have n3_ := Aside0.mk (blk_below (g := gb133) (o := .cells #[.int .i64 a0_0, .int .i64 a0_1, .int .i64 a0_2, .int .i64 a0_3, .string a0_4, .bool a0_5, .slice A0_6 l0_6.length c0_6, .bool a0_7] 41 (0, 0)) (by (with_reducible repeat (first | refine blk_drewN ?_ _ | refine blk_drew ?_ | refine blk_alloc ?_ _)); exact BK133.out) hb)
        have n4_ := Aside0.mk (below_step (by repeat (first | (with_reducible first | exact HB.out | apply below_alloc | apply pw_below_drewN | apply below_drew1 | refine below_set ?_ GE133.out) | exact HB.out)) hb)
        clear HO137
        clear HO141
        clear BK133
        clear HB
        have HO137 := n0_
        have HO141 := n1_
        have HO147 := n2_
        have BK133 := n3_
        have HB := n4_
        clear n0_ n1_ n2_ n3_ n4_
        clear hb ho25
        obtain ⟨Ao26, co26, eo26⟩ := Kd.R_slice HO147.out
        (first | subst eo26 | (injection eo26 with f1_ f2_ f3_; have f4_ := f1_.symm; have f5_ := f3_.symm; clear f1_ f2_ f3_; subst f4_; subst f5_))
        refine hK.out _ _ ⟨(blk_cell BK133.out 0).trans rfl, (blk_cell BK133.out 1).trans rfl, (blk_cell BK133.out 2).trans rfl, (blk_cell BK133.out 3).trans rfl, (blk_cell BK133.out 4).trans rfl, (blk_cell BK133.out 5).trans rfl, (blk_cell BK133.out 6).trans rfl, (blk_cell BK133.out 7).trans rfl⟩ (fun hHeld => ?_)
        clear hK K
        refine norm_ (a' := ?_) ?_ ?_
        rotate_left
        · show Act.put _ (some 34) _ = _
          simp only [Act.put, List.setIfInBounds_toArray, List.set_cons_zero, List.set_cons_succ, i64_w, i32_w]
          rfl
        refine one_ (i := 25) (N := some 35) #[true, true, true, true, true, true, true, true, true, true, true, true, true, true, true, true, true, true, true, true, true, true, true, true, true, true, false, false] rfl rfl (one_of HT_.out (by kernel_rfl)) (by decide) (fun K hK => ?_)
        refine goes_ Tryd.func21 (by kernel_rfl) rfl #[.slice Ao26 y145.length co26] (by rfl) rfl rfl (by (try simp only [List.map_toArray, List.map_cons, List.map_nil]); first | done | rfl | (simp only [List.length_drop, List.length_take]; rfl)) ?_
        with_reducible refine (wire_nums.calls _ _ y145 t148 _ ?side1 ?side2 A9.out).mono ?_
        (case side1 => repeat (first | exact (Kd.R_reads' HO147.out).2.2 | (with_reducible refine Kd.C_alloc ?_ _) | (with_reducible refine Kd.C_drewN ?_ _) | (with_reducible refine Kd.C_drew ?_)))
        (case side2 => exact (Kd.R_reads' HO147.out).2.1)
        rintro e w27 ⟨rfl, hb⟩
        refine ⟨_, rfl, ?_⟩
        have n0_ := Aside0.mk (Kd.R_below (by (with_reducible repeat (first | apply Kd.R_alloc | apply Kd.R_drewN | apply Kd.R_drew)); exact HO137.out) hb)
        have n1_ := Aside0.mk (Kd.R_below (by (with_reducible repeat (first | apply Kd.R_alloc | apply Kd.R_drewN | apply Kd.R_drew)); exact HO141.out) hb)
        have n2_ := Aside0.mk (Kd.R_below (by (with_reducible repeat (first | apply Kd.R_alloc | apply Kd.R_drewN | apply Kd.R_drew)); exact HO147.out) hb)
        have n3_ := Aside0.mk (blk_below (g := gb133) (o := .cells #[.int .i64 a0_0, .int .i64 a0_1, .int .i64 a0_2, .int .i64 a0_3, .string a0_4, .bool a0_5, .slice A0_6 l0_6.length c0_6, .bool a0_7] 41 (0, 0)) (by (with_reducible repeat (first | refine blk_drewN ?_ _ | refine blk_drew ?_ | refine blk_alloc ?_ _)); exact BK133.out) hb)
        have n4_ := Aside0.mk (below_step (by repeat (first | (with_reducible first | exact HB.out | apply below_alloc | apply pw_below_drewN | apply below_drew1 | refine below_set ?_ GE133.out) | exact HB.out)) hb)
        clear HO137
        clear HO141
        clear HO147
        clear BK133
        clear HB
        have HO137 := n0_
        have HO141 := n1_
        have HO147 := n2_
        have BK133 := n3_
        have HB := n4_
        clear n0_ n1_ n2_ n3_ n4_
        (try clear hb)
        (try clear hb2)
        (try clear hk)
        (try clear hi)
        refine hK.out _ _ ⟨(blk_cell BK133.out 0).trans rfl, (blk_cell BK133.out 1).trans rfl, (blk_cell BK133.out 2).trans rfl, (blk_cell BK133.out 3).trans rfl, (blk_cell BK133.out 4).trans rfl, (blk_cell BK133.out 5).trans rfl, (blk_cell BK133.out 6).trans rfl, (blk_cell BK133.out 7).trans rfl⟩ (fun hHeld => ?_)
        clear hK K
        refine norm_ (a' := ?_) ?_ ?_
        rotate_left
        · show Act.put _ (some 35) _ = _
          simp only [Act.put, List.setIfInBounds_toArray, List.set_cons_zero, List.set_cons_succ, i64_w, i32_w]
          rfl
        refine pure_ (i := 26) (N := some 36) (v := ?_) (a' := ?_) #[true, true, true, true, true, true, true, true, true, true, true, true, true, true, true, true, true, true, true, true, true, true, true, true, true, true, true, false] rfl rfl (any_of HT_.out (by kernel_rfl)) (fun _ _ _ h => h) (Or.inl ⟨by rfl, ?_⟩) ?_ ?_
        rotate_left
        · intro w'
          go_simp
          with_reducible rfl
        rotate_left
        · simp only [Act.put, List.setIfInBounds_toArray, List.set_cons_zero, List.set_cons_succ, i64_w, i32_w]
          rfl
        refine pure_ (i := 27) (N := some 4) (v := ?_) (a' := ?_) #[true, true, true, true, true, true, true, true, true, true, true, true, true, true, true, true, true, true, true, true, true, true, true, true, true, true, true, true] rfl rfl (any_of HT_.out (by kernel_rfl)) (fun _ _ _ h => h) (Or.inl ⟨by rfl, ?_⟩) ?_ ?_
        rotate_left
        · intro w'
          go_simp
          with_reducible rfl
        rotate_left
        · simp only [Act.put, List.setIfInBounds_toArray, List.set_cons_zero, List.set_cons_succ, i64_w, i32_w]
          rfl
        refine done_ (done_of HT_.out (by kernel_rfl)) ?_
        have hcz28_0 : w27.cell? ⟨gb133, 0, none⟩ = some (.int .i64 a0_0) := (blk_cell BK133.out 0).trans rfl
        have hcz28_1 : w27.cell? ⟨gb133, 1, none⟩ = some (.int .i64 a0_1) := (blk_cell BK133.out 1).trans rfl
        have hcz28_2 : w27.cell? ⟨gb133, 2, none⟩ = some (.int .i64 a0_2) := (blk_cell BK133.out 2).trans rfl
        have hcz28_3 : w27.cell? ⟨gb133, 3, none⟩ = some (.int .i64 a0_3) := (blk_cell BK133.out 3).trans rfl
        have hcz28_4 : w27.cell? ⟨gb133, 4, none⟩ = some (.string a0_4) := (blk_cell BK133.out 4).trans rfl
        have hcz28_5 : w27.cell? ⟨gb133, 5, none⟩ = some (.bool a0_5) := (blk_cell BK133.out 5).trans rfl
        have hcz28_6 : w27.cell? ⟨gb133, 6, none⟩ = some (.slice A0_6 l0_6.length c0_6) := (blk_cell BK133.out 6).trans rfl
        have hcz28_7 : w27.cell? ⟨gb133, 7, none⟩ = some (.bool a0_7) := (blk_cell BK133.out 7).trans rfl
        have hfz28_0 := blk_frozen BK133.out 0
        have hfz28_1 := blk_frozen BK133.out 1
        have hfz28_2 := blk_frozen BK133.out 2
        have hfz28_3 := blk_frozen BK133.out 3
        have hfz28_4 := blk_frozen BK133.out 4
        have hfz28_5 := blk_frozen BK133.out 5
        have hfz28_6 := blk_frozen BK133.out 6
        have hfz28_7 := blk_frozen BK133.out 7
        try go_wp2
        go_loopg [4, 40] k (fun kq v4 v40 w' => ∃ (x4_1 : ByteArray) (x40_1 : Int), v4 = .string x4_1 ∧ v40 = .int .i64 x40_1 ∧ Aside0 (wire_Reply.l0 kq x4_1 l0_6 (l0_6.length : Int) x40_1 = some (r1, r2)) ∧ Aside0 (kq ≤ k) ∧ Aside0 (w'.heap[gb133]? = some (.cells #[.int .i64 a0_0, .int .i64 a0_1, .int .i64 a0_2, .int .i64 a0_3, .string a0_4, .bool a0_5, (.slice A0_6 l0_6.length c0_6), .bool a0_7] 41 (0, 0))) ∧ Aside0 (Below w.heap.size w w'))
        case atStart => exact ⟨((t138 ++ t142) ++ t148), (0), (by first | rfl | (simp; done) | (simp [*]; done)), (by first | rfl | (simp; done) | (simp [*]; done)), H', ⟨Nat.le_refl _⟩, ⟨by (with_reducible repeat (first | refine blk_drewN ?_ _ | refine blk_drew ?_ | refine blk_alloc ?_ _)); exact BK133.out⟩, ⟨by repeat (first | (with_reducible first | exact HB.out | apply below_alloc | apply pw_below_drewN | apply below_drew1 | refine below_set ?_ GE133.out) | exact HB.out)⟩⟩
        case round =>
          clear H'
          try clear c1
          try clear c2
          try clear p2
          try clear c3
          try clear c6
          try clear c6b0
          try clear c6b1
          try clear c6b2
          try clear c10
          try clear c10b0
          try clear c10b1
          try clear c10b2
          try clear c15
          try clear c21
          try clear c22
          try clear hcz12_0
          try clear hcz12_1
          try clear hcz12_2
          try clear hcz12_3
          try clear hcz12_4
          try clear hcz12_5
          try clear hcz12_6
          try clear hcz12_7
          try clear hcz28_0
          try clear hcz28_1
          try clear hcz28_2
          try clear hcz28_3
          try clear hcz28_4
          try clear hcz28_5
          try clear hcz28_6
          try clear hcz28_7
          try clear hfz12_0
          try clear hfz12_1
          try clear hfz12_2
          try clear hfz12_3
          try clear hfz12_4
          try clear hfz12_5
          try clear hfz12_6
          try clear hfz12_7
          try clear hfz28_0
          try clear hfz28_1
          try clear hfz28_2
          try clear hfz28_3
          try clear hfz28_4
          try clear hfz28_5
          try clear hfz28_6
          try clear hfz28_7
          obtain ⟨x4_1, x40_1, rfl, rfl, HA, HK1, BK133, HB⟩ := hrel
          cases gk with
          | zero => exact absurd HA.out (by simp [wire_Reply.l0])
          | succ k1 =>
            have H := HA.out
            clear HA
            simp only [wire_Reply.l0] at H
            by_cases c29 : x40_1 < (l0_6.length : Int)
            · rw [if_pos c29] at H
              have c29b0 : decide (x40_1 < (l0_6.length : Int)) = true := decide_eq_true c29
              clear c29
              by_cases c30 : 0 ≤ x40_1
              · rw [if_pos c30] at H
                have c30b0 : decide (0 ≤ x40_1) = true := decide_eq_true c30
                clear c30
                by_cases c31 : x40_1 < (l0_6.length : Int)
                · rw [if_pos c31] at H
                  have c31b0 : decide (x40_1 < (l0_6.length : Int)) = true := decide_eq_true c31
                  clear c31
                  obtain ⟨y151, hy151⟩ : ∃ y_ : List ByteArray, y_ = (([(rd_T74 l0_6 x40_1).f0, (rd_T74 l0_6 x40_1).f1] : List ByteArray)) := ⟨_, rfl⟩
                  replace H : ((wire_texts.f y151).bind fun t154 => (if x4_1.size + t154.size ≤ 9223372036854775807 then (wire_Reply.l0 k1 (x4_1 ++ t154) l0_6 (l0_6.length : Int) (wrap64 (x40_1 + 1))) else (none))) = some (r1, r2) := by first | (rw [hy151]; with_reducible exact H) | (have H2_ := (Option.bind_some _ _).symm.trans H; rw [hy151]; with_reducible exact H2_) | (have H2_ := (Option.bind_some _ _).symm.trans H; with_reducible exact H2_) | with_reducible exact H | (rw [hy151]; exact H) | exact H
                  have Ny151 := Aside0.mk hy151
                  clear hy151
                  replace H := Option.bind_eq_some_iff.mp H
                  obtain ⟨t154, A320, H⟩ := H
                  replace H : (if x4_1.size + t154.size ≤ 9223372036854775807 then (wire_Reply.l0 k1 (x4_1 ++ t154) l0_6 (l0_6.length : Int) (wrap64 (x40_1 + 1))) else (none)) = some (r1, r2) := H
                  have A32 := Aside0.mk A320
                  clear A320
                  by_cases c33 : x4_1.size + t154.size ≤ 9223372036854775807
                  · rw [if_pos c33] at H
                    have c33b0 := eq_true c33
                    have c33b1 : decide (x4_1.size + t154.size ≤ 9223372036854775807) = true := decide_eq_true c33
                    try have c33b2 : (9223372036854775807 < x4_1.size + t154.size) = False := eq_false (Nat.not_lt.2 c33)
                    have H' := Aside0.mk H
                    clear H
                    have p149 : 0 ≤ (x40_1 : Int) := of_decide_eq_true (by first | (with_reducible assumption) | assumption)
                    have q149 : x40_1 < (l0_6.length : Int) := of_decide_eq_true (by first | (with_reducible assumption) | assumption)
                    obtain ⟨ad149, e149, hx149_0, hx149_1⟩ := at_T74 HR0_6.out x40_1 p149 q149
                    cases e149
                    replace hx149_0 := (HB.out.cell (World.block_lt_of_cell? w _ hx149_0)).trans hx149_0
                    replace hx149_1 := (HB.out.cell (World.block_lt_of_cell? w _ hx149_1)).trans hx149_1
                    replace p149 := eq_true p149
                    replace q149 := eq_true q149
                    go_wp2_with (first | ((with_reducible refine gate_dst (N := 6) rfl ?_); refine box_event ?hg (N := 6) ?hd (cs := #[.string (⟨#[]⟩ : ByteArray), .string (⟨#[]⟩ : ByteArray)]) (t := 74) ?hr ?_; (case hd => rfl); (case hg => rfl); (case hr => first | (go_simp; done) | (go_simp; rfl)); intro gb150 hg w34 hbox hb; have n0_ := Aside0.mk (blk_below (g := gb133) (o := .cells #[.int .i64 a0_0, .int .i64 a0_1, .int .i64 a0_2, .int .i64 a0_3, .string a0_4, .bool a0_5, .slice (some ad149) l0_6.length c0_6, .bool a0_7] 41 (0, 0)) (by (with_reducible repeat (first | refine blk_drewN ?_ _ | refine blk_drew ?_ | refine blk_alloc ?_ _)); exact BK133.out) hb); have n1_ := Aside0.mk (below_step (by repeat (first | (with_reducible first | exact HB.out | apply below_alloc | apply pw_below_drewN | apply below_drew1 | refine below_set ?_ GE133.out) | exact HB.out)) hb); have n2_ := Aside0.mk (hbox); have n3_ := Aside0.mk ((by rw [hg]; exact (below_size (by repeat (first | (with_reducible first | exact HB.out | apply below_alloc | apply pw_below_drewN | apply below_drew1 | refine below_set ?_ GE133.out) | exact HB.out))) : w.heap.size ≤ gb150)); have n4_ := Aside0.mk ((by rw [hg]; exact (below_size (by repeat (first | (with_reducible first | exact HB.out | apply below_alloc | apply pw_below_drewN | apply below_drew1 | refine below_set ?_ GE133.out) | exact HB.out))) : w.heap.size ≤ gb150)); have n5_ := Aside0.mk ((by rw [hg]; exact Nat.ne_of_lt (blk_lt (g := gb133) (o := .cells #[.int .i64 a0_0, .int .i64 a0_1, .int .i64 a0_2, .int .i64 a0_3, .string a0_4, .bool a0_5, .slice (some ad149) l0_6.length c0_6, .bool a0_7] 41 (0, 0)) (by (with_reducible repeat (first | refine blk_drewN ?_ _ | refine blk_drew ?_ | refine blk_alloc ?_ _)); exact BK133.out)) : gb133 ≠ gb150)); have n6_ := Aside0.mk ((by rw [hg]; exact Nat.ne_of_gt (blk_lt (g := gb133) (o := .cells #[.int .i64 a0_0, .int .i64 a0_1, .int .i64 a0_2, .int .i64 a0_3, .string a0_4, .bool a0_5, .slice (some ad149) l0_6.length c0_6, .bool a0_7] 41 (0, 0)) (by (with_reducible repeat (first | refine blk_drewN ?_ _ | refine blk_drew ?_ | refine blk_alloc ?_ _)); exact BK133.out)) : gb150 ≠ gb133)); clear BK133; clear HB; have BK133 := n0_; have HB := n1_; have BK150 := n2_; have GW150 := n3_; have GE150 := n4_; have NB133_150 := n5_; have NB150_133 := n6_; clear n0_ n1_ n2_ n3_ n4_ n5_ n6_; clear hb hbox hg; have hnb35 := NB150_133.out; have hnc35 := NB133_150.out; have hcz36_0 : w34.cell? ⟨gb150, 0, none⟩ = some (.string (⟨#[]⟩ : ByteArray)) := (blk_cell BK150.out 0).trans rfl; have hcz36_1 : w34.cell? ⟨gb150, 1, none⟩ = some (.string (⟨#[]⟩ : ByteArray)) := (blk_cell BK150.out 1).trans rfl; have hfz36_0 := blk_frozen BK150.out 0; have hfz36_1 := blk_frozen BK150.out 1) | ((with_reducible refine gate_dst (N := 49) rfl ?_); refine Kd.R_lit Kd.string _ 9 ?hg (N := 49) ?hd (xs := ([(rd_T74 l0_6 x40_1).f0, (rd_T74 l0_6 x40_1).f1] : List ByteArray)) (inner := [.string ((rd_T74 l0_6 x40_1).f0), .string ((rd_T74 l0_6 x40_1).f1)]) (ok := fun _ => True) (okp := fun _ => True) ?hr ?hp (fun _ hk => hk) trivial (Below.refl _ _) (Nat.le_refl _) (by simp) ?_; (case hd => rfl); (case hg => rfl); (case hr => first | (go_simp; done) | (go_simp; rfl)); (case hp => exact (Reps.one (show Kd.M Kd.string _ _ _ ((rd_T74 l0_6 x40_1).f0) [.string ((rd_T74 l0_6 x40_1).f0)] from rfl) (Reps.one (show Kd.M Kd.string _ _ _ ((rd_T74 l0_6 x40_1).f1) [.string ((rd_T74 l0_6 x40_1).f1)] from rfl) (Reps.none _ _)))); intro v152 w37 ho38 hb hg_ hnew_; clear hg_ hnew_; (first | rw [← Ny151.out] at ho38 | (simp only [Int.reduceToNat] at ho38; rw [← Ny151.out] at ho38)); have n0_ := Aside0.mk (Kd.R_lower ho38 (below_size (by repeat (first | (with_reducible first | exact HB.out | apply below_alloc | apply pw_below_drewN | apply below_drew1 | refine below_set ?_ GE133.out | refine below_set ?_ GE150.out) | exact HB.out)))); have n1_ := Aside0.mk (blk_below (g := gb133) (o := .cells #[.int .i64 a0_0, .int .i64 a0_1, .int .i64 a0_2, .int .i64 a0_3, .string a0_4, .bool a0_5, .slice (some ad149) l0_6.length c0_6, .bool a0_7] 41 (0, 0)) (by (with_reducible repeat (first | refine blk_drewN ?_ _ | refine blk_drew ?_ | refine blk_alloc ?_ _)); refine blk_far ?_ NB133_150.out _; (with_reducible repeat (first | refine blk_drewN ?_ _ | refine blk_drew ?_ | refine blk_alloc ?_ _)); refine blk_far ?_ NB133_150.out _; (with_reducible repeat (first | refine blk_drewN ?_ _ | refine blk_drew ?_ | refine blk_alloc ?_ _)); exact BK133.out) hb); have n2_ := Aside0.mk (blk_below (g := gb150) (o := .cells #[.string ((rd_T74 l0_6 x40_1).f0), .string ((rd_T74 l0_6 x40_1).f1)] 74 (0, 0)) (by (with_reducible repeat (first | refine blk_drewN ?_ _ | refine blk_drew ?_ | refine blk_alloc ?_ _)); refine blk_put (cs := #[.string ((rd_T74 l0_6 x40_1).f0), .string (⟨#[]⟩ : ByteArray)]) ?_ 1 _ rfl; (with_reducible repeat (first | refine blk_drewN ?_ _ | refine blk_drew ?_ | refine blk_alloc ?_ _)); refine blk_put (cs := #[.string (⟨#[]⟩ : ByteArray), .string (⟨#[]⟩ : ByteArray)]) ?_ 0 _ rfl; (with_reducible repeat (first | refine blk_drewN ?_ _ | refine blk_drew ?_ | refine blk_alloc ?_ _)); exact BK150.out) hb); have n3_ := Aside0.mk (below_step (by repeat (first | (with_reducible first | exact HB.out | apply below_alloc | apply pw_below_drewN | apply below_drew1 | refine below_set ?_ GE133.out | refine below_set ?_ GE150.out) | exact HB.out)) hb); clear BK133; clear BK150; clear HB; have HO153 := n0_; have BK133 := n1_; have BK150 := n2_; have HB := n3_; clear n0_ n1_ n2_ n3_; clear hb ho38; obtain ⟨Ao39, co39, eo39⟩ := Kd.R_slice HO153.out; subst eo39) | ((with_reducible refine gate_callee (f := 22) rfl ?_); refine goesL_ (some 50) rfl rfl Tryd.func22 (by kernel_rfl) rfl #[.slice Ao39 y151.length co39] rfl (by (try simp only [List.map_toArray, List.map_cons, List.map_nil]); first | done | rfl | (simp only [List.length_drop, List.length_take]; rfl)) ?_; (with_reducible refine (wire_texts.calls _ _ y151 t154 _ ?side1 ?side2 A32.out).mono ?_); (case side1 => repeat (first | exact (Kd.R_reads' HO153.out).2.2 | (with_reducible refine Kd.C_alloc ?_ _) | (with_reducible refine Kd.C_drewN ?_ _) | (with_reducible refine Kd.C_drew ?_))); (case side2 => exact (Kd.R_reads' HO153.out).2.1); rintro e w40 ⟨rfl, hb⟩; refine ⟨_, rfl, ?_⟩; have n0_ := Aside0.mk (Kd.R_below (by (with_reducible repeat (first | apply Kd.R_alloc | apply Kd.R_drewN | apply Kd.R_drew)); exact HO153.out) hb); have n1_ := Aside0.mk (blk_below (g := gb133) (o := .cells #[.int .i64 a0_0, .int .i64 a0_1, .int .i64 a0_2, .int .i64 a0_3, .string a0_4, .bool a0_5, .slice (some ad149) l0_6.length c0_6, .bool a0_7] 41 (0, 0)) (by (with_reducible repeat (first | refine blk_drewN ?_ _ | refine blk_drew ?_ | refine blk_alloc ?_ _)); exact BK133.out) hb); have n2_ := Aside0.mk (blk_below (g := gb150) (o := .cells #[.string ((rd_T74 l0_6 x40_1).f0), .string ((rd_T74 l0_6 x40_1).f1)] 74 (0, 0)) (by (with_reducible repeat (first | refine blk_drewN ?_ _ | refine blk_drew ?_ | refine blk_alloc ?_ _)); exact BK150.out) hb); have n3_ := Aside0.mk (below_step (by repeat (first | (with_reducible first | exact HB.out | apply below_alloc | apply pw_below_drewN | apply below_drew1 | refine below_set ?_ GE133.out | refine below_set ?_ GE150.out) | exact HB.out)) hb); clear HO153; clear BK133; clear BK150; clear HB; have HO153 := n0_; have BK133 := n1_; have BK150 := n2_; have HB := n3_; clear n0_ n1_ n2_ n3_; (try clear hb); (try clear hb2); (try clear hk); (try clear hi)))
                    go_roundg k1
                    case measure => have := HK1.out; omega
                    case rel => exact ⟨(x4_1 ++ t154), (wrap64 (x40_1 + 1)), (by first | rfl | (simp; done) | (simp [*]; done)), (by first | rfl | (simp; done) | (simp [*]; done)), H', ⟨by have := HK1.out; omega⟩, ⟨by (with_reducible repeat (first | refine blk_drewN ?_ _ | refine blk_drew ?_ | refine blk_alloc ?_ _)); exact BK133.out⟩, ⟨by repeat (first | (with_reducible first | exact HB.out | apply below_alloc | apply pw_below_drewN | apply below_drew1 | refine below_set ?_ GE133.out | refine below_set ?_ GE150.out) | exact HB.out)⟩⟩
                  · rw [if_neg c33] at H
                    exact absurd H (by simp)
                · rw [if_neg c31] at H
                  exact absurd H (by simp)
              · rw [if_neg c30] at H
                exact absurd H (by simp)
            · rw [if_neg c29] at H
              have c29b0 : decide (x40_1 < (l0_6.length : Int)) = false := decide_eq_false c29
              clear c29
              simp only [Option.some.injEq, Prod.mk.injEq] at H
              obtain ⟨rfl, rfl⟩ := H
              go_wp2
              go_ret2
              exact ⟨by first | rfl | (simp [errW_none, errW_some] <;> rfl) | (simp [*, errW_none, errW_some] <;> rfl), by repeat (first | (with_reducible first | exact HB.out | apply below_alloc | apply pw_below_drewN | apply below_drew1 | refine below_set ?_ GE133.out) | exact HB.out)⟩
      · rw [if_neg c10] at H
        exact absurd H (by simp)
    · rw [if_neg c6] at H
      exact absurd H (by simp)
  · replace c3 := Bool.eq_false_iff.mpr c3
    subst c3
    have H1 : (some ((⟨#[]⟩ : ByteArray), 1)) = some (r1, r2) := by rw [if_neg (show ¬ (false = true) by decide)] at H; exact H
    clear H
    have H := H1
    clear H1
    simp only [Option.some.injEq, Prod.mk.injEq] at H
    obtain ⟨rfl, rfl⟩ := H
    go_enter Tryd.func15, Tryd.ntmps15
    go_wp2_with (first | ((with_reducible refine gate_dst (N := 1) rfl ?_); refine box_event ?hg (N := 1) ?hd (cs := #[.int .i64 a0_0, .int .i64 a0_1, .int .i64 a0_2, .int .i64 a0_3, .string a0_4, .bool a0_5, .slice A0_6 l0_6.length c0_6, .bool a0_7]) (t := 41) ?hr ?_; (case hd => rfl); (case hg => rfl); (case hr => first | (go_simp; done) | (go_simp; rfl)); intro gb133 hg w41 hbox hb; have n0_ := Aside0.mk (below_step (by repeat (first | (with_reducible first | exact HB.out | apply below_alloc | apply pw_below_drewN | apply below_drew1) | exact HB.out)) hb); have n1_ := Aside0.mk (hbox); have n2_ := Aside0.mk ((by rw [hg]; exact (below_size (by repeat (first | (with_reducible first | exact HB.out | apply below_alloc | apply pw_below_drewN | apply below_drew1) | exact HB.out))) : w.heap.size ≤ gb133)); have n3_ := Aside0.mk ((by rw [hg]; exact (below_size (by repeat (first | (with_reducible first | exact HB.out | apply below_alloc | apply pw_below_drewN | apply below_drew1) | exact HB.out))) : w.heap.size ≤ gb133)); clear HB; have HB := n0_; have BK133 := n1_; have GW133 := n2_; have GE133 := n3_; clear n0_ n1_ n2_ n3_; clear hb hbox hg; have hcz42_0 : w41.cell? ⟨gb133, 0, none⟩ = some (.int .i64 a0_0) := (blk_cell BK133.out 0).trans rfl; have hcz42_1 : w41.cell? ⟨gb133, 1, none⟩ = some (.int .i64 a0_1) := (blk_cell BK133.out 1).trans rfl; have hcz42_2 : w41.cell? ⟨gb133, 2, none⟩ = some (.int .i64 a0_2) := (blk_cell BK133.out 2).trans rfl; have hcz42_3 : w41.cell? ⟨gb133, 3, none⟩ = some (.int .i64 a0_3) := (blk_cell BK133.out 3).trans rfl; have hcz42_4 : w41.cell? ⟨gb133, 4, none⟩ = some (.string a0_4) := (blk_cell BK133.out 4).trans rfl; have hcz42_5 : w41.cell? ⟨gb133, 5, none⟩ = some (.bool a0_5) := (blk_cell BK133.out 5).trans rfl; have hcz42_6 : w41.cell? ⟨gb133, 6, none⟩ = some (.slice A0_6 l0_6.length c0_6) := (blk_cell BK133.out 6).trans rfl; have hcz42_7 : w41.cell? ⟨gb133, 7, none⟩ = some (.bool a0_7) := (blk_cell BK133.out 7).trans rfl; have hfz42_0 := blk_frozen BK133.out 0; have hfz42_1 := blk_frozen BK133.out 1; have hfz42_2 := blk_frozen BK133.out 2; have hfz42_3 := blk_frozen BK133.out 3; have hfz42_4 := blk_frozen BK133.out 4; have hfz42_5 := blk_frozen BK133.out 5; have hfz42_6 := blk_frozen BK133.out 6; have hfz42_7 := blk_frozen BK133.out 7) | ((with_reducible refine gate_callee (f := 32) rfl ?_); refine goesL_ (some 8) rfl rfl Tryd.func32 (by kernel_rfl) rfl #[.agg #[.int .i64 a0_0, .int .i64 a0_1, .int .i64 a0_2, .int .i64 a0_3, .string a0_4, .bool a0_5, .slice A0_6 l0_6.length c0_6, .bool a0_7]] rfl (by (try simp only [List.map_toArray, List.map_cons, List.map_nil]); first | done | rfl | (simp only [List.length_drop, List.length_take]; rfl)) ?_; (with_reducible refine (wire_mayReply.calls a0_0 a0_1 a0_2 a0_3 a0_4 a0_5 _ _ l0_6 a0_7 false _ ?side1 ?side2 A2.out).mono ?_); (case side1 => repeat (first | exact (Kd.C_below HR0_6.out HB.out) | (with_reducible refine Kd.C_alloc ?_ _) | (with_reducible refine Kd.C_drewN ?_ _) | (with_reducible refine Kd.C_drew ?_))); (case side2 => exact HC0_6.out); rintro e w43 ⟨rfl, hb⟩; refine ⟨_, rfl, ?_⟩; have n0_ := Aside0.mk (blk_below (g := gb133) (o := .cells #[.int .i64 a0_0, .int .i64 a0_1, .int .i64 a0_2, .int .i64 a0_3, .string a0_4, .bool a0_5, .slice A0_6 l0_6.length c0_6, .bool a0_7] 41 (0, 0)) (by (with_reducible repeat (first | refine blk_drewN ?_ _ | refine blk_drew ?_ | refine blk_alloc ?_ _)); exact BK133.out) hb); have n1_ := Aside0.mk (below_step (by repeat (first | (with_reducible first | exact HB.out | apply below_alloc | apply pw_below_drewN | apply below_drew1 | refine below_set ?_ GE133.out) | exact HB.out)) hb); clear BK133; clear HB; have BK133 := n0_; have HB := n1_; clear n0_ n1_; (try clear hb); (try clear hb2); (try clear hk); (try clear hi)))
    go_ret2
    exact ⟨by first | rfl | (simp [errW_none, errW_some] <;> rfl) | (simp [*, errW_none, errW_some] <;> rfl), by repeat (first | (with_reducible first | exact HB.out | apply below_alloc | apply pw_below_drewN | apply below_drew1 | refine below_set ?_ GE133.out) | exact HB.out)⟩

end Go.Proofs.YtlpcidjmaeicoaaDoor.QWi

/-! QWixC -/
namespace Go.Proofs.YtlpcidjmaeicoaaDoor.QWi
open Go.RowKit Go.Proofs.YtlpcidjmaeicoaaDoorW.PrintWords Go.Proofs.YtlpcidjmaeicoaaDoorW.PrintLast Go.Proofs.YtlpcidjmaeicoaaDoorW.PrintMore
attribute [local go_sem] max2_int min2_int max_two min_two max_three min_three max_four min_four   -- for this text's walks alone
set_option linter.unusedVariables false
set_option linter.unusedSimpArgs false

/-! ### stanchionlaw16_WireCut: function 6 -/
mutual
def stanchionlaw16_WireCut.j0 : Nat → Int → Bool → ByteArray → ByteArray → Int → Bool → Option (Bool)
  | 0, _, _, _, _, _, _ => none
  | k + 1, x2, x7, x8, x10, x11, x42 => if x42 = true then (if 0 ≤ x2 then (if x2 ≤ (x8.size : Int) then ((wire_TakeReq.f (x8.extract 0 (x2 : Int).toNat)).bind fun bt339 => (if x8.size + 1 ≤ 9223372036854775807 then ((wire_TakeReq.f (x8 ++ (⟨#[48]⟩ : ByteArray))).bind fun bt352 => (if bt339.2.2.2.2.2.2.2.2.2.2.2 = 3 then (if bt352.2.2.2.2.2.2.2.2.2.2.2 = 3 then (stanchionlaw16_WireCut.j1 k x2 x7 x10 x11) else (some false)) else (some false))) else (none))) else (none)) else (none)) else (stanchionlaw16_WireCut.j1 k x2 x7 x10 x11)
def stanchionlaw16_WireCut.j1 : Nat → Int → Bool → ByteArray → Int → Option (Bool)
  | 0, _, _, _, _ => none
  | k + 1, x2, x7, x10, x11 => if x11 = 0 then (if x2 ≥ 0 then (stanchionlaw16_WireCut.j2 k x2 x7 x10 (decide (x2 < (x10.size : Int)))) else (stanchionlaw16_WireCut.j2 k x2 x7 x10 false)) else (stanchionlaw16_WireCut.j2 k x2 x7 x10 false)
def stanchionlaw16_WireCut.j2 : Nat → Int → Bool → ByteArray → Bool → Option (Bool)
  | 0, _, _, _, _ => none
  | k + 1, x2, x7, x10, x73 => if x73 = true then (if 0 ≤ x2 then (if x2 ≤ (x10.size : Int) then ((wire_TakeReply.f (x10.extract 0 (x2 : Int).toNat)).bind fun bt365 => (if x10.size + 1 ≤ 9223372036854775807 then ((wire_TakeReply.f (x10 ++ (⟨#[48]⟩ : ByteArray))).bind fun bt377 => (if bt365.2.2.2.2.2.2.2.2 = 3 then (if bt377.2.2.2.2.2.2.2.2 = 3 then (some x7) else (some false)) else (some false))) else (none))) else (none)) else (none)) else (some x7)
end
def stanchionlaw16_WireCut.f (k : Nat) (a0_0 : Int) (a0_1 : Int) (a0_2 : Int) (a0_3 : Int) (a0_4 : ByteArray) (a0_5 : Int) (a0_6 : ByteArray) (a0_7 : ByteArray) (a0_8 : ByteArray) (a0_9 : ByteArray) (a0_10 : Int) (a1_0 : Int) (a1_1 : Int) (a1_2 : Int) (a1_3 : Int) (a1_4 : ByteArray) (a1_5 : Bool) (l1_6 : List (S74)) (a1_7 : Bool) (a2 : Int) : Option (Bool) := (stanchionlaw16_shown.f k).bind fun t334 => ((wire_Req.f k a0_0 a0_1 a0_2 a0_3 a0_4 a0_5 a0_6 a0_7 a0_8 a0_9 a0_10).bind fun bt335 => ((wire_Reply.f k a1_0 a1_1 a1_2 a1_3 a1_4 a1_5 l1_6 a1_7).bind fun bt337 => (if bt335.2 = 0 then (if a2 ≥ 0 then (stanchionlaw16_WireCut.j0 k a2 t334 bt335.1 bt337.1 bt337.2 (decide (a2 < (bt335.1.size : Int)))) else (stanchionlaw16_WireCut.j0 k a2 t334 bt335.1 bt337.1 bt337.2 false)) else (stanchionlaw16_WireCut.j0 k a2 t334 bt335.1 bt337.1 bt337.2 false))))
set_option maxHeartbeats 8000000 in
set_option maxRecDepth 100000 in
theorem stanchionlaw16_WireCut.calls (k : Nat) (a0_0 : Int) (a0_1 : Int) (a0_2 : Int) (a0_3 : Int) (a0_4 : ByteArray) (a0_5 : Int) (a0_6 : ByteArray) (a0_7 : ByteArray) (a0_8 : ByteArray) (a0_9 : ByteArray) (a0_10 : Int) (a1_0 : Int) (a1_1 : Int) (a1_2 : Int) (a1_3 : Int) (a1_4 : ByteArray) (a1_5 : Bool) (A1_6 : Option Addr) (c1_6 : Nat) (l1_6 : List (S74)) (a1_7 : Bool) (a2 : Int) (r : Bool) (w : World) (hr1_6 : Kd.C k74 w A1_6 l1_6.length l1_6) (hc1_6 : l1_6.length ≤ c1_6) (h : stanchionlaw16_WireCut.f k a0_0 a0_1 a0_2 a0_3 a0_4 a0_5 a0_6 a0_7 a0_8 a0_9 a0_10 a1_0 a1_1 a1_2 a1_3 a1_4 a1_5 l1_6 a1_7 a2 = some r) (hr0 : r = true) (hgl0 : Go.Proofs.YtlpcidjmaeicoaaDoor.Reader.Handle w) :
    Calls Tryd.prog 6 #[.agg #[.int .i64 a0_0, .int .i64 a0_1, .int .i64 a0_2, .int .i64 a0_3, .string a0_4, .int .i64 a0_5, .string a0_6, .string a0_7, .string a0_8, .string a0_9, .int .i64 a0_10], .agg #[.int .i64 a1_0, .int .i64 a1_1, .int .i64 a1_2, .int .i64 a1_3, .string a1_4, .bool a1_5, .slice A1_6 l1_6.length c1_6, .bool a1_7], .int .i64 a2] w fun e w' => e = .returned (.bool r) ∧ Below w.heap.size w w' := by
  have hr := Aside0.mk hr0
  clear hr0
  have HGL := Aside0.mk hgl0
  clear hgl0
  have hu25 := Tryd.underlying25
  have hu41 := Tryd.underlying41
  have HR1_6 := Aside0.mk hr1_6
  have HC1_6 := Aside0.mk hc1_6
  clear hr1_6 hc1_6
  have HB := Aside0.mk (Below.refl w.heap.size w)
  have H : ((stanchionlaw16_shown.f k).bind fun t334 => ((wire_Req.f k a0_0 a0_1 a0_2 a0_3 a0_4 a0_5 a0_6 a0_7 a0_8 a0_9 a0_10).bind fun bt335 => ((wire_Reply.f k a1_0 a1_1 a1_2 a1_3 a1_4 a1_5 l1_6 a1_7).bind fun bt337 => (if bt335.2 = 0 then (if a2 ≥ 0 then (stanchionlaw16_WireCut.j0 k a2 t334 bt335.1 bt337.1 bt337.2 (decide (a2 < (bt335.1.size : Int)))) else (stanchionlaw16_WireCut.j0 k a2 t334 bt335.1 bt337.1 bt337.2 false)) else (stanchionlaw16_WireCut.j0 k a2 t334 bt335.1 bt337.1 bt337.2 false))))) = some r := h
  clear h
  replace H := Option.bind_eq_some_iff.mp H
  obtain ⟨t334, A40, H⟩ := H
  replace H : ((wire_Req.f k a0_0 a0_1 a0_2 a0_3 a0_4 a0_5 a0_6 a0_7 a0_8 a0_9 a0_10).bind fun bt335 => ((wire_Reply.f k a1_0 a1_1 a1_2 a1_3 a1_4 a1_5 l1_6 a1_7).bind fun bt337 => (if bt335.2 = 0 then (if a2 ≥ 0 then (stanchionlaw16_WireCut.j0 k a2 t334 bt335.1 bt337.1 bt337.2 (decide (a2 < (bt335.1.size : Int)))) else (stanchionlaw16_WireCut.j0 k a2 t334 bt335.1 bt337.1 bt337.2 false)) else (stanchionlaw16_WireCut.j0 k a2 t334 bt335.1 bt337.1 bt337.2 false)))) = some r := H
  have A4 := Aside0.mk A40
  clear A40
  replace H := Option.bind_eq_some_iff.mp H
  obtain ⟨⟨t335, t336⟩, A50, H⟩ := H
  replace H : ((wire_Reply.f k a1_0 a1_1 a1_2 a1_3 a1_4 a1_5 l1_6 a1_7).bind fun bt337 => (if t336 = 0 then (if a2 ≥ 0 then (stanchionlaw16_WireCut.j0 k a2 t334 t335 bt337.1 bt337.2 (decide (a2 < (t335.size : Int)))) else (stanchionlaw16_WireCut.j0 k a2 t334 t335 bt337.1 bt337.2 false)) else (stanchionlaw16_WireCut.j0 k a2 t334 t335 bt337.1 bt337.2 false))) = some r := H
  have A5 := Aside0.mk A50
  clear A50
  replace H := Option.bind_eq_some_iff.mp H
  obtain ⟨⟨t337, t338⟩, A60, H⟩ := H
  replace H : (if t336 = 0 then (if a2 ≥ 0 then (stanchionlaw16_WireCut.j0 k a2 t334 t335 t337 t338 (decide (a2 < (t335.size : Int)))) else (stanchionlaw16_WireCut.j0 k a2 t334 t335 t337 t338 false)) else (stanchionlaw16_WireCut.j0 k a2 t334 t335 t337 t338 false)) = some r := H
  have A6 := Aside0.mk A60
  clear A60
  have HC7 := Aside0.mk H
  clear H
  go_enter Tryd.func6, Tryd.ntmps6
  go_upto_region 4 with (first | ((with_reducible refine gate_dst (N := 3) rfl ?_); (try (refine gate_guard (by rfl) ?_; dsimp only)); refine box_event ?hg (N := 3) ?hd (cs := #[.int .i64 a0_0, .int .i64 a0_1, .int .i64 a0_2, .int .i64 a0_3, .string a0_4, .int .i64 a0_5, .string a0_6, .string a0_7, .string a0_8, .string a0_9, .int .i64 a0_10]) (t := 25) ?hr ?_; (case hd => rfl); (case hg => rfl); (case hr => first | (go_simp; done) | (go_simp; rfl)); intro gb332 hg w8 hbox hb; have n0_ := Aside0.mk (below_step (by repeat (first | (with_reducible first | exact HB.out | apply below_alloc | apply pw_below_drewN | apply below_drew1) | exact HB.out)) hb); have n1_ := Aside0.mk (hbox); have n2_ := Aside0.mk ((by rw [hg]; exact (below_size (by repeat (first | (with_reducible first | exact HB.out | apply below_alloc | apply pw_below_drewN | apply below_drew1) | exact HB.out))) : w.heap.size ≤ gb332)); have n3_ := Aside0.mk ((by rw [hg]; exact (below_size (by repeat (first | (with_reducible first | exact HB.out | apply below_alloc | apply pw_below_drewN | apply below_drew1) | exact HB.out))) : w.heap.size ≤ gb332)); clear HB; have HB := n0_; have BK332 := n1_; have GW332 := n2_; have GE332 := n3_; clear n0_ n1_ n2_ n3_; clear hb hbox hg) | ((with_reducible refine gate_dst (N := 4) rfl ?_); (try (refine gate_guard (by rfl) ?_; dsimp only)); refine box_event ?hg (N := 4) ?hd (cs := #[.int .i64 a1_0, .int .i64 a1_1, .int .i64 a1_2, .int .i64 a1_3, .string a1_4, .bool a1_5, .slice A1_6 l1_6.length c1_6, .bool a1_7]) (t := 41) ?hr ?_; (case hd => rfl); (case hg => rfl); (case hr => first | (go_simp; done) | (go_simp; rfl)); intro gb333 hg w9 hbox hb; have n0_ := Aside0.mk (blk_below (g := gb332) (o := .cells #[.int .i64 a0_0, .int .i64 a0_1, .int .i64 a0_2, .int .i64 a0_3, .string a0_4, .int .i64 a0_5, .string a0_6, .string a0_7, .string a0_8, .string a0_9, .int .i64 a0_10] 25 (0, 0)) (by (with_reducible repeat (first | refine blk_drewN ?_ _ | refine blk_drew ?_ | refine blk_alloc ?_ _)); exact BK332.out) hb); have n1_ := Aside0.mk (below_step (by repeat (first | (with_reducible first | exact HB.out | apply below_alloc | apply pw_below_drewN | apply below_drew1 | refine below_set ?_ GE332.out) | exact HB.out)) hb); have n2_ := Aside0.mk (hbox); have n3_ := Aside0.mk ((by rw [hg]; exact (below_size (by repeat (first | (with_reducible first | exact HB.out | apply below_alloc | apply pw_below_drewN | apply below_drew1 | refine below_set ?_ GE332.out) | exact HB.out))) : w.heap.size ≤ gb333)); have n4_ := Aside0.mk ((by rw [hg]; exact (below_size (by repeat (first | (with_reducible first | exact HB.out | apply below_alloc | apply pw_below_drewN | apply below_drew1 | refine below_set ?_ GE332.out) | exact HB.out))) : w.heap.size ≤ gb333)); have n5_ := Aside0.mk ((by rw [hg]; exact Nat.ne_of_lt (blk_lt (g := gb332) (o := .cells #[.int .i64 a0_0, .int .i64 a0_1, .int .i64 a0_2, .int .i64 a0_3, .string a0_4, .int .i64 a0_5, .string a0_6, .string a0_7, .string a0_8, .string a0_9, .int .i64 a0_10] 25 (0, 0)) (by (with_reducible repeat (first | refine blk_drewN ?_ _ | refine blk_drew ?_ | refine blk_alloc ?_ _)); exact BK332.out)) : gb332 ≠ gb333)); have n6_ := Aside0.mk ((by rw [hg]; exact Nat.ne_of_gt (blk_lt (g := gb332) (o := .cells #[.int .i64 a0_0, .int .i64 a0_1, .int .i64 a0_2, .int .i64 a0_3, .string a0_4, .int .i64 a0_5, .string a0_6, .string a0_7, .string a0_8, .string a0_9, .int .i64 a0_10] 25 (0, 0)) (by (with_reducible repeat (first | refine blk_drewN ?_ _ | refine blk_drew ?_ | refine blk_alloc ?_ _)); exact BK332.out)) : gb333 ≠ gb332)); clear BK332; clear HB; have BK332 := n0_; have HB := n1_; have BK333 := n2_; have GW333 := n3_; have GE333 := n4_; have NB332_333 := n5_; have NB333_332 := n6_; clear n0_ n1_ n2_ n3_ n4_ n5_ n6_; clear hb hbox hg) | ((with_reducible refine gate_callee (f := 8) rfl ?_); refine goesL_ (some 20) rfl rfl Tryd.func8 (by kernel_rfl) rfl #[] rfl (by (try simp only [List.map_toArray, List.map_cons, List.map_nil]); first | done | rfl | (simp only [List.length_drop, List.length_take]; rfl)) ?_; (with_reducible refine (stanchionlaw16_shown.calls k  t334 _ A4.out).mono ?_); rintro e w10 ⟨rfl, hb⟩; refine ⟨_, rfl, ?_⟩; have n0_ := Aside0.mk (blk_below (g := gb332) (o := .cells #[.int .i64 a0_0, .int .i64 a0_1, .int .i64 a0_2, .int .i64 a0_3, .string a0_4, .int .i64 a0_5, .string a0_6, .string a0_7, .string a0_8, .string a0_9, .int .i64 a0_10] 25 (0, 0)) (by (with_reducible repeat (first | refine blk_drewN ?_ _ | refine blk_drew ?_ | refine blk_alloc ?_ _)); exact BK332.out) hb); have n1_ := Aside0.mk (blk_below (g := gb333) (o := .cells #[.int .i64 a1_0, .int .i64 a1_1, .int .i64 a1_2, .int .i64 a1_3, .string a1_4, .bool a1_5, .slice A1_6 l1_6.length c1_6, .bool a1_7] 41 (0, 0)) (by (with_reducible repeat (first | refine blk_drewN ?_ _ | refine blk_drew ?_ | refine blk_alloc ?_ _)); exact BK333.out) hb); have n2_ := Aside0.mk (below_step (by repeat (first | (with_reducible first | exact HB.out | apply below_alloc | apply pw_below_drewN | apply below_drew1 | refine below_set ?_ GE332.out | refine below_set ?_ GE333.out) | exact HB.out)) hb); clear BK332; clear BK333; clear HB; have BK332 := n0_; have BK333 := n1_; have HB := n2_; clear n0_ n1_ n2_; (try clear hb); (try clear hb2); (try clear hk); (try clear hi); have hnb11 := NB332_333.out; have hnc11 := NB333_332.out; have hcz12_0 : w10.cell? ⟨gb332, 0, none⟩ = some (.int .i64 a0_0) := (blk_cell BK332.out 0).trans rfl; have hcz12_1 : w10.cell? ⟨gb332, 1, none⟩ = some (.int .i64 a0_1) := (blk_cell BK332.out 1).trans rfl; have hcz12_2 : w10.cell? ⟨gb332, 2, none⟩ = some (.int .i64 a0_2) := (blk_cell BK332.out 2).trans rfl; have hcz12_3 : w10.cell? ⟨gb332, 3, none⟩ = some (.int .i64 a0_3) := (blk_cell BK332.out 3).trans rfl; have hcz12_4 : w10.cell? ⟨gb332, 4, none⟩ = some (.string a0_4) := (blk_cell BK332.out 4).trans rfl; have hcz12_5 : w10.cell? ⟨gb332, 5, none⟩ = some (.int .i64 a0_5) := (blk_cell BK332.out 5).trans rfl; have hcz12_6 : w10.cell? ⟨gb332, 6, none⟩ = some (.string a0_6) := (blk_cell BK332.out 6).trans rfl; have hcz12_7 : w10.cell? ⟨gb332, 7, none⟩ = some (.string a0_7) := (blk_cell BK332.out 7).trans rfl; have hcz12_8 : w10.cell? ⟨gb332, 8, none⟩ = some (.string a0_8) := (blk_cell BK332.out 8).trans rfl; have hcz12_9 : w10.cell? ⟨gb332, 9, none⟩ = some (.string a0_9) := (blk_cell BK332.out 9).trans rfl; have hcz12_10 : w10.cell? ⟨gb332, 10, none⟩ = some (.int .i64 a0_10) := (blk_cell BK332.out 10).trans rfl; have hfz12_0 := blk_frozen BK332.out 0; have hfz12_1 := blk_frozen BK332.out 1; have hfz12_2 := blk_frozen BK332.out 2; have hfz12_3 := blk_frozen BK332.out 3; have hfz12_4 := blk_frozen BK332.out 4; have hfz12_5 := blk_frozen BK332.out 5; have hfz12_6 := blk_frozen BK332.out 6; have hfz12_7 := blk_frozen BK332.out 7; have hfz12_8 := blk_frozen BK332.out 8; have hfz12_9 := blk_frozen BK332.out 9; have hfz12_10 := blk_frozen BK332.out 10) | ((with_reducible refine gate_callee (f := 9) rfl ?_); refine goesL_ (some 23) rfl rfl Tryd.func9 (by kernel_rfl) rfl #[.agg #[.int .i64 a0_0, .int .i64 a0_1, .int .i64 a0_2, .int .i64 a0_3, .string a0_4, .int .i64 a0_5, .string a0_6, .string a0_7, .string a0_8, .string a0_9, .int .i64 a0_10]] rfl (by (try simp only [List.map_toArray, List.map_cons, List.map_nil]); first | done | rfl | (simp only [List.length_drop, List.length_take]; rfl)) ?_; (with_reducible refine (wire_Req.calls k a0_0 a0_1 a0_2 a0_3 a0_4 a0_5 a0_6 a0_7 a0_8 a0_9 a0_10 t335 t336 _ A5.out).mono ?_); rintro e w13 ⟨rfl, hb⟩; refine ⟨_, rfl, ?_⟩; have n0_ := Aside0.mk (blk_below (g := gb332) (o := .cells #[.int .i64 a0_0, .int .i64 a0_1, .int .i64 a0_2, .int .i64 a0_3, .string a0_4, .int .i64 a0_5, .string a0_6, .string a0_7, .string a0_8, .string a0_9, .int .i64 a0_10] 25 (0, 0)) (by (with_reducible repeat (first | refine blk_drewN ?_ _ | refine blk_drew ?_ | refine blk_alloc ?_ _)); exact BK332.out) hb); have n1_ := Aside0.mk (blk_below (g := gb333) (o := .cells #[.int .i64 a1_0, .int .i64 a1_1, .int .i64 a1_2, .int .i64 a1_3, .string a1_4, .bool a1_5, .slice A1_6 l1_6.length c1_6, .bool a1_7] 41 (0, 0)) (by (with_reducible repeat (first | refine blk_drewN ?_ _ | refine blk_drew ?_ | refine blk_alloc ?_ _)); exact BK333.out) hb); have n2_ := Aside0.mk (below_step (by repeat (first | (with_reducible first | exact HB.out | apply below_alloc | apply pw_below_drewN | apply below_drew1 | refine below_set ?_ GE332.out | refine below_set ?_ GE333.out) | exact HB.out)) hb); clear BK332; clear BK333; clear HB; have BK332 := n0_; have BK333 := n1_; have HB := n2_; clear n0_ n1_ n2_; (try clear hb); (try clear hb2); (try clear hk); (try clear hi); have hcz14_0 : w13.cell? ⟨gb333, 0, none⟩ = some (.int .i64 a1_0) := (blk_cell BK333.out 0).trans rfl; have hcz14_1 : w13.cell? ⟨gb333, 1, none⟩ = some (.int .i64 a1_1) := (blk_cell BK333.out 1).trans rfl; have hcz14_2 : w13.cell? ⟨gb333, 2, none⟩ = some (.int .i64 a1_2) := (blk_cell BK333.out 2).trans rfl; have hcz14_3 : w13.cell? ⟨gb333, 3, none⟩ = some (.int .i64 a1_3) := (blk_cell BK333.out 3).trans rfl; have hcz14_4 : w13.cell? ⟨gb333, 4, none⟩ = some (.string a1_4) := (blk_cell BK333.out 4).trans rfl; have hcz14_5 : w13.cell? ⟨gb333, 5, none⟩ = some (.bool a1_5) := (blk_cell BK333.out 5).trans rfl; have hcz14_6 : w13.cell? ⟨gb333, 6, none⟩ = some (.slice A1_6 l1_6.length c1_6) := (blk_cell BK333.out 6).trans rfl; have hcz14_7 : w13.cell? ⟨gb333, 7, none⟩ = some (.bool a1_7) := (blk_cell BK333.out 7).trans rfl; have hfz14_0 := blk_frozen BK333.out 0; have hfz14_1 := blk_frozen BK333.out 1; have hfz14_2 := blk_frozen BK333.out 2; have hfz14_3 := blk_frozen BK333.out 3; have hfz14_4 := blk_frozen BK333.out 4; have hfz14_5 := blk_frozen BK333.out 5; have hfz14_6 := blk_frozen BK333.out 6; have hfz14_7 := blk_frozen BK333.out 7) | ((with_reducible refine gate_callee (f := 15) rfl ?_); refine goesL_ (some 28) rfl rfl Tryd.func15 (by kernel_rfl) rfl #[.agg #[.int .i64 a1_0, .int .i64 a1_1, .int .i64 a1_2, .int .i64 a1_3, .string a1_4, .bool a1_5, .slice A1_6 l1_6.length c1_6, .bool a1_7]] rfl (by (try simp only [List.map_toArray, List.map_cons, List.map_nil]); first | done | rfl | (simp only [List.length_drop, List.length_take]; rfl)) ?_; (with_reducible refine (wire_Reply.calls k a1_0 a1_1 a1_2 a1_3 a1_4 a1_5 _ _ l1_6 a1_7 t337 t338 _ ?side1 ?side2 A6.out).mono ?_); (case side1 => repeat (first | exact (Kd.C_below HR1_6.out HB.out) | (with_reducible refine Kd.C_alloc ?_ _) | (with_reducible refine Kd.C_drewN ?_ _) | (with_reducible refine Kd.C_drew ?_))); (case side2 => exact HC1_6.out); rintro e w15 ⟨rfl, hb⟩; refine ⟨_, rfl, ?_⟩; have n0_ := Aside0.mk (blk_below (g := gb332) (o := .cells #[.int .i64 a0_0, .int .i64 a0_1, .int .i64 a0_2, .int .i64 a0_3, .string a0_4, .int .i64 a0_5, .string a0_6, .string a0_7, .string a0_8, .string a0_9, .int .i64 a0_10] 25 (0, 0)) (by (with_reducible repeat (first | refine blk_drewN ?_ _ | refine blk_drew ?_ | refine blk_alloc ?_ _)); exact BK332.out) hb); have n1_ := Aside0.mk (blk_below (g := gb333) (o := .cells #[.int .i64 a1_0, .int .i64 a1_1, .int .i64 a1_2, .int .i64 a1_3, .string a1_4, .bool a1_5, .slice A1_6 l1_6.length c1_6, .bool a1_7] 41 (0, 0)) (by (with_reducible repeat (first | refine blk_drewN ?_ _ | refine blk_drew ?_ | refine blk_alloc ?_ _)); exact BK333.out) hb); have n2_ := Aside0.mk (below_step (by repeat (first | (with_reducible first | exact HB.out | apply below_alloc | apply pw_below_drewN | apply below_drew1 | refine below_set ?_ GE332.out | refine below_set ?_ GE333.out) | exact HB.out)) hb); clear BK332; clear BK333; clear HB; have BK332 := n0_; have BK333 := n1_; have HB := n2_; clear n0_ n1_ n2_; (try clear hb); (try clear hb2); (try clear hk); (try clear hi)))
  (try simp only [Act.put, List.setIfInBounds_toArray, List.set_cons_zero, List.set_cons_succ])
  go_cut [42] (fun v42 wc => ∃ (kq : Nat) (x42_6 : Bool), v42 = .bool x42_6 ∧ Aside0 (stanchionlaw16_WireCut.j0 kq a2 t334 t335 t337 t338 x42_6 = some r) ∧ Aside0 (kq ≤ k) ∧ Aside0 (wc.heap[gb332]? = some (.cells #[.int .i64 a0_0, .int .i64 a0_1, .int .i64 a0_2, .int .i64 a0_3, .string a0_4, .int .i64 a0_5, .string a0_6, .string a0_7, .string a0_8, .string a0_9, .int .i64 a0_10] 25 (0, 0))) ∧ Aside0 (wc.heap[gb333]? = some (.cells #[.int .i64 a1_0, .int .i64 a1_1, .int .i64 a1_2, .int .i64 a1_3, .string a1_4, .bool a1_5, (.slice A1_6 l1_6.length c1_6), .bool a1_7] 41 (0, 0))) ∧ Aside0 (Below w.heap.size w wc))
  case first =>
    have H := HC7.out
    clear HC7
    by_cases c16 : t336 = 0
    · rw [if_pos c16] at H
      have c16b0 : (t336 == 0) = true := beq_iff_eq.mpr c16
      have c16b1 : (t336 != 0) = false := bne_eq_false_iff_eq.mpr c16
      clear c16
      (first | rw [c16b0] | (simp only [i64_w, i32_w]; rw [c16b0]) | skip)
      by_cases c17 : a2 ≥ 0
      · rw [if_pos c17] at H
        have c17b0 : decide (0 ≤ a2) = true := decide_eq_true c17
        clear c17
        have H' := Aside0.mk H
        clear H
        go_wp2
        go_meet
        case rel => exact ⟨_, (decide (a2 < (t335.size : Int))), (by first | rfl | (simp; done) | (simp [*]; done)), H', ⟨by first | omega | exact Nat.le_refl _⟩, ⟨by (with_reducible repeat (first | refine blk_drewN ?_ _ | refine blk_drew ?_ | refine blk_alloc ?_ _)); exact BK332.out⟩, ⟨by (with_reducible repeat (first | refine blk_drewN ?_ _ | refine blk_drew ?_ | refine blk_alloc ?_ _)); exact BK333.out⟩, ⟨by repeat (first | (with_reducible first | exact HB.out | apply below_alloc | apply pw_below_drewN | apply below_drew1 | refine below_set ?_ GE332.out | refine below_set ?_ GE333.out) | exact HB.out)⟩⟩
      · rw [if_neg c17] at H
        have c17b0 : decide (0 ≤ a2) = false := decide_eq_false c17
        clear c17
        have H' := Aside0.mk H
        clear H
        go_wp2
        go_meet
        case rel => exact ⟨_, (false), (by first | rfl | (simp; done) | (simp [*]; done)), H', ⟨by first | omega | exact Nat.le_refl _⟩, ⟨by (with_reducible repeat (first | refine blk_drewN ?_ _ | refine blk_drew ?_ | refine blk_alloc ?_ _)); exact BK332.out⟩, ⟨by (with_reducible repeat (first | refine blk_drewN ?_ _ | refine blk_drew ?_ | refine blk_alloc ?_ _)); exact BK333.out⟩, ⟨by repeat (first | (with_reducible first | exact HB.out | apply below_alloc | apply pw_below_drewN | apply below_drew1 | refine below_set ?_ GE332.out | refine below_set ?_ GE333.out) | exact HB.out)⟩⟩
    · rw [if_neg c16] at H
      have c16b0 : (t336 == 0) = false := beq_eq_false_iff_ne.mpr c16
      have c16b1 : (t336 != 0) = true := bne_iff_ne.mpr c16
      (first | rw [c16b0] | (simp only [i64_w, i32_w]; rw [c16b0]) | skip)
      have H' := Aside0.mk H
      clear H
      go_wp2
      go_meet
      case rel => exact ⟨_, (false), (by first | rfl | (simp; done) | (simp [*]; done)), H', ⟨by first | omega | exact Nat.le_refl _⟩, ⟨by (with_reducible repeat (first | refine blk_drewN ?_ _ | refine blk_drew ?_ | refine blk_alloc ?_ _)); exact BK332.out⟩, ⟨by (with_reducible repeat (first | refine blk_drewN ?_ _ | refine blk_drew ?_ | refine blk_alloc ?_ _)); exact BK333.out⟩, ⟨by repeat (first | (with_reducible first | exact HB.out | apply below_alloc | apply pw_below_drewN | apply below_drew1 | refine below_set ?_ GE332.out | refine below_set ?_ GE333.out) | exact HB.out)⟩⟩
  case rest =>
    clear HC7
    try clear c1
    try clear p2
    try clear c6
    try clear c8
    try clear c9
    try clear c11
    try clear c15
    try clear c16
    try clear c16b0
    try clear c16b1
    try clear c17
    try clear c17b0
    try clear hcz12_0
    try clear hcz12_1
    try clear hcz12_10
    try clear hcz12_2
    try clear hcz12_3
    try clear hcz12_4
    try clear hcz12_5
    try clear hcz12_6
    try clear hcz12_7
    try clear hcz12_8
    try clear hcz12_9
    try clear hcz14_0
    try clear hcz14_1
    try clear hcz14_2
    try clear hcz14_3
    try clear hcz14_4
    try clear hcz14_5
    try clear hcz14_6
    try clear hcz14_7
    try clear hfz12_0
    try clear hfz12_1
    try clear hfz12_10
    try clear hfz12_2
    try clear hfz12_3
    try clear hfz12_4
    try clear hfz12_5
    try clear hfz12_6
    try clear hfz12_7
    try clear hfz12_8
    try clear hfz12_9
    try clear hfz14_0
    try clear hfz14_1
    try clear hfz14_2
    try clear hfz14_3
    try clear hfz14_4
    try clear hfz14_5
    try clear hfz14_6
    try clear hfz14_7
    obtain ⟨kq, x42_6, rfl, HA, HJ6, BK332, BK333, HB⟩ := hcut
    cases kq with
    | zero => exact absurd HA.out (by simp [stanchionlaw16_WireCut.j0])
    | succ kj6 =>
      have H := HA.out
      clear HA
      simp only [stanchionlaw16_WireCut.j0] at H
      have HC18 := Aside0.mk H
      clear H
      go_upto_if 42 with (fail)
      go_cut [] (fun wc => ∃ (kq : Nat), Aside0 (stanchionlaw16_WireCut.j1 kq a2 t334 t337 t338 = some r) ∧ Aside0 (kq ≤ kj6) ∧ Aside0 (wc.heap[gb332]? = some (.cells #[.int .i64 a0_0, .int .i64 a0_1, .int .i64 a0_2, .int .i64 a0_3, .string a0_4, .int .i64 a0_5, .string a0_6, .string a0_7, .string a0_8, .string a0_9, .int .i64 a0_10] 25 (0, 0))) ∧ Aside0 (wc.heap[gb333]? = some (.cells #[.int .i64 a1_0, .int .i64 a1_1, .int .i64 a1_2, .int .i64 a1_3, .string a1_4, .bool a1_5, (.slice A1_6 l1_6.length c1_6), .bool a1_7] 41 (0, 0))) ∧ Aside0 (Below w.heap.size w wc))
      case first =>
        have H := HC18.out
        clear HC18
        by_cases c19 : x42_6 = true
        · subst c19
          have H1 : (if 0 ≤ a2 then (if a2 ≤ (t335.size : Int) then ((wire_TakeReq.f (t335.extract 0 (a2 : Int).toNat)).bind fun bt339 => (if t335.size + 1 ≤ 9223372036854775807 then ((wire_TakeReq.f (t335 ++ (⟨#[48]⟩ : ByteArray))).bind fun bt352 => (if bt339.2.2.2.2.2.2.2.2.2.2.2 = 3 then (if bt352.2.2.2.2.2.2.2.2.2.2.2 = 3 then (stanchionlaw16_WireCut.j1 kj6 a2 t334 t337 t338) else (some false)) else (some false))) else (none))) else (none)) else (none)) = some r := by rw [if_pos rfl] at H; exact H
          clear H
          have H := H1
          clear H1
          by_cases c20 : 0 ≤ a2
          · rw [if_pos c20] at H
            have c20b0 := eq_true c20
            have c20b1 : decide (0 ≤ a2) = true := decide_eq_true c20
            clear c20
            by_cases c21 : a2 ≤ (t335.size : Int)
            · rw [if_pos c21] at H
              have c21b0 := eq_true c21
              have c21b1 : decide (a2 ≤ (t335.size : Int)) = true := decide_eq_true c21
              clear c21
              replace H := Option.bind_eq_some_iff.mp H
              obtain ⟨⟨t339, t340, t341, t342, t343, t344, t345, t346, t347, t348, t349, t350⟩, A220, H⟩ := H
              replace H : (if t335.size + 1 ≤ 9223372036854775807 then ((wire_TakeReq.f (t335 ++ (⟨#[48]⟩ : ByteArray))).bind fun bt352 => (if t350 = 3 then (if bt352.2.2.2.2.2.2.2.2.2.2.2 = 3 then (stanchionlaw16_WireCut.j1 kj6 a2 t334 t337 t338) else (some false)) else (some false))) else (none)) = some r := H
              have A22 := Aside0.mk A220
              clear A220
              by_cases c23 : t335.size + 1 ≤ 9223372036854775807
              · rw [if_pos c23] at H
                have c23b0 := eq_true c23
                have c23b1 : decide (t335.size + 1 ≤ 9223372036854775807) = true := decide_eq_true c23
                try have c23b2 : (9223372036854775807 < t335.size + 1) = False := eq_false (Nat.not_lt.2 c23)
                replace H := Option.bind_eq_some_iff.mp H
                obtain ⟨⟨t352, t353, t354, t355, t356, t357, t358, t359, t360, t361, t362, t363⟩, A240, H⟩ := H
                replace H : (if t350 = 3 then (if t363 = 3 then (stanchionlaw16_WireCut.j1 kj6 a2 t334 t337 t338) else (some false)) else (some false)) = some r := H
                have A24 := Aside0.mk A240
                clear A240
                by_cases c25 : t350 = 3
                · rw [if_pos c25] at H
                  have c25b0 : (t350 == 3) = true := beq_iff_eq.mpr c25
                  have c25b1 : (t350 != 3) = false := bne_eq_false_iff_eq.mpr c25
                  clear c25
                  (first | rw [c25b0] | (simp only [i64_w, i32_w]; rw [c25b0]) | skip)
                  by_cases c26 : t363 = 3
                  · rw [if_pos c26] at H
                    have c26b0 : (t363 == 3) = true := beq_iff_eq.mpr c26
                    have c26b1 : (t363 != 3) = false := bne_eq_false_iff_eq.mpr c26
                    clear c26
                    have H' := Aside0.mk H
                    clear H
                    go_wp2_with (first | ((with_reducible refine gate_callee (f := 11) rfl ?_); refine goesL_ (some 47) rfl rfl Tryd.func11 (by kernel_rfl) rfl #[.string (t335.extract 0 (a2 : Int).toNat)] rfl (by (try simp only [List.map_toArray, List.map_cons, List.map_nil]); first | done | rfl | (simp only [List.length_drop, List.length_take]; rfl)) ?_; (with_reducible refine (wire_TakeReq.calls (t335.extract 0 (a2 : Int).toNat) t339 t340 t341 t342 t343 t344 t345 t346 t347 t348 t349 t350 _ A22.out (handle_at HGL.out (by repeat (first | (with_reducible first | exact HB.out | apply below_alloc | apply pw_below_drewN | apply below_drew1 | refine below_set ?_ GE332.out | refine below_set ?_ GE333.out) | exact HB.out)))).mono ?_); rintro e w27 ⟨rfl, hb⟩; refine ⟨_, rfl, ?_⟩; have n0_ := Aside0.mk (blk_below (g := gb332) (o := .cells #[.int .i64 a0_0, .int .i64 a0_1, .int .i64 a0_2, .int .i64 a0_3, .string a0_4, .int .i64 a0_5, .string a0_6, .string a0_7, .string a0_8, .string a0_9, .int .i64 a0_10] 25 (0, 0)) (by (with_reducible repeat (first | refine blk_drewN ?_ _ | refine blk_drew ?_ | refine blk_alloc ?_ _)); exact BK332.out) hb); have n1_ := Aside0.mk (blk_below (g := gb333) (o := .cells #[.int .i64 a1_0, .int .i64 a1_1, .int .i64 a1_2, .int .i64 a1_3, .string a1_4, .bool a1_5, .slice A1_6 l1_6.length c1_6, .bool a1_7] 41 (0, 0)) (by (with_reducible repeat (first | refine blk_drewN ?_ _ | refine blk_drew ?_ | refine blk_alloc ?_ _)); exact BK333.out) hb); have n2_ := Aside0.mk (below_step (by repeat (first | (with_reducible first | exact HB.out | apply below_alloc | apply pw_below_drewN | apply below_drew1 | refine below_set ?_ GE332.out | refine below_set ?_ GE333.out) | exact HB.out)) hb); clear BK332; clear BK333; clear HB; have BK332 := n0_; have BK333 := n1_; have HB := n2_; clear n0_ n1_ n2_; (try clear hb); (try clear hb2); (try clear hk); (try clear hi)) | ((with_reducible refine gate_dst (N := 12) rfl ?_); (try (refine gate_guard (by rfl) ?_; dsimp only)); refine box_event ?hg (N := 12) ?hd (cs := #[.int .i64 0, .int .i64 0, .int .i64 0, .int .i64 0, .string (⟨#[]⟩ : ByteArray), .int .i64 0, .string (⟨#[]⟩ : ByteArray), .string (⟨#[]⟩ : ByteArray), .string (⟨#[]⟩ : ByteArray), .string (⟨#[]⟩ : ByteArray), .int .i64 0]) (t := 25) ?hr ?_; (case hd => rfl); (case hg => rfl); (case hr => first | (go_simp; done) | (go_simp; rfl)); intro gb351 hg w28 hbox hb; have n0_ := Aside0.mk (blk_below (g := gb332) (o := .cells #[.int .i64 a0_0, .int .i64 a0_1, .int .i64 a0_2, .int .i64 a0_3, .string a0_4, .int .i64 a0_5, .string a0_6, .string a0_7, .string a0_8, .string a0_9, .int .i64 a0_10] 25 (0, 0)) (by (with_reducible repeat (first | refine blk_drewN ?_ _ | refine blk_drew ?_ | refine blk_alloc ?_ _)); exact BK332.out) hb); have n1_ := Aside0.mk (blk_below (g := gb333) (o := .cells #[.int .i64 a1_0, .int .i64 a1_1, .int .i64 a1_2, .int .i64 a1_3, .string a1_4, .bool a1_5, .slice A1_6 l1_6.length c1_6, .bool a1_7] 41 (0, 0)) (by (with_reducible repeat (first | refine blk_drewN ?_ _ | refine blk_drew ?_ | refine blk_alloc ?_ _)); exact BK333.out) hb); have n2_ := Aside0.mk (below_step (by repeat (first | (with_reducible first | exact HB.out | apply below_alloc | apply pw_below_drewN | apply below_drew1 | refine below_set ?_ GE332.out | refine below_set ?_ GE333.out) | exact HB.out)) hb); have n3_ := Aside0.mk (hbox); have n4_ := Aside0.mk ((by rw [hg]; exact (below_size (by repeat (first | (with_reducible first | exact HB.out | apply below_alloc | apply pw_below_drewN | apply below_drew1 | refine below_set ?_ GE332.out | refine below_set ?_ GE333.out) | exact HB.out))) : w.heap.size ≤ gb351)); have n5_ := Aside0.mk ((by rw [hg]; exact (below_size (by repeat (first | (with_reducible first | exact HB.out | apply below_alloc | apply pw_below_drewN | apply below_drew1 | refine below_set ?_ GE332.out | refine below_set ?_ GE333.out) | exact HB.out))) : w.heap.size ≤ gb351)); have n6_ := Aside0.mk ((by rw [hg]; exact Nat.ne_of_lt (blk_lt (g := gb332) (o := .cells #[.int .i64 a0_0, .int .i64 a0_1, .int .i64 a0_2, .int .i64 a0_3, .string a0_4, .int .i64 a0_5, .string a0_6, .string a0_7, .string a0_8, .string a0_9, .int .i64 a0_10] 25 (0, 0)) (by (with_reducible repeat (first | refine blk_drewN ?_ _ | refine blk_drew ?_ | refine blk_alloc ?_ _)); exact BK332.out)) : gb332 ≠ gb351)); have n7_ := Aside0.mk ((by rw [hg]; exact Nat.ne_of_gt (blk_lt (g := gb332) (o := .cells #[.int .i64 a0_0, .int .i64 a0_1, .int .i64 a0_2, .int .i64 a0_3, .string a0_4, .int .i64 a0_5, .string a0_6, .string a0_7, .string a0_8, .string a0_9, .int .i64 a0_10] 25 (0, 0)) (by (with_reducible repeat (first | refine blk_drewN ?_ _ | refine blk_drew ?_ | refine blk_alloc ?_ _)); exact BK332.out)) : gb351 ≠ gb332)); have n8_ := Aside0.mk ((by rw [hg]; exact Nat.ne_of_lt (blk_lt (g := gb333) (o := .cells #[.int .i64 a1_0, .int .i64 a1_1, .int .i64 a1_2, .int .i64 a1_3, .string a1_4, .bool a1_5, .slice A1_6 l1_6.length c1_6, .bool a1_7] 41 (0, 0)) (by (with_reducible repeat (first | refine blk_drewN ?_ _ | refine blk_drew ?_ | refine blk_alloc ?_ _)); exact BK333.out)) : gb333 ≠ gb351)); have n9_ := Aside0.mk ((by rw [hg]; exact Nat.ne_of_gt (blk_lt (g := gb333) (o := .cells #[.int .i64 a1_0, .int .i64 a1_1, .int .i64 a1_2, .int .i64 a1_3, .string a1_4, .bool a1_5, .slice A1_6 l1_6.length c1_6, .bool a1_7] 41 (0, 0)) (by (with_reducible repeat (first | refine blk_drewN ?_ _ | refine blk_drew ?_ | refine blk_alloc ?_ _)); exact BK333.out)) : gb351 ≠ gb333)); clear BK332; clear BK333; clear HB; have BK332 := n0_; have BK333 := n1_; have HB := n2_; have BK351 := n3_; have GW351 := n4_; have GE351 := n5_; have NB332_351 := n6_; have NB351_332 := n7_; have NB333_351 := n8_; have NB351_333 := n9_; clear n0_ n1_ n2_ n3_ n4_ n5_ n6_ n7_ n8_ n9_; clear hb hbox hg; have hnb29 := NB351_332.out; have hnc29 := NB332_351.out; have hnb30 := NB351_333.out; have hnc30 := NB333_351.out; have hcz31_0 : w28.cell? ⟨gb351, 0, none⟩ = some (.int .i64 0) := (blk_cell BK351.out 0).trans rfl; have hcz31_1 : w28.cell? ⟨gb351, 1, none⟩ = some (.int .i64 0) := (blk_cell BK351.out 1).trans rfl; have hcz31_2 : w28.cell? ⟨gb351, 2, none⟩ = some (.int .i64 0) := (blk_cell BK351.out 2).trans rfl; have hcz31_3 : w28.cell? ⟨gb351, 3, none⟩ = some (.int .i64 0) := (blk_cell BK351.out 3).trans rfl; have hcz31_4 : w28.cell? ⟨gb351, 4, none⟩ = some (.string (⟨#[]⟩ : ByteArray)) := (blk_cell BK351.out 4).trans rfl; have hcz31_5 : w28.cell? ⟨gb351, 5, none⟩ = some (.int .i64 0) := (blk_cell BK351.out 5).trans rfl; have hcz31_6 : w28.cell? ⟨gb351, 6, none⟩ = some (.string (⟨#[]⟩ : ByteArray)) := (blk_cell BK351.out 6).trans rfl; have hcz31_7 : w28.cell? ⟨gb351, 7, none⟩ = some (.string (⟨#[]⟩ : ByteArray)) := (blk_cell BK351.out 7).trans rfl; have hcz31_8 : w28.cell? ⟨gb351, 8, none⟩ = some (.string (⟨#[]⟩ : ByteArray)) := (blk_cell BK351.out 8).trans rfl; have hcz31_9 : w28.cell? ⟨gb351, 9, none⟩ = some (.string (⟨#[]⟩ : ByteArray)) := (blk_cell BK351.out 9).trans rfl; have hcz31_10 : w28.cell? ⟨gb351, 10, none⟩ = some (.int .i64 0) := (blk_cell BK351.out 10).trans rfl; have hfz31_0 := blk_frozen BK351.out 0; have hfz31_1 := blk_frozen BK351.out 1; have hfz31_2 := blk_frozen BK351.out 2; have hfz31_3 := blk_frozen BK351.out 3; have hfz31_4 := blk_frozen BK351.out 4; have hfz31_5 := blk_frozen BK351.out 5; have hfz31_6 := blk_frozen BK351.out 6; have hfz31_7 := blk_frozen BK351.out 7; have hfz31_8 := blk_frozen BK351.out 8; have hfz31_9 := blk_frozen BK351.out 9; have hfz31_10 := blk_frozen BK351.out 10) | ((with_reducible refine gate_callee (f := 11) rfl ?_); refine goesL_ (some 53) rfl rfl Tryd.func11 (by kernel_rfl) rfl #[.string (t335 ++ (⟨#[48]⟩ : ByteArray))] rfl (by (try simp only [List.map_toArray, List.map_cons, List.map_nil]); first | done | rfl | (simp only [List.length_drop, List.length_take]; rfl)) ?_; (with_reducible refine (wire_TakeReq.calls (t335 ++ (⟨#[48]⟩ : ByteArray)) t352 t353 t354 t355 t356 t357 t358 t359 t360 t361 t362 t363 _ A24.out (handle_at HGL.out (by repeat (first | (with_reducible first | exact HB.out | apply below_alloc | apply pw_below_drewN | apply below_drew1 | refine below_set ?_ GE332.out | refine below_set ?_ GE333.out | refine below_set ?_ GE351.out) | exact HB.out)))).mono ?_); rintro e w32 ⟨rfl, hb⟩; refine ⟨_, rfl, ?_⟩; have n0_ := Aside0.mk (blk_below (g := gb332) (o := .cells #[.int .i64 a0_0, .int .i64 a0_1, .int .i64 a0_2, .int .i64 a0_3, .string a0_4, .int .i64 a0_5, .string a0_6, .string a0_7, .string a0_8, .string a0_9, .int .i64 a0_10] 25 (0, 0)) (by (with_reducible repeat (first | refine blk_drewN ?_ _ | refine blk_drew ?_ | refine blk_alloc ?_ _)); refine blk_far ?_ NB332_351.out _; (with_reducible repeat (first | refine blk_drewN ?_ _ | refine blk_drew ?_ | refine blk_alloc ?_ _)); refine blk_far ?_ NB332_351.out _; (with_reducible repeat (first | refine blk_drewN ?_ _ | refine blk_drew ?_ | refine blk_alloc ?_ _)); refine blk_far ?_ NB332_351.out _; (with_reducible repeat (first | refine blk_drewN ?_ _ | refine blk_drew ?_ | refine blk_alloc ?_ _)); refine blk_far ?_ NB332_351.out _; (with_reducible repeat (first | refine blk_drewN ?_ _ | refine blk_drew ?_ | refine blk_alloc ?_ _)); refine blk_far ?_ NB332_351.out _; (with_reducible repeat (first | refine blk_drewN ?_ _ | refine blk_drew ?_ | refine blk_alloc ?_ _)); refine blk_far ?_ NB332_351.out _; (with_reducible repeat (first | refine blk_drewN ?_ _ | refine blk_drew ?_ | refine blk_alloc ?_ _)); refine blk_far ?_ NB332_351.out _; (with_reducible repeat (first | refine blk_drewN ?_ _ | refine blk_drew ?_ | refine blk_alloc ?_ _)); refine blk_far ?_ NB332_351.out _; (with_reducible repeat (first | refine blk_drewN ?_ _ | refine blk_drew ?_ | refine blk_alloc ?_ _)); refine blk_far ?_ NB332_351.out _; (with_reducible repeat (first | refine blk_drewN ?_ _ | refine blk_drew ?_ | refine blk_alloc ?_ _)); refine blk_far ?_ NB332_351.out _; (with_reducible repeat (first | refine blk_drewN ?_ _ | refine blk_drew ?_ | refine blk_alloc ?_ _)); refine blk_far ?_ NB332_351.out _; (with_reducible repeat (first | refine blk_drewN ?_ _ | refine blk_drew ?_ | refine blk_alloc ?_ _)); exact BK332.out) hb); have n1_ := Aside0.mk (blk_below (g := gb333) (o := .cells #[.int .i64 a1_0, .int .i64 a1_1, .int .i64 a1_2, .int .i64 a1_3, .string a1_4, .bool a1_5, .slice A1_6 l1_6.length c1_6, .bool a1_7] 41 (0, 0)) (by (with_reducible repeat (first | refine blk_drewN ?_ _ | refine blk_drew ?_ | refine blk_alloc ?_ _)); refine blk_far ?_ NB333_351.out _; (with_reducible repeat (first | refine blk_drewN ?_ _ | refine blk_drew ?_ | refine blk_alloc ?_ _)); refine blk_far ?_ NB333_351.out _; (with_reducible repeat (first | refine blk_drewN ?_ _ | refine blk_drew ?_ | refine blk_alloc ?_ _)); refine blk_far ?_ NB333_351.out _; (with_reducible repeat (first | refine blk_drewN ?_ _ | refine blk_drew ?_ | refine blk_alloc ?_ _)); refine blk_far ?_ NB333_351.out _; (with_reducible repeat (first | refine blk_drewN ?_ _ | refine blk_drew ?_ | refine blk_alloc ?_ _)); refine blk_far ?_ NB333_351.out _; (with_reducible repeat (first | refine blk_drewN ?_ _ | refine blk_drew ?_ | refine blk_alloc ?_ _)); refine blk_far ?_ NB333_351.out _; (with_reducible repeat (first | refine blk_drewN ?_ _ | refine blk_drew ?_ | refine blk_alloc ?_ _)); refine blk_far ?_ NB333_351.out _; (with_reducible repeat (first | refine blk_drewN ?_ _ | refine blk_drew ?_ | refine blk_alloc ?_ _)); refine blk_far ?_ NB333_351.out _; (with_reducible repeat (first | refine blk_drewN ?_ _ | refine blk_drew ?_ | refine blk_alloc ?_ _)); refine blk_far ?_ NB333_351.out _; (with_reducible repeat (first | refine blk_drewN ?_ _ | refine blk_drew ?_ | refine blk_alloc ?_ _)); refine blk_far ?_ NB333_351.out _; (with_reducible repeat (first | refine blk_drewN ?_ _ | refine blk_drew ?_ | refine blk_alloc ?_ _)); refine blk_far ?_ NB333_351.out _; (with_reducible repeat (first | refine blk_drewN ?_ _ | refine blk_drew ?_ | refine blk_alloc ?_ _)); exact BK333.out) hb); have n2_ := Aside0.mk (blk_below (g := gb351) (o := .cells #[.int .i64 t339, .int .i64 t340, .int .i64 t341, .int .i64 t342, .string t343, .int .i64 t344, .string t345, .string t346, .string t347, .string t348, .int .i64 t349] 25 (0, 0)) (by (with_reducible repeat (first | refine blk_drewN ?_ _ | refine blk_drew ?_ | refine blk_alloc ?_ _)); refine blk_put (cs := #[.int .i64 t339, .int .i64 t340, .int .i64 t341, .int .i64 t342, .string t343, .int .i64 t344, .string t345, .string t346, .string t347, .string t348, .int .i64 0]) ?_ 10 _ rfl; (with_reducible repeat (first | refine blk_drewN ?_ _ | refine blk_drew ?_ | refine blk_alloc ?_ _)); refine blk_put (cs := #[.int .i64 t339, .int .i64 t340, .int .i64 t341, .int .i64 t342, .string t343, .int .i64 t344, .string t345, .string t346, .string t347, .string (⟨#[]⟩ : ByteArray), .int .i64 0]) ?_ 9 _ rfl; (with_reducible repeat (first | refine blk_drewN ?_ _ | refine blk_drew ?_ | refine blk_alloc ?_ _)); refine blk_put (cs := #[.int .i64 t339, .int .i64 t340, .int .i64 t341, .int .i64 t342, .string t343, .int .i64 t344, .string t345, .string t346, .string (⟨#[]⟩ : ByteArray), .string (⟨#[]⟩ : ByteArray), .int .i64 0]) ?_ 8 _ rfl; (with_reducible repeat (first | refine blk_drewN ?_ _ | refine blk_drew ?_ | refine blk_alloc ?_ _)); refine blk_put (cs := #[.int .i64 t339, .int .i64 t340, .int .i64 t341, .int .i64 t342, .string t343, .int .i64 t344, .string t345, .string (⟨#[]⟩ : ByteArray), .string (⟨#[]⟩ : ByteArray), .string (⟨#[]⟩ : ByteArray), .int .i64 0]) ?_ 7 _ rfl; (with_reducible repeat (first | refine blk_drewN ?_ _ | refine blk_drew ?_ | refine blk_alloc ?_ _)); refine blk_put (cs := #[.int .i64 t339, .int .i64 t340, .int .i64 t341, .int .i64 t342, .string t343, .int .i64 t344, .string (⟨#[]⟩ : ByteArray), .string (⟨#[]⟩ : ByteArray), .string (⟨#[]⟩ : ByteArray), .string (⟨#[]⟩ : ByteArray), .int .i64 0]) ?_ 6 _ rfl; (with_reducible repeat (first | refine blk_drewN ?_ _ | refine blk_drew ?_ | refine blk_alloc ?_ _)); refine blk_put (cs := #[.int .i64 t339, .int .i64 t340, .int .i64 t341, .int .i64 t342, .string t343, .int .i64 0, .string (⟨#[]⟩ : ByteArray), .string (⟨#[]⟩ : ByteArray), .string (⟨#[]⟩ : ByteArray), .string (⟨#[]⟩ : ByteArray), .int .i64 0]) ?_ 5 _ rfl; (with_reducible repeat (first | refine blk_drewN ?_ _ | refine blk_drew ?_ | refine blk_alloc ?_ _)); refine blk_put (cs := #[.int .i64 t339, .int .i64 t340, .int .i64 t341, .int .i64 t342, .string (⟨#[]⟩ : ByteArray), .int .i64 0, .string (⟨#[]⟩ : ByteArray), .string (⟨#[]⟩ : ByteArray), .string (⟨#[]⟩ : ByteArray), .string (⟨#[]⟩ : ByteArray), .int .i64 0]) ?_ 4 _ rfl; (with_reducible repeat (first | refine blk_drewN ?_ _ | refine blk_drew ?_ | refine blk_alloc ?_ _)); refine blk_put (cs := #[.int .i64 t339, .int .i64 t340, .int .i64 t341, .int .i64 0, .string (⟨#[]⟩ : ByteArray), .int .i64 0, .string (⟨#[]⟩ : ByteArray), .string (⟨#[]⟩ : ByteArray), .string (⟨#[]⟩ : ByteArray), .string (⟨#[]⟩ : ByteArray), .int .i64 0]) ?_ 3 _ rfl; (with_reducible repeat (first | refine blk_drewN ?_ _ | refine blk_drew ?_ | refine blk_alloc ?_ _)); refine blk_put (cs := #[.int .i64 t339, .int .i64 t340, .int .i64 0, .int .i64 0, .string (⟨#[]⟩ : ByteArray), .int .i64 0, .string (⟨#[]⟩ : ByteArray), .string (⟨#[]⟩ : ByteArray), .string (⟨#[]⟩ : ByteArray), .string (⟨#[]⟩ : ByteArray), .int .i64 0]) ?_ 2 _ rfl; (with_reducible repeat (first | refine blk_drewN ?_ _ | refine blk_drew ?_ | refine blk_alloc ?_ _)); refine blk_put (cs := #[.int .i64 t339, .int .i64 0, .int .i64 0, .int .i64 0, .string (⟨#[]⟩ : ByteArray), .int .i64 0, .string (⟨#[]⟩ : ByteArray), .string (⟨#[]⟩ : ByteArray), .string (⟨#[]⟩ : ByteArray), .string (⟨#[]⟩ : ByteArray), .int .i64 0]) ?_ 1 _ rfl; (with_reducible repeat (first | refine blk_drewN ?_ _ | refine blk_drew ?_ | refine blk_alloc ?_ _)); refine blk_put (cs := #[.int .i64 0, .int .i64 0, .int .i64 0, .int .i64 0, .string (⟨#[]⟩ : ByteArray), .int .i64 0, .string (⟨#[]⟩ : ByteArray), .string (⟨#[]⟩ : ByteArray), .string (⟨#[]⟩ : ByteArray), .string (⟨#[]⟩ : ByteArray), .int .i64 0]) ?_ 0 _ rfl; (with_reducible repeat (first | refine blk_drewN ?_ _ | refine blk_drew ?_ | refine blk_alloc ?_ _)); exact BK351.out) hb); have n3_ := Aside0.mk (below_step (by repeat (first | (with_reducible first | exact HB.out | apply below_alloc | apply pw_below_drewN | apply below_drew1 | refine below_set ?_ GE332.out | refine below_set ?_ GE333.out | refine below_set ?_ GE351.out) | exact HB.out)) hb); clear BK332; clear BK333; clear BK351; clear HB; have BK332 := n0_; have BK333 := n1_; have BK351 := n2_; have HB := n3_; clear n0_ n1_ n2_ n3_; (try clear hb); (try clear hb2); (try clear hk); (try clear hi)) | ((with_reducible refine gate_dst (N := 14) rfl ?_); (try (refine gate_guard (by rfl) ?_; dsimp only)); refine box_event ?hg (N := 14) ?hd (cs := #[.int .i64 0, .int .i64 0, .int .i64 0, .int .i64 0, .string (⟨#[]⟩ : ByteArray), .int .i64 0, .string (⟨#[]⟩ : ByteArray), .string (⟨#[]⟩ : ByteArray), .string (⟨#[]⟩ : ByteArray), .string (⟨#[]⟩ : ByteArray), .int .i64 0]) (t := 25) ?hr ?_; (case hd => rfl); (case hg => rfl); (case hr => first | (go_simp; done) | (go_simp; rfl)); intro gb364 hg w33 hbox hb; have n0_ := Aside0.mk (blk_below (g := gb332) (o := .cells #[.int .i64 a0_0, .int .i64 a0_1, .int .i64 a0_2, .int .i64 a0_3, .string a0_4, .int .i64 a0_5, .string a0_6, .string a0_7, .string a0_8, .string a0_9, .int .i64 a0_10] 25 (0, 0)) (by (with_reducible repeat (first | refine blk_drewN ?_ _ | refine blk_drew ?_ | refine blk_alloc ?_ _)); exact BK332.out) hb); have n1_ := Aside0.mk (blk_below (g := gb333) (o := .cells #[.int .i64 a1_0, .int .i64 a1_1, .int .i64 a1_2, .int .i64 a1_3, .string a1_4, .bool a1_5, .slice A1_6 l1_6.length c1_6, .bool a1_7] 41 (0, 0)) (by (with_reducible repeat (first | refine blk_drewN ?_ _ | refine blk_drew ?_ | refine blk_alloc ?_ _)); exact BK333.out) hb); have n2_ := Aside0.mk (blk_below (g := gb351) (o := .cells #[.int .i64 t339, .int .i64 t340, .int .i64 t341, .int .i64 t342, .string t343, .int .i64 t344, .string t345, .string t346, .string t347, .string t348, .int .i64 t349] 25 (0, 0)) (by (with_reducible repeat (first | refine blk_drewN ?_ _ | refine blk_drew ?_ | refine blk_alloc ?_ _)); exact BK351.out) hb); have n3_ := Aside0.mk (below_step (by repeat (first | (with_reducible first | exact HB.out | apply below_alloc | apply pw_below_drewN | apply below_drew1 | refine below_set ?_ GE332.out | refine below_set ?_ GE333.out | refine below_set ?_ GE351.out) | exact HB.out)) hb); have n4_ := Aside0.mk (hbox); have n5_ := Aside0.mk ((by rw [hg]; exact (below_size (by repeat (first | (with_reducible first | exact HB.out | apply below_alloc | apply pw_below_drewN | apply below_drew1 | refine below_set ?_ GE332.out | refine below_set ?_ GE333.out | refine below_set ?_ GE351.out) | exact HB.out))) : w.heap.size ≤ gb364)); have n6_ := Aside0.mk ((by rw [hg]; exact (below_size (by repeat (first | (with_reducible first | exact HB.out | apply below_alloc | apply pw_below_drewN | apply below_drew1 | refine below_set ?_ GE332.out | refine below_set ?_ GE333.out | refine below_set ?_ GE351.out) | exact HB.out))) : w.heap.size ≤ gb364)); have n7_ := Aside0.mk ((by rw [hg]; exact Nat.ne_of_lt (blk_lt (g := gb332) (o := .cells #[.int .i64 a0_0, .int .i64 a0_1, .int .i64 a0_2, .int .i64 a0_3, .string a0_4, .int .i64 a0_5, .string a0_6, .string a0_7, .string a0_8, .string a0_9, .int .i64 a0_10] 25 (0, 0)) (by (with_reducible repeat (first | refine blk_drewN ?_ _ | refine blk_drew ?_ | refine blk_alloc ?_ _)); exact BK332.out)) : gb332 ≠ gb364)); have n8_ := Aside0.mk ((by rw [hg]; exact Nat.ne_of_gt (blk_lt (g := gb332) (o := .cells #[.int .i64 a0_0, .int .i64 a0_1, .int .i64 a0_2, .int .i64 a0_3, .string a0_4, .int .i64 a0_5, .string a0_6, .string a0_7, .string a0_8, .string a0_9, .int .i64 a0_10] 25 (0, 0)) (by (with_reducible repeat (first | refine blk_drewN ?_ _ | refine blk_drew ?_ | refine blk_alloc ?_ _)); exact BK332.out)) : gb364 ≠ gb332)); have n9_ := Aside0.mk ((by rw [hg]; exact Nat.ne_of_lt (blk_lt (g := gb333) (o := .cells #[.int .i64 a1_0, .int .i64 a1_1, .int .i64 a1_2, .int .i64 a1_3, .string a1_4, .bool a1_5, .slice A1_6 l1_6.length c1_6, .bool a1_7] 41 (0, 0)) (by (with_reducible repeat (first | refine blk_drewN ?_ _ | refine blk_drew ?_ | refine blk_alloc ?_ _)); exact BK333.out)) : gb333 ≠ gb364)); have n10_ := Aside0.mk ((by rw [hg]; exact Nat.ne_of_gt (blk_lt (g := gb333) (o := .cells #[.int .i64 a1_0, .int .i64 a1_1, .int .i64 a1_2, .int .i64 a1_3, .string a1_4, .bool a1_5, .slice A1_6 l1_6.length c1_6, .bool a1_7] 41 (0, 0)) (by (with_reducible repeat (first | refine blk_drewN ?_ _ | refine blk_drew ?_ | refine blk_alloc ?_ _)); exact BK333.out)) : gb364 ≠ gb333)); have n11_ := Aside0.mk ((by rw [hg]; exact Nat.ne_of_lt (blk_lt (g := gb351) (o := .cells #[.int .i64 t339, .int .i64 t340, .int .i64 t341, .int .i64 t342, .string t343, .int .i64 t344, .string t345, .string t346, .string t347, .string t348, .int .i64 t349] 25 (0, 0)) (by (with_reducible repeat (first | refine blk_drewN ?_ _ | refine blk_drew ?_ | refine blk_alloc ?_ _)); exact BK351.out)) : gb351 ≠ gb364)); have n12_ := Aside0.mk ((by rw [hg]; exact Nat.ne_of_gt (blk_lt (g := gb351) (o := .cells #[.int .i64 t339, .int .i64 t340, .int .i64 t341, .int .i64 t342, .string t343, .int .i64 t344, .string t345, .string t346, .string t347, .string t348, .int .i64 t349] 25 (0, 0)) (by (with_reducible repeat (first | refine blk_drewN ?_ _ | refine blk_drew ?_ | refine blk_alloc ?_ _)); exact BK351.out)) : gb364 ≠ gb351)); clear BK332; clear BK333; clear BK351; clear HB; have BK332 := n0_; have BK333 := n1_; have BK351 := n2_; have HB := n3_; have BK364 := n4_; have GW364 := n5_; have GE364 := n6_; have NB332_364 := n7_; have NB364_332 := n8_; have NB333_364 := n9_; have NB364_333 := n10_; have NB351_364 := n11_; have NB364_351 := n12_; clear n0_ n1_ n2_ n3_ n4_ n5_ n6_ n7_ n8_ n9_ n10_ n11_ n12_; clear hb hbox hg; have hnb34 := NB364_332.out; have hnc34 := NB332_364.out; have hnb35 := NB364_333.out; have hnc35 := NB333_364.out; have hnb36 := NB364_351.out; have hnc36 := NB351_364.out; have hcz37_0 : w33.cell? ⟨gb364, 0, none⟩ = some (.int .i64 0) := (blk_cell BK364.out 0).trans rfl; have hcz37_1 : w33.cell? ⟨gb364, 1, none⟩ = some (.int .i64 0) := (blk_cell BK364.out 1).trans rfl; have hcz37_2 : w33.cell? ⟨gb364, 2, none⟩ = some (.int .i64 0) := (blk_cell BK364.out 2).trans rfl; have hcz37_3 : w33.cell? ⟨gb364, 3, none⟩ = some (.int .i64 0) := (blk_cell BK364.out 3).trans rfl; have hcz37_4 : w33.cell? ⟨gb364, 4, none⟩ = some (.string (⟨#[]⟩ : ByteArray)) := (blk_cell BK364.out 4).trans rfl; have hcz37_5 : w33.cell? ⟨gb364, 5, none⟩ = some (.int .i64 0) := (blk_cell BK364.out 5).trans rfl; have hcz37_6 : w33.cell? ⟨gb364, 6, none⟩ = some (.string (⟨#[]⟩ : ByteArray)) := (blk_cell BK364.out 6).trans rfl; have hcz37_7 : w33.cell? ⟨gb364, 7, none⟩ = some (.string (⟨#[]⟩ : ByteArray)) := (blk_cell BK364.out 7).trans rfl; have hcz37_8 : w33.cell? ⟨gb364, 8, none⟩ = some (.string (⟨#[]⟩ : ByteArray)) := (blk_cell BK364.out 8).trans rfl; have hcz37_9 : w33.cell? ⟨gb364, 9, none⟩ = some (.string (⟨#[]⟩ : ByteArray)) := (blk_cell BK364.out 9).trans rfl; have hcz37_10 : w33.cell? ⟨gb364, 10, none⟩ = some (.int .i64 0) := (blk_cell BK364.out 10).trans rfl; have hfz37_0 := blk_frozen BK364.out 0; have hfz37_1 := blk_frozen BK364.out 1; have hfz37_2 := blk_frozen BK364.out 2; have hfz37_3 := blk_frozen BK364.out 3; have hfz37_4 := blk_frozen BK364.out 4; have hfz37_5 := blk_frozen BK364.out 5; have hfz37_6 := blk_frozen BK364.out 6; have hfz37_7 := blk_frozen BK364.out 7; have hfz37_8 := blk_frozen BK364.out 8; have hfz37_9 := blk_frozen BK364.out 9; have hfz37_10 := blk_frozen BK364.out 10))
                    go_meet
                    case rel => exact ⟨_, H', ⟨by have := HJ6.out; first | omega | exact Nat.le_refl _⟩, ⟨by (with_reducible repeat (first | refine blk_drewN ?_ _ | refine blk_drew ?_ | refine blk_alloc ?_ _)); refine blk_far ?_ NB332_364.out _; (with_reducible repeat (first | refine blk_drewN ?_ _ | refine blk_drew ?_ | refine blk_alloc ?_ _)); refine blk_far ?_ NB332_364.out _; (with_reducible repeat (first | refine blk_drewN ?_ _ | refine blk_drew ?_ | refine blk_alloc ?_ _)); refine blk_far ?_ NB332_364.out _; (with_reducible repeat (first | refine blk_drewN ?_ _ | refine blk_drew ?_ | refine blk_alloc ?_ _)); refine blk_far ?_ NB332_364.out _; (with_reducible repeat (first | refine blk_drewN ?_ _ | refine blk_drew ?_ | refine blk_alloc ?_ _)); refine blk_far ?_ NB332_364.out _; (with_reducible repeat (first | refine blk_drewN ?_ _ | refine blk_drew ?_ | refine blk_alloc ?_ _)); refine blk_far ?_ NB332_364.out _; (with_reducible repeat (first | refine blk_drewN ?_ _ | refine blk_drew ?_ | refine blk_alloc ?_ _)); refine blk_far ?_ NB332_364.out _; (with_reducible repeat (first | refine blk_drewN ?_ _ | refine blk_drew ?_ | refine blk_alloc ?_ _)); refine blk_far ?_ NB332_364.out _; (with_reducible repeat (first | refine blk_drewN ?_ _ | refine blk_drew ?_ | refine blk_alloc ?_ _)); refine blk_far ?_ NB332_364.out _; (with_reducible repeat (first | refine blk_drewN ?_ _ | refine blk_drew ?_ | refine blk_alloc ?_ _)); refine blk_far ?_ NB332_364.out _; (with_reducible repeat (first | refine blk_drewN ?_ _ | refine blk_drew ?_ | refine blk_alloc ?_ _)); refine blk_far ?_ NB332_364.out _; (with_reducible repeat (first | refine blk_drewN ?_ _ | refine blk_drew ?_ | refine blk_alloc ?_ _)); exact BK332.out⟩, ⟨by (with_reducible repeat (first | refine blk_drewN ?_ _ | refine blk_drew ?_ | refine blk_alloc ?_ _)); refine blk_far ?_ NB333_364.out _; (with_reducible repeat (first | refine blk_drewN ?_ _ | refine blk_drew ?_ | refine blk_alloc ?_ _)); refine blk_far ?_ NB333_364.out _; (with_reducible repeat (first | refine blk_drewN ?_ _ | refine blk_drew ?_ | refine blk_alloc ?_ _)); refine blk_far ?_ NB333_364.out _; (with_reducible repeat (first | refine blk_drewN ?_ _ | refine blk_drew ?_ | refine blk_alloc ?_ _)); refine blk_far ?_ NB333_364.out _; (with_reducible repeat (first | refine blk_drewN ?_ _ | refine blk_drew ?_ | refine blk_alloc ?_ _)); refine blk_far ?_ NB333_364.out _; (with_reducible repeat (first | refine blk_drewN ?_ _ | refine blk_drew ?_ | refine blk_alloc ?_ _)); refine blk_far ?_ NB333_364.out _; (with_reducible repeat (first | refine blk_drewN ?_ _ | refine blk_drew ?_ | refine blk_alloc ?_ _)); refine blk_far ?_ NB333_364.out _; (with_reducible repeat (first | refine blk_drewN ?_ _ | refine blk_drew ?_ | refine blk_alloc ?_ _)); refine blk_far ?_ NB333_364.out _; (with_reducible repeat (first | refine blk_drewN ?_ _ | refine blk_drew ?_ | refine blk_alloc ?_ _)); refine blk_far ?_ NB333_364.out _; (with_reducible repeat (first | refine blk_drewN ?_ _ | refine blk_drew ?_ | refine blk_alloc ?_ _)); refine blk_far ?_ NB333_364.out _; (with_reducible repeat (first | refine blk_drewN ?_ _ | refine blk_drew ?_ | refine blk_alloc ?_ _)); refine blk_far ?_ NB333_364.out _; (with_reducible repeat (first | refine blk_drewN ?_ _ | refine blk_drew ?_ | refine blk_alloc ?_ _)); exact BK333.out⟩, ⟨by repeat (first | (with_reducible first | exact HB.out | apply below_alloc | apply pw_below_drewN | apply below_drew1 | refine below_set ?_ GE332.out | refine below_set ?_ GE333.out | refine below_set ?_ GE351.out | refine below_set ?_ GE364.out) | exact HB.out)⟩⟩
                  · rw [if_neg c26] at H
                    have c26b0 : (t363 == 3) = false := beq_eq_false_iff_ne.mpr c26
                    have c26b1 : (t363 != 3) = true := bne_iff_ne.mpr c26
                    obtain rfl := Option.some.inj H
                    cases hr.out
                · rw [if_neg c25] at H
                  have c25b0 : (t350 == 3) = false := beq_eq_false_iff_ne.mpr c25
                  have c25b1 : (t350 != 3) = true := bne_iff_ne.mpr c25
                  (first | rw [c25b0] | (simp only [i64_w, i32_w]; rw [c25b0]) | skip)
                  obtain rfl := Option.some.inj H
                  cases hr.out
              · rw [if_neg c23] at H
                exact absurd H (by simp)
            · rw [if_neg c21] at H
              exact absurd H (by simp)
          · rw [if_neg c20] at H
            exact absurd H (by simp)
        · replace c19 := Bool.eq_false_iff.mpr c19
          subst c19
          have H1 : (stanchionlaw16_WireCut.j1 kj6 a2 t334 t337 t338) = some r := by rw [if_neg (show ¬ (false = true) by decide)] at H; exact H
          clear H
          have H := H1
          clear H1
          have H' := Aside0.mk H
          clear H
          go_wp2
          go_meet
          case rel => exact ⟨_, H', ⟨by have := HJ6.out; first | omega | exact Nat.le_refl _⟩, ⟨by (with_reducible repeat (first | refine blk_drewN ?_ _ | refine blk_drew ?_ | refine blk_alloc ?_ _)); exact BK332.out⟩, ⟨by (with_reducible repeat (first | refine blk_drewN ?_ _ | refine blk_drew ?_ | refine blk_alloc ?_ _)); exact BK333.out⟩, ⟨by repeat (first | (with_reducible first | exact HB.out | apply below_alloc | apply pw_below_drewN | apply below_drew1 | refine below_set ?_ GE332.out | refine below_set ?_ GE333.out) | exact HB.out)⟩⟩
      case rest =>
        clear HC18
        try clear c1
        try clear c2
        try clear p2
        try clear c3
        try clear c4
        try clear c5
        try clear c6
        try clear c8
        try clear c9
        try clear c11
        try clear c15
        try clear c16
        try clear c16b0
        try clear c16b1
        try clear c17
        try clear c17b0
        try clear c19
        try clear c20
        try clear c20b0
        try clear c20b1
        try clear c21
        try clear c21b0
        try clear c21b1
        try clear c23
        try clear c23b0
        try clear c23b1
        try clear c23b2
        try clear c25
        try clear c25b0
        try clear c25b1
        try clear c26
        try clear c26b0
        try clear c26b1
        try clear c29
        try clear c30
        try clear c34
        try clear c35
        try clear c36
        try clear c40
        try clear c41
        try clear c45
        try clear c46
        try clear c47
        try clear c51
        try clear c52
        try clear c56
        try clear c57
        try clear c58
        try clear hcz12_0
        try clear hcz12_1
        try clear hcz12_10
        try clear hcz12_2
        try clear hcz12_3
        try clear hcz12_4
        try clear hcz12_5
        try clear hcz12_6
        try clear hcz12_7
        try clear hcz12_8
        try clear hcz12_9
        try clear hcz14_0
        try clear hcz14_1
        try clear hcz14_2
        try clear hcz14_3
        try clear hcz14_4
        try clear hcz14_5
        try clear hcz14_6
        try clear hcz14_7
        try clear hcz31_0
        try clear hcz31_1
        try clear hcz31_10
        try clear hcz31_2
        try clear hcz31_3
        try clear hcz31_4
        try clear hcz31_5
        try clear hcz31_6
        try clear hcz31_7
        try clear hcz31_8
        try clear hcz31_9
        try clear hcz37_0
        try clear hcz37_1
        try clear hcz37_10
        try clear hcz37_2
        try clear hcz37_3
        try clear hcz37_4
        try clear hcz37_5
        try clear hcz37_6
        try clear hcz37_7
        try clear hcz37_8
        try clear hcz37_9
        try clear hcz42_0
        try clear hcz42_1
        try clear hcz42_10
        try clear hcz42_2
        try clear hcz42_3
        try clear hcz42_4
        try clear hcz42_5
        try clear hcz42_6
        try clear hcz42_7
        try clear hcz42_8
        try clear hcz42_9
        try clear hcz48_0
        try clear hcz48_1
        try clear hcz48_10
        try clear hcz48_2
        try clear hcz48_3
        try clear hcz48_4
        try clear hcz48_5
        try clear hcz48_6
        try clear hcz48_7
        try clear hcz48_8
        try clear hcz48_9
        try clear hcz53_0
        try clear hcz53_1
        try clear hcz53_10
        try clear hcz53_2
        try clear hcz53_3
        try clear hcz53_4
        try clear hcz53_5
        try clear hcz53_6
        try clear hcz53_7
        try clear hcz53_8
        try clear hcz53_9
        try clear hcz59_0
        try clear hcz59_1
        try clear hcz59_10
        try clear hcz59_2
        try clear hcz59_3
        try clear hcz59_4
        try clear hcz59_5
        try clear hcz59_6
        try clear hcz59_7
        try clear hcz59_8
        try clear hcz59_9
        try clear hfz12_0
        try clear hfz12_1
        try clear hfz12_10
        try clear hfz12_2
        try clear hfz12_3
        try clear hfz12_4
        try clear hfz12_5
        try clear hfz12_6
        try clear hfz12_7
        try clear hfz12_8
        try clear hfz12_9
        try clear hfz14_0
        try clear hfz14_1
        try clear hfz14_2
        try clear hfz14_3
        try clear hfz14_4
        try clear hfz14_5
        try clear hfz14_6
        try clear hfz14_7
        try clear hfz31_0
        try clear hfz31_1
        try clear hfz31_10
        try clear hfz31_2
        try clear hfz31_3
        try clear hfz31_4
        try clear hfz31_5
        try clear hfz31_6
        try clear hfz31_7
        try clear hfz31_8
        try clear hfz31_9
        try clear hfz37_0
        try clear hfz37_1
        try clear hfz37_10
        try clear hfz37_2
        try clear hfz37_3
        try clear hfz37_4
        try clear hfz37_5
        try clear hfz37_6
        try clear hfz37_7
        try clear hfz37_8
        try clear hfz37_9
        try clear hfz42_0
        try clear hfz42_1
        try clear hfz42_10
        try clear hfz42_2
        try clear hfz42_3
        try clear hfz42_4
        try clear hfz42_5
        try clear hfz42_6
        try clear hfz42_7
        try clear hfz42_8
        try clear hfz42_9
        try clear hfz48_0
        try clear hfz48_1
        try clear hfz48_10
        try clear hfz48_2
        try clear hfz48_3
        try clear hfz48_4
        try clear hfz48_5
        try clear hfz48_6
        try clear hfz48_7
        try clear hfz48_8
        try clear hfz48_9
        try clear hfz53_0
        try clear hfz53_1
        try clear hfz53_10
        try clear hfz53_2
        try clear hfz53_3
        try clear hfz53_4
        try clear hfz53_5
        try clear hfz53_6
        try clear hfz53_7
        try clear hfz53_8
        try clear hfz53_9
        try clear hfz59_0
        try clear hfz59_1
        try clear hfz59_10
        try clear hfz59_2
        try clear hfz59_3
        try clear hfz59_4
        try clear hfz59_5
        try clear hfz59_6
        try clear hfz59_7
        try clear hfz59_8
        try clear hfz59_9
        try clear p2
        obtain ⟨kq, HA, HJ17, BK332, BK333, HB⟩ := hcut
        cases kq with
        | zero => exact absurd HA.out (by simp [stanchionlaw16_WireCut.j1])
        | succ kj17 =>
          have H := HA.out
          clear HA
          simp only [stanchionlaw16_WireCut.j1] at H
          have HC60 := Aside0.mk H
          clear H
          go_upto_region 9 with (fail)
          go_cut [73] (fun v73 wc => ∃ (kq : Nat) (x73_59 : Bool), v73 = .bool x73_59 ∧ Aside0 (stanchionlaw16_WireCut.j2 kq a2 t334 t337 x73_59 = some r) ∧ Aside0 (kq ≤ kj17) ∧ Aside0 (wc.heap[gb332]? = some (.cells #[.int .i64 a0_0, .int .i64 a0_1, .int .i64 a0_2, .int .i64 a0_3, .string a0_4, .int .i64 a0_5, .string a0_6, .string a0_7, .string a0_8, .string a0_9, .int .i64 a0_10] 25 (0, 0))) ∧ Aside0 (wc.heap[gb333]? = some (.cells #[.int .i64 a1_0, .int .i64 a1_1, .int .i64 a1_2, .int .i64 a1_3, .string a1_4, .bool a1_5, (.slice A1_6 l1_6.length c1_6), .bool a1_7] 41 (0, 0))) ∧ Aside0 (Below w.heap.size w wc))
          case first =>
            have H := HC60.out
            clear HC60
            by_cases c61 : t338 = 0
            · rw [if_pos c61] at H
              have c61b0 : (t338 == 0) = true := beq_iff_eq.mpr c61
              have c61b1 : (t338 != 0) = false := bne_eq_false_iff_eq.mpr c61
              clear c61
              (first | rw [c61b0] | (simp only [i64_w, i32_w]; rw [c61b0]) | skip)
              by_cases c62 : a2 ≥ 0
              · rw [if_pos c62] at H
                have c62b0 : decide (0 ≤ a2) = true := decide_eq_true c62
                clear c62
                have H' := Aside0.mk H
                clear H
                go_wp2
                go_meet
                case rel => exact ⟨_, (decide (a2 < (t337.size : Int))), (by first | rfl | (simp; done) | (simp [*]; done)), H', ⟨by have := HJ6.out; have := HJ17.out; first | omega | exact Nat.le_refl _⟩, ⟨by (with_reducible repeat (first | refine blk_drewN ?_ _ | refine blk_drew ?_ | refine blk_alloc ?_ _)); exact BK332.out⟩, ⟨by (with_reducible repeat (first | refine blk_drewN ?_ _ | refine blk_drew ?_ | refine blk_alloc ?_ _)); exact BK333.out⟩, ⟨by repeat (first | (with_reducible first | exact HB.out | apply below_alloc | apply pw_below_drewN | apply below_drew1 | refine below_set ?_ GE332.out | refine below_set ?_ GE333.out) | exact HB.out)⟩⟩
              · rw [if_neg c62] at H
                have c62b0 : decide (0 ≤ a2) = false := decide_eq_false c62
                clear c62
                have H' := Aside0.mk H
                clear H
                go_wp2
                go_meet
                case rel => exact ⟨_, (false), (by first | rfl | (simp; done) | (simp [*]; done)), H', ⟨by have := HJ6.out; have := HJ17.out; first | omega | exact Nat.le_refl _⟩, ⟨by (with_reducible repeat (first | refine blk_drewN ?_ _ | refine blk_drew ?_ | refine blk_alloc ?_ _)); exact BK332.out⟩, ⟨by (with_reducible repeat (first | refine blk_drewN ?_ _ | refine blk_drew ?_ | refine blk_alloc ?_ _)); exact BK333.out⟩, ⟨by repeat (first | (with_reducible first | exact HB.out | apply below_alloc | apply pw_below_drewN | apply below_drew1 | refine below_set ?_ GE332.out | refine below_set ?_ GE333.out) | exact HB.out)⟩⟩
            · rw [if_neg c61] at H
              have c61b0 : (t338 == 0) = false := beq_eq_false_iff_ne.mpr c61
              have c61b1 : (t338 != 0) = true := bne_iff_ne.mpr c61
              (first | rw [c61b0] | (simp only [i64_w, i32_w]; rw [c61b0]) | skip)
              have H' := Aside0.mk H
              clear H
              go_wp2
              go_meet
              case rel => exact ⟨_, (false), (by first | rfl | (simp; done) | (simp [*]; done)), H', ⟨by have := HJ6.out; have := HJ17.out; first | omega | exact Nat.le_refl _⟩, ⟨by (with_reducible repeat (first | refine blk_drewN ?_ _ | refine blk_drew ?_ | refine blk_alloc ?_ _)); exact BK332.out⟩, ⟨by (with_reducible repeat (first | refine blk_drewN ?_ _ | refine blk_drew ?_ | refine blk_alloc ?_ _)); exact BK333.out⟩, ⟨by repeat (first | (with_reducible first | exact HB.out | apply below_alloc | apply pw_below_drewN | apply below_drew1 | refine below_set ?_ GE332.out | refine below_set ?_ GE333.out) | exact HB.out)⟩⟩
          case rest =>
            clear HC60
            try clear c1
            try clear c2
            try clear p2
            try clear c3
            try clear c4
            try clear c5
            try clear c6
            try clear c8
            try clear c9
            try clear c11
            try clear c15
            try clear c16
            try clear c16b0
            try clear c16b1
            try clear c17
            try clear c17b0
            try clear c19
            try clear c20
            try clear c20b0
            try clear c20b1
            try clear c21
            try clear c21b0
            try clear c21b1
            try clear c23
            try clear c23b0
            try clear c23b1
            try clear c23b2
            try clear c25
            try clear c25b0
            try clear c25b1
            try clear c26
            try clear c26b0
            try clear c26b1
            try clear c29
            try clear c30
            try clear c34
            try clear c35
            try clear c36
            try clear c40
            try clear c41
            try clear c45
            try clear c46
            try clear c47
            try clear c51
            try clear c52
            try clear c56
            try clear c57
            try clear c58
            try clear c61
            try clear c61b0
            try clear c61b1
            try clear c62
            try clear c62b0
            try clear hcz12_0
            try clear hcz12_1
            try clear hcz12_10
            try clear hcz12_2
            try clear hcz12_3
            try clear hcz12_4
            try clear hcz12_5
            try clear hcz12_6
            try clear hcz12_7
            try clear hcz12_8
            try clear hcz12_9
            try clear hcz14_0
            try clear hcz14_1
            try clear hcz14_2
            try clear hcz14_3
            try clear hcz14_4
            try clear hcz14_5
            try clear hcz14_6
            try clear hcz14_7
            try clear hcz31_0
            try clear hcz31_1
            try clear hcz31_10
            try clear hcz31_2
            try clear hcz31_3
            try clear hcz31_4
            try clear hcz31_5
            try clear hcz31_6
            try clear hcz31_7
            try clear hcz31_8
            try clear hcz31_9
            try clear hcz37_0
            try clear hcz37_1
            try clear hcz37_10
            try clear hcz37_2
            try clear hcz37_3
            try clear hcz37_4
            try clear hcz37_5
            try clear hcz37_6
            try clear hcz37_7
            try clear hcz37_8
            try clear hcz37_9
            try clear hcz42_0
            try clear hcz42_1
            try clear hcz42_10
            try clear hcz42_2
            try clear hcz42_3
            try clear hcz42_4
            try clear hcz42_5
            try clear hcz42_6
            try clear hcz42_7
            try clear hcz42_8
            try clear hcz42_9
            try clear hcz48_0
            try clear hcz48_1
            try clear hcz48_10
            try clear hcz48_2
            try clear hcz48_3
            try clear hcz48_4
            try clear hcz48_5
            try clear hcz48_6
            try clear hcz48_7
            try clear hcz48_8
            try clear hcz48_9
            try clear hcz53_0
            try clear hcz53_1
            try clear hcz53_10
            try clear hcz53_2
            try clear hcz53_3
            try clear hcz53_4
            try clear hcz53_5
            try clear hcz53_6
            try clear hcz53_7
            try clear hcz53_8
            try clear hcz53_9
            try clear hcz59_0
            try clear hcz59_1
            try clear hcz59_10
            try clear hcz59_2
            try clear hcz59_3
            try clear hcz59_4
            try clear hcz59_5
            try clear hcz59_6
            try clear hcz59_7
            try clear hcz59_8
            try clear hcz59_9
            try clear hfz12_0
            try clear hfz12_1
            try clear hfz12_10
            try clear hfz12_2
            try clear hfz12_3
            try clear hfz12_4
            try clear hfz12_5
            try clear hfz12_6
            try clear hfz12_7
            try clear hfz12_8
            try clear hfz12_9
            try clear hfz14_0
            try clear hfz14_1
            try clear hfz14_2
            try clear hfz14_3
            try clear hfz14_4
            try clear hfz14_5
            try clear hfz14_6
            try clear hfz14_7
            try clear hfz31_0
            try clear hfz31_1
            try clear hfz31_10
            try clear hfz31_2
            try clear hfz31_3
            try clear hfz31_4
            try clear hfz31_5
            try clear hfz31_6
            try clear hfz31_7
            try clear hfz31_8
            try clear hfz31_9
            try clear hfz37_0
            try clear hfz37_1
            try clear hfz37_10
            try clear hfz37_2
            try clear hfz37_3
            try clear hfz37_4
            try clear hfz37_5
            try clear hfz37_6
            try clear hfz37_7
            try clear hfz37_8
            try clear hfz37_9
            try clear hfz42_0
            try clear hfz42_1
            try clear hfz42_10
            try clear hfz42_2
            try clear hfz42_3
            try clear hfz42_4
            try clear hfz42_5
            try clear hfz42_6
            try clear hfz42_7
            try clear hfz42_8
            try clear hfz42_9
            try clear hfz48_0
            try clear hfz48_1
            try clear hfz48_10
            try clear hfz48_2
            try clear hfz48_3
            try clear hfz48_4
            try clear hfz48_5
            try clear hfz48_6
            try clear hfz48_7
            try clear hfz48_8
            try clear hfz48_9
            try clear hfz53_0
            try clear hfz53_1
            try clear hfz53_10
            try clear hfz53_2
            try clear hfz53_3
            try clear hfz53_4
            try clear hfz53_5
            try clear hfz53_6
            try clear hfz53_7
            try clear hfz53_8
            try clear hfz53_9
            try clear hfz59_0
            try clear hfz59_1
            try clear hfz59_10
            try clear hfz59_2
            try clear hfz59_3
            try clear hfz59_4
            try clear hfz59_5
            try clear hfz59_6
            try clear hfz59_7
            try clear hfz59_8
            try clear hfz59_9
            try clear p2
            obtain ⟨kq, x73_59, rfl, HA, HJ59, BK332, BK333, HB⟩ := hcut
            cases kq with
            | zero => exact absurd HA.out (by simp [stanchionlaw16_WireCut.j2])
            | succ kj59 =>
              have H := HA.out
              clear HA
              simp only [stanchionlaw16_WireCut.j2] at H
              by_cases c63 : x73_59 = true
              · subst c63
                have H1 : (if 0 ≤ a2 then (if a2 ≤ (t337.size : Int) then ((wire_TakeReply.f (t337.extract 0 (a2 : Int).toNat)).bind fun bt365 => (if t337.size + 1 ≤ 9223372036854775807 then ((wire_TakeReply.f (t337 ++ (⟨#[48]⟩ : ByteArray))).bind fun bt377 => (if bt365.2.2.2.2.2.2.2.2 = 3 then (if bt377.2.2.2.2.2.2.2.2 = 3 then (some t334) else (some false)) else (some false))) else (none))) else (none)) else (none)) = some r := by rw [if_pos rfl] at H; exact H
                clear H
                have H := H1
                clear H1
                by_cases c64 : 0 ≤ a2
                · rw [if_pos c64] at H
                  have c64b0 := eq_true c64
                  have c64b1 : decide (0 ≤ a2) = true := decide_eq_true c64
                  clear c64
                  by_cases c65 : a2 ≤ (t337.size : Int)
                  · rw [if_pos c65] at H
                    have c65b0 := eq_true c65
                    have c65b1 : decide (a2 ≤ (t337.size : Int)) = true := decide_eq_true c65
                    clear c65
                    replace H := Option.bind_eq_some_iff.mp H
                    obtain ⟨⟨t365, t366, t367, t368, t369, t370, t371, t374, t375⟩, A660, H⟩ := H
                    replace H : (if t337.size + 1 ≤ 9223372036854775807 then ((wire_TakeReply.f (t337 ++ (⟨#[48]⟩ : ByteArray))).bind fun bt377 => (if t375 = 3 then (if bt377.2.2.2.2.2.2.2.2 = 3 then (some t334) else (some false)) else (some false))) else (none)) = some r := H
                    have A66 := Aside0.mk A660
                    clear A660
                    by_cases c67 : t337.size + 1 ≤ 9223372036854775807
                    · rw [if_pos c67] at H
                      have c67b0 := eq_true c67
                      have c67b1 : decide (t337.size + 1 ≤ 9223372036854775807) = true := decide_eq_true c67
                      try have c67b2 : (9223372036854775807 < t337.size + 1) = False := eq_false (Nat.not_lt.2 c67)
                      replace H := Option.bind_eq_some_iff.mp H
                      obtain ⟨⟨t377, t378, t379, t380, t381, t382, t383, t386, t387⟩, A680, H⟩ := H
                      replace H : (if t375 = 3 then (if t387 = 3 then (some t334) else (some false)) else (some false)) = some r := H
                      have A68 := Aside0.mk A680
                      clear A680
                      by_cases c69 : t375 = 3
                      · rw [if_pos c69] at H
                        have c69b0 : (t375 == 3) = true := beq_iff_eq.mpr c69
                        have c69b1 : (t375 != 3) = false := bne_eq_false_iff_eq.mpr c69
                        clear c69
                        by_cases c70 : t387 = 3
                        · rw [if_pos c70] at H
                          have c70b0 : (t387 == 3) = true := beq_iff_eq.mpr c70
                          have c70b1 : (t387 != 3) = false := bne_eq_false_iff_eq.mpr c70
                          clear c70
                          obtain rfl := Option.some.inj H
                          go_wp2_with (first | ((with_reducible refine gate_callee (f := 17) rfl ?_); refine goesL_ (some 78) rfl rfl Tryd.func17 (by kernel_rfl) rfl #[.string (t337.extract 0 (a2 : Int).toNat)] rfl (by (try simp only [List.map_toArray, List.map_cons, List.map_nil]); first | done | rfl | (simp only [List.length_drop, List.length_take]; rfl)) ?_; (with_reducible refine (wire_TakeReply.calls (t337.extract 0 (a2 : Int).toNat) t365 t366 t367 t368 t369 t370 t371 t374 t375 _ A66.out (handle_at HGL.out (by repeat (first | (with_reducible first | exact HB.out | apply below_alloc | apply pw_below_drewN | apply below_drew1 | refine below_set ?_ GE332.out | refine below_set ?_ GE333.out) | exact HB.out)))).mono ?_); rintro e w71 ⟨v372, rfl, ho0, hb⟩; refine ⟨_, rfl, ?_⟩; have n0_ := Aside0.mk (Kd.R_lower ho0 (below_size (by repeat (first | (with_reducible first | exact HB.out | apply below_alloc | apply pw_below_drewN | apply below_drew1 | refine below_set ?_ GE332.out | refine below_set ?_ GE333.out) | exact HB.out)))); have n1_ := Aside0.mk (blk_below (g := gb332) (o := .cells #[.int .i64 a0_0, .int .i64 a0_1, .int .i64 a0_2, .int .i64 a0_3, .string a0_4, .int .i64 a0_5, .string a0_6, .string a0_7, .string a0_8, .string a0_9, .int .i64 a0_10] 25 (0, 0)) (by (with_reducible repeat (first | refine blk_drewN ?_ _ | refine blk_drew ?_ | refine blk_alloc ?_ _)); exact BK332.out) hb); have n2_ := Aside0.mk (blk_below (g := gb333) (o := .cells #[.int .i64 a1_0, .int .i64 a1_1, .int .i64 a1_2, .int .i64 a1_3, .string a1_4, .bool a1_5, .slice A1_6 l1_6.length c1_6, .bool a1_7] 41 (0, 0)) (by (with_reducible repeat (first | refine blk_drewN ?_ _ | refine blk_drew ?_ | refine blk_alloc ?_ _)); exact BK333.out) hb); have n3_ := Aside0.mk (below_step (by repeat (first | (with_reducible first | exact HB.out | apply below_alloc | apply pw_below_drewN | apply below_drew1 | refine below_set ?_ GE332.out | refine below_set ?_ GE333.out) | exact HB.out)) hb); clear BK332; clear BK333; clear HB; have HO373 := n0_; have BK332 := n1_; have BK333 := n2_; have HB := n3_; clear n0_ n1_ n2_ n3_; (try clear hb); (try clear hb2); (try clear hk); (try clear hi); (try clear ho0)) | ((with_reducible refine gate_dst (N := 16) rfl ?_); (try (refine gate_guard (by rfl) ?_; dsimp only)); refine box_event ?hg (N := 16) ?hd (cs := #[.int .i64 0, .int .i64 0, .int .i64 0, .int .i64 0, .string (⟨#[]⟩ : ByteArray), .bool false, .slice none 0 0, .bool false]) (t := 41) ?hr ?_; (case hd => rfl); (case hg => rfl); (case hr => first | (go_simp; done) | (go_simp; rfl)); intro gb376 hg w72 hbox hb; have n0_ := Aside0.mk (Kd.R_below (by (with_reducible repeat (first | apply Kd.R_alloc | apply Kd.R_drewN | apply Kd.R_drew)); exact HO373.out) hb); have n1_ := Aside0.mk (blk_below (g := gb332) (o := .cells #[.int .i64 a0_0, .int .i64 a0_1, .int .i64 a0_2, .int .i64 a0_3, .string a0_4, .int .i64 a0_5, .string a0_6, .string a0_7, .string a0_8, .string a0_9, .int .i64 a0_10] 25 (0, 0)) (by (with_reducible repeat (first | refine blk_drewN ?_ _ | refine blk_drew ?_ | refine blk_alloc ?_ _)); exact BK332.out) hb); have n2_ := Aside0.mk (blk_below (g := gb333) (o := .cells #[.int .i64 a1_0, .int .i64 a1_1, .int .i64 a1_2, .int .i64 a1_3, .string a1_4, .bool a1_5, .slice A1_6 l1_6.length c1_6, .bool a1_7] 41 (0, 0)) (by (with_reducible repeat (first | refine blk_drewN ?_ _ | refine blk_drew ?_ | refine blk_alloc ?_ _)); exact BK333.out) hb); have n3_ := Aside0.mk (below_step (by repeat (first | (with_reducible first | exact HB.out | apply below_alloc | apply pw_below_drewN | apply below_drew1 | refine below_set ?_ GE332.out | refine below_set ?_ GE333.out) | exact HB.out)) hb); have n4_ := Aside0.mk (hbox); have n5_ := Aside0.mk ((by rw [hg]; exact (below_size (by repeat (first | (with_reducible first | exact HB.out | apply below_alloc | apply pw_below_drewN | apply below_drew1 | refine below_set ?_ GE332.out | refine below_set ?_ GE333.out) | exact HB.out))) : w.heap.size ≤ gb376)); have n6_ := Aside0.mk ((by rw [hg]; exact (below_size (by repeat (first | (with_reducible first | exact HB.out | apply below_alloc | apply pw_below_drewN | apply below_drew1 | refine below_set ?_ GE332.out | refine below_set ?_ GE333.out) | exact HB.out))) : w.heap.size ≤ gb376)); have n7_ := Aside0.mk ((by rw [hg]; exact Nat.ne_of_lt (blk_lt (g := gb332) (o := .cells #[.int .i64 a0_0, .int .i64 a0_1, .int .i64 a0_2, .int .i64 a0_3, .string a0_4, .int .i64 a0_5, .string a0_6, .string a0_7, .string a0_8, .string a0_9, .int .i64 a0_10] 25 (0, 0)) (by (with_reducible repeat (first | refine blk_drewN ?_ _ | refine blk_drew ?_ | refine blk_alloc ?_ _)); exact BK332.out)) : gb332 ≠ gb376)); have n8_ := Aside0.mk ((by rw [hg]; exact Nat.ne_of_gt (blk_lt (g := gb332) (o := .cells #[.int .i64 a0_0, .int .i64 a0_1, .int .i64 a0_2, .int .i64 a0_3, .string a0_4, .int .i64 a0_5, .string a0_6, .string a0_7, .string a0_8, .string a0_9, .int .i64 a0_10] 25 (0, 0)) (by (with_reducible repeat (first | refine blk_drewN ?_ _ | refine blk_drew ?_ | refine blk_alloc ?_ _)); exact BK332.out)) : gb376 ≠ gb332)); have n9_ := Aside0.mk ((by rw [hg]; exact Nat.ne_of_lt (blk_lt (g := gb333) (o := .cells #[.int .i64 a1_0, .int .i64 a1_1, .int .i64 a1_2, .int .i64 a1_3, .string a1_4, .bool a1_5, .slice A1_6 l1_6.length c1_6, .bool a1_7] 41 (0, 0)) (by (with_reducible repeat (first | refine blk_drewN ?_ _ | refine blk_drew ?_ | refine blk_alloc ?_ _)); exact BK333.out)) : gb333 ≠ gb376)); have n10_ := Aside0.mk ((by rw [hg]; exact Nat.ne_of_gt (blk_lt (g := gb333) (o := .cells #[.int .i64 a1_0, .int .i64 a1_1, .int .i64 a1_2, .int .i64 a1_3, .string a1_4, .bool a1_5, .slice A1_6 l1_6.length c1_6, .bool a1_7] 41 (0, 0)) (by (with_reducible repeat (first | refine blk_drewN ?_ _ | refine blk_drew ?_ | refine blk_alloc ?_ _)); exact BK333.out)) : gb376 ≠ gb333)); clear HO373; clear BK332; clear BK333; clear HB; have HO373 := n0_; have BK332 := n1_; have BK333 := n2_; have HB := n3_; have BK376 := n4_; have GW376 := n5_; have GE376 := n6_; have NB332_376 := n7_; have NB376_332 := n8_; have NB333_376 := n9_; have NB376_333 := n10_; clear n0_ n1_ n2_ n3_ n4_ n5_ n6_ n7_ n8_ n9_ n10_; clear hb hbox hg; have hnb73 := NB376_332.out; have hnc73 := NB332_376.out; have hnb74 := NB376_333.out; have hnc74 := NB333_376.out; have hcz75_0 : w72.cell? ⟨gb376, 0, none⟩ = some (.int .i64 0) := (blk_cell BK376.out 0).trans rfl; have hcz75_1 : w72.cell? ⟨gb376, 1, none⟩ = some (.int .i64 0) := (blk_cell BK376.out 1).trans rfl; have hcz75_2 : w72.cell? ⟨gb376, 2, none⟩ = some (.int .i64 0) := (blk_cell BK376.out 2).trans rfl; have hcz75_3 : w72.cell? ⟨gb376, 3, none⟩ = some (.int .i64 0) := (blk_cell BK376.out 3).trans rfl; have hcz75_4 : w72.cell? ⟨gb376, 4, none⟩ = some (.string (⟨#[]⟩ : ByteArray)) := (blk_cell BK376.out 4).trans rfl; have hcz75_5 : w72.cell? ⟨gb376, 5, none⟩ = some (.bool false) := (blk_cell BK376.out 5).trans rfl; have hcz75_6 : w72.cell? ⟨gb376, 6, none⟩ = some (.slice none 0 0) := (blk_cell BK376.out 6).trans rfl; have hcz75_7 : w72.cell? ⟨gb376, 7, none⟩ = some (.bool false) := (blk_cell BK376.out 7).trans rfl; have hfz75_0 := blk_frozen BK376.out 0; have hfz75_1 := blk_frozen BK376.out 1; have hfz75_2 := blk_frozen BK376.out 2; have hfz75_3 := blk_frozen BK376.out 3; have hfz75_4 := blk_frozen BK376.out 4; have hfz75_5 := blk_frozen BK376.out 5; have hfz75_6 := blk_frozen BK376.out 6; have hfz75_7 := blk_frozen BK376.out 7; obtain ⟨Ao76, co76, eo76⟩ := Kd.R_slice HO373.out; subst eo76) | ((with_reducible refine gate_callee (f := 17) rfl ?_); refine goesL_ (some 84) rfl rfl Tryd.func17 (by kernel_rfl) rfl #[.string (t337 ++ (⟨#[48]⟩ : ByteArray))] rfl (by (try simp only [List.map_toArray, List.map_cons, List.map_nil]); first | done | rfl | (simp only [List.length_drop, List.length_take]; rfl)) ?_; (with_reducible refine (wire_TakeReply.calls (t337 ++ (⟨#[48]⟩ : ByteArray)) t377 t378 t379 t380 t381 t382 t383 t386 t387 _ A68.out (handle_at HGL.out (by repeat (first | (with_reducible first | exact HB.out | apply below_alloc | apply pw_below_drewN | apply below_drew1 | refine below_set ?_ GE332.out | refine below_set ?_ GE333.out | refine below_set ?_ GE376.out) | exact HB.out)))).mono ?_); rintro e w77 ⟨v384, rfl, ho0, hb⟩; refine ⟨_, rfl, ?_⟩; have n0_ := Aside0.mk (Kd.R_elder' (by (with_reducible repeat (first | apply Kd.R_alloc | apply Kd.R_drewN | apply Kd.R_drew)); exact (Kd.R_mono (Kd.R_far (p := ⟨gb376, 7, none⟩) (Kd.R_far (p := ⟨gb376, 6, none⟩) (Kd.R_far (p := ⟨gb376, 5, none⟩) (Kd.R_far (p := ⟨gb376, 4, none⟩) (Kd.R_far (p := ⟨gb376, 3, none⟩) (Kd.R_far (p := ⟨gb376, 2, none⟩) (Kd.R_far (p := ⟨gb376, 1, none⟩) (Kd.R_far (p := ⟨gb376, 0, none⟩) (Kd.R_types HO373.out BK376.out (by decide)) (fun _ hk => hk.2) (.int .i64 t365)) (fun _ hk => hk.2) (.int .i64 t366)) (fun _ hk => hk.2) (.int .i64 t367)) (fun _ hk => hk.2) (.int .i64 t368)) (fun _ hk => hk.2) (.string t369)) (fun _ hk => hk.2) (.bool t370)) (fun _ hk => hk.2) (.slice Ao76 t371.length co76)) (fun _ hk => hk.2) (.bool t374)) (fun _ h_ => h_.1))) (Kd.R_base ho0) hb); have n1_ := Aside0.mk (Kd.R_lower (Kd.R_new' ho0 (Kd.R_lt (by (with_reducible repeat (first | apply Kd.R_alloc | apply Kd.R_drewN | apply Kd.R_drew)); exact (Kd.R_mono (Kd.R_far (p := ⟨gb376, 7, none⟩) (Kd.R_far (p := ⟨gb376, 6, none⟩) (Kd.R_far (p := ⟨gb376, 5, none⟩) (Kd.R_far (p := ⟨gb376, 4, none⟩) (Kd.R_far (p := ⟨gb376, 3, none⟩) (Kd.R_far (p := ⟨gb376, 2, none⟩) (Kd.R_far (p := ⟨gb376, 1, none⟩) (Kd.R_far (p := ⟨gb376, 0, none⟩) (Kd.R_types HO373.out BK376.out (by decide)) (fun _ hk => hk.2) (.int .i64 t365)) (fun _ hk => hk.2) (.int .i64 t366)) (fun _ hk => hk.2) (.int .i64 t367)) (fun _ hk => hk.2) (.int .i64 t368)) (fun _ hk => hk.2) (.string t369)) (fun _ hk => hk.2) (.bool t370)) (fun _ hk => hk.2) (.slice Ao76 t371.length co76)) (fun _ hk => hk.2) (.bool t374)) (fun _ h_ => h_.1))))) (below_size (by repeat (first | (with_reducible first | exact HB.out | apply below_alloc | apply pw_below_drewN | apply below_drew1 | refine below_set ?_ GE332.out | refine below_set ?_ GE333.out | refine below_set ?_ GE376.out) | exact HB.out)))); have n2_ := Aside0.mk (blk_below (g := gb332) (o := .cells #[.int .i64 a0_0, .int .i64 a0_1, .int .i64 a0_2, .int .i64 a0_3, .string a0_4, .int .i64 a0_5, .string a0_6, .string a0_7, .string a0_8, .string a0_9, .int .i64 a0_10] 25 (0, 0)) (by (with_reducible repeat (first | refine blk_drewN ?_ _ | refine blk_drew ?_ | refine blk_alloc ?_ _)); refine blk_far ?_ NB332_376.out _; (with_reducible repeat (first | refine blk_drewN ?_ _ | refine blk_drew ?_ | refine blk_alloc ?_ _)); refine blk_far ?_ NB332_376.out _; (with_reducible repeat (first | refine blk_drewN ?_ _ | refine blk_drew ?_ | refine blk_alloc ?_ _)); refine blk_far ?_ NB332_376.out _; (with_reducible repeat (first | refine blk_drewN ?_ _ | refine blk_drew ?_ | refine blk_alloc ?_ _)); refine blk_far ?_ NB332_376.out _; (with_reducible repeat (first | refine blk_drewN ?_ _ | refine blk_drew ?_ | refine blk_alloc ?_ _)); refine blk_far ?_ NB332_376.out _; (with_reducible repeat (first | refine blk_drewN ?_ _ | refine blk_drew ?_ | refine blk_alloc ?_ _)); refine blk_far ?_ NB332_376.out _; (with_reducible repeat (first | refine blk_drewN ?_ _ | refine blk_drew ?_ | refine blk_alloc ?_ _)); refine blk_far ?_ NB332_376.out _; (with_reducible repeat (first | refine blk_drewN ?_ _ | refine blk_drew ?_ | refine blk_alloc ?_ _)); refine blk_far ?_ NB332_376.out _; (with_reducible repeat (first | refine blk_drewN ?_ _ | refine blk_drew ?_ | refine blk_alloc ?_ _)); exact BK332.out) hb); have n3_ := Aside0.mk (blk_below (g := gb333) (o := .cells #[.int .i64 a1_0, .int .i64 a1_1, .int .i64 a1_2, .int .i64 a1_3, .string a1_4, .bool a1_5, .slice A1_6 l1_6.length c1_6, .bool a1_7] 41 (0, 0)) (by (with_reducible repeat (first | refine blk_drewN ?_ _ | refine blk_drew ?_ | refine blk_alloc ?_ _)); refine blk_far ?_ NB333_376.out _; (with_reducible repeat (first | refine blk_drewN ?_ _ | refine blk_drew ?_ | refine blk_alloc ?_ _)); refine blk_far ?_ NB333_376.out _; (with_reducible repeat (first | refine blk_drewN ?_ _ | refine blk_drew ?_ | refine blk_alloc ?_ _)); refine blk_far ?_ NB333_376.out _; (with_reducible repeat (first | refine blk_drewN ?_ _ | refine blk_drew ?_ | refine blk_alloc ?_ _)); refine blk_far ?_ NB333_376.out _; (with_reducible repeat (first | refine blk_drewN ?_ _ | refine blk_drew ?_ | refine blk_alloc ?_ _)); refine blk_far ?_ NB333_376.out _; (with_reducible repeat (first | refine blk_drewN ?_ _ | refine blk_drew ?_ | refine blk_alloc ?_ _)); refine blk_far ?_ NB333_376.out _; (with_reducible repeat (first | refine blk_drewN ?_ _ | refine blk_drew ?_ | refine blk_alloc ?_ _)); refine blk_far ?_ NB333_376.out _; (with_reducible repeat (first | refine blk_drewN ?_ _ | refine blk_drew ?_ | refine blk_alloc ?_ _)); refine blk_far ?_ NB333_376.out _; (with_reducible repeat (first | refine blk_drewN ?_ _ | refine blk_drew ?_ | refine blk_alloc ?_ _)); exact BK333.out) hb); have n4_ := Aside0.mk (blk_below (g := gb376) (o := .cells #[.int .i64 t365, .int .i64 t366, .int .i64 t367, .int .i64 t368, .string t369, .bool t370, .slice Ao76 t371.length co76, .bool t374] 41 (0, 0)) (by (with_reducible repeat (first | refine blk_drewN ?_ _ | refine blk_drew ?_ | refine blk_alloc ?_ _)); refine blk_put (cs := #[.int .i64 t365, .int .i64 t366, .int .i64 t367, .int .i64 t368, .string t369, .bool t370, .slice Ao76 t371.length co76, .bool false]) ?_ 7 _ rfl; (with_reducible repeat (first | refine blk_drewN ?_ _ | refine blk_drew ?_ | refine blk_alloc ?_ _)); refine blk_put (cs := #[.int .i64 t365, .int .i64 t366, .int .i64 t367, .int .i64 t368, .string t369, .bool t370, .slice none 0 0, .bool false]) ?_ 6 _ rfl; (with_reducible repeat (first | refine blk_drewN ?_ _ | refine blk_drew ?_ | refine blk_alloc ?_ _)); refine blk_put (cs := #[.int .i64 t365, .int .i64 t366, .int .i64 t367, .int .i64 t368, .string t369, .bool false, .slice none 0 0, .bool false]) ?_ 5 _ rfl; (with_reducible repeat (first | refine blk_drewN ?_ _ | refine blk_drew ?_ | refine blk_alloc ?_ _)); refine blk_put (cs := #[.int .i64 t365, .int .i64 t366, .int .i64 t367, .int .i64 t368, .string (⟨#[]⟩ : ByteArray), .bool false, .slice none 0 0, .bool false]) ?_ 4 _ rfl; (with_reducible repeat (first | refine blk_drewN ?_ _ | refine blk_drew ?_ | refine blk_alloc ?_ _)); refine blk_put (cs := #[.int .i64 t365, .int .i64 t366, .int .i64 t367, .int .i64 0, .string (⟨#[]⟩ : ByteArray), .bool false, .slice none 0 0, .bool false]) ?_ 3 _ rfl; (with_reducible repeat (first | refine blk_drewN ?_ _ | refine blk_drew ?_ | refine blk_alloc ?_ _)); refine blk_put (cs := #[.int .i64 t365, .int .i64 t366, .int .i64 0, .int .i64 0, .string (⟨#[]⟩ : ByteArray), .bool false, .slice none 0 0, .bool false]) ?_ 2 _ rfl; (with_reducible repeat (first | refine blk_drewN ?_ _ | refine blk_drew ?_ | refine blk_alloc ?_ _)); refine blk_put (cs := #[.int .i64 t365, .int .i64 0, .int .i64 0, .int .i64 0, .string (⟨#[]⟩ : ByteArray), .bool false, .slice none 0 0, .bool false]) ?_ 1 _ rfl; (with_reducible repeat (first | refine blk_drewN ?_ _ | refine blk_drew ?_ | refine blk_alloc ?_ _)); refine blk_put (cs := #[.int .i64 0, .int .i64 0, .int .i64 0, .int .i64 0, .string (⟨#[]⟩ : ByteArray), .bool false, .slice none 0 0, .bool false]) ?_ 0 _ rfl; (with_reducible repeat (first | refine blk_drewN ?_ _ | refine blk_drew ?_ | refine blk_alloc ?_ _)); exact BK376.out) hb); have n5_ := Aside0.mk (below_step (by repeat (first | (with_reducible first | exact HB.out | apply below_alloc | apply pw_below_drewN | apply below_drew1 | refine below_set ?_ GE332.out | refine below_set ?_ GE333.out | refine below_set ?_ GE376.out) | exact HB.out)) hb); clear HO373; clear BK332; clear BK333; clear BK376; clear HB; have HO373 := n0_; have HO385 := n1_; have BK332 := n2_; have BK333 := n3_; have BK376 := n4_; have HB := n5_; clear n0_ n1_ n2_ n3_ n4_ n5_; (try clear hb); (try clear hb2); (try clear hk); (try clear hi); (try clear ho0)) | ((with_reducible refine gate_dst (N := 18) rfl ?_); (try (refine gate_guard (by rfl) ?_; dsimp only)); refine box_event ?hg (N := 18) ?hd (cs := #[.int .i64 0, .int .i64 0, .int .i64 0, .int .i64 0, .string (⟨#[]⟩ : ByteArray), .bool false, .slice none 0 0, .bool false]) (t := 41) ?hr ?_; (case hd => rfl); (case hg => rfl); (case hr => first | (go_simp; done) | (go_simp; rfl)); intro gb388 hg w78 hbox hb; have n0_ := Aside0.mk (Kd.R_below (by (with_reducible repeat (first | apply Kd.R_alloc | apply Kd.R_drewN | apply Kd.R_drew)); exact HO373.out) hb); have n1_ := Aside0.mk (Kd.R_below (by (with_reducible repeat (first | apply Kd.R_alloc | apply Kd.R_drewN | apply Kd.R_drew)); exact HO385.out) hb); have n2_ := Aside0.mk (blk_below (g := gb332) (o := .cells #[.int .i64 a0_0, .int .i64 a0_1, .int .i64 a0_2, .int .i64 a0_3, .string a0_4, .int .i64 a0_5, .string a0_6, .string a0_7, .string a0_8, .string a0_9, .int .i64 a0_10] 25 (0, 0)) (by (with_reducible repeat (first | refine blk_drewN ?_ _ | refine blk_drew ?_ | refine blk_alloc ?_ _)); exact BK332.out) hb); have n3_ := Aside0.mk (blk_below (g := gb333) (o := .cells #[.int .i64 a1_0, .int .i64 a1_1, .int .i64 a1_2, .int .i64 a1_3, .string a1_4, .bool a1_5, .slice A1_6 l1_6.length c1_6, .bool a1_7] 41 (0, 0)) (by (with_reducible repeat (first | refine blk_drewN ?_ _ | refine blk_drew ?_ | refine blk_alloc ?_ _)); exact BK333.out) hb); have n4_ := Aside0.mk (blk_below (g := gb376) (o := .cells #[.int .i64 t365, .int .i64 t366, .int .i64 t367, .int .i64 t368, .string t369, .bool t370, .slice Ao76 t371.length co76, .bool t374] 41 (0, 0)) (by (with_reducible repeat (first | refine blk_drewN ?_ _ | refine blk_drew ?_ | refine blk_alloc ?_ _)); exact BK376.out) hb); have n5_ := Aside0.mk (below_step (by repeat (first | (with_reducible first | exact HB.out | apply below_alloc | apply pw_below_drewN | apply below_drew1 | refine below_set ?_ GE332.out | refine below_set ?_ GE333.out | refine below_set ?_ GE376.out) | exact HB.out)) hb); have n6_ := Aside0.mk (hbox); have n7_ := Aside0.mk ((by rw [hg]; exact (below_size (by repeat (first | (with_reducible first | exact HB.out | apply below_alloc | apply pw_below_drewN | apply below_drew1 | refine below_set ?_ GE332.out | refine below_set ?_ GE333.out | refine below_set ?_ GE376.out) | exact HB.out))) : w.heap.size ≤ gb388)); have n8_ := Aside0.mk ((by rw [hg]; exact (below_size (by repeat (first | (with_reducible first | exact HB.out | apply below_alloc | apply pw_below_drewN | apply below_drew1 | refine below_set ?_ GE332.out | refine below_set ?_ GE333.out | refine below_set ?_ GE376.out) | exact HB.out))) : w.heap.size ≤ gb388)); have n9_ := Aside0.mk ((by rw [hg]; exact Nat.ne_of_lt (blk_lt (g := gb332) (o := .cells #[.int .i64 a0_0, .int .i64 a0_1, .int .i64 a0_2, .int .i64 a0_3, .string a0_4, .int .i64 a0_5, .string a0_6, .string a0_7, .string a0_8, .string a0_9, .int .i64 a0_10] 25 (0, 0)) (by (with_reducible repeat (first | refine blk_drewN ?_ _ | refine blk_drew ?_ | refine blk_alloc ?_ _)); exact BK332.out)) : gb332 ≠ gb388)); have n10_ := Aside0.mk ((by rw [hg]; exact Nat.ne_of_gt (blk_lt (g := gb332) (o := .cells #[.int .i64 a0_0, .int .i64 a0_1, .int .i64 a0_2, .int .i64 a0_3, .string a0_4, .int .i64 a0_5, .string a0_6, .string a0_7, .string a0_8, .string a0_9, .int .i64 a0_10] 25 (0, 0)) (by (with_reducible repeat (first | refine blk_drewN ?_ _ | refine blk_drew ?_ | refine blk_alloc ?_ _)); exact BK332.out)) : gb388 ≠ gb332)); have n11_ := Aside0.mk ((by rw [hg]; exact Nat.ne_of_lt (blk_lt (g := gb333) (o := .cells #[.int .i64 a1_0, .int .i64 a1_1, .int .i64 a1_2, .int .i64 a1_3, .string a1_4, .bool a1_5, .slice A1_6 l1_6.length c1_6, .bool a1_7] 41 (0, 0)) (by (with_reducible repeat (first | refine blk_drewN ?_ _ | refine blk_drew ?_ | refine blk_alloc ?_ _)); exact BK333.out)) : gb333 ≠ gb388)); have n12_ := Aside0.mk ((by rw [hg]; exact Nat.ne_of_gt (blk_lt (g := gb333) (o := .cells #[.int .i64 a1_0, .int .i64 a1_1, .int .i64 a1_2, .int .i64 a1_3, .string a1_4, .bool a1_5, .slice A1_6 l1_6.length c1_6, .bool a1_7] 41 (0, 0)) (by (with_reducible repeat (first | refine blk_drewN ?_ _ | refine blk_drew ?_ | refine blk_alloc ?_ _)); exact BK333.out)) : gb388 ≠ gb333)); have n13_ := Aside0.mk ((by rw [hg]; exact Nat.ne_of_lt (blk_lt (g := gb376) (o := .cells #[.int .i64 t365, .int .i64 t366, .int .i64 t367, .int .i64 t368, .string t369, .bool t370, .slice Ao76 t371.length co76, .bool t374] 41 (0, 0)) (by (with_reducible repeat (first | refine blk_drewN ?_ _ | refine blk_drew ?_ | refine blk_alloc ?_ _)); exact BK376.out)) : gb376 ≠ gb388)); have n14_ := Aside0.mk ((by rw [hg]; exact Nat.ne_of_gt (blk_lt (g := gb376) (o := .cells #[.int .i64 t365, .int .i64 t366, .int .i64 t367, .int .i64 t368, .string t369, .bool t370, .slice Ao76 t371.length co76, .bool t374] 41 (0, 0)) (by (with_reducible repeat (first | refine blk_drewN ?_ _ | refine blk_drew ?_ | refine blk_alloc ?_ _)); exact BK376.out)) : gb388 ≠ gb376)); clear HO373; clear HO385; clear BK332; clear BK333; clear BK376; clear HB; have HO373 := n0_; have HO385 := n1_; have BK332 := n2_; have BK333 := n3_; have BK376 := n4_; have HB := n5_; have BK388 := n6_; have GW388 := n7_; have GE388 := n8_; have NB332_388 := n9_; have NB388_332 := n10_; have NB333_388 := n11_; have NB388_333 := n12_; have NB376_388 := n13_; have NB388_376 := n14_; clear n0_ n1_ n2_ n3_ n4_ n5_ n6_ n7_ n8_ n9_ n10_ n11_ n12_ n13_ n14_; clear hb hbox hg; have hnb79 := NB388_332.out; have hnc79 := NB332_388.out; have hnb80 := NB388_333.out; have hnc80 := NB333_388.out; have hnb81 := NB388_376.out; have hnc81 := NB376_388.out; have hcz82_0 : w78.cell? ⟨gb388, 0, none⟩ = some (.int .i64 0) := (blk_cell BK388.out 0).trans rfl; have hcz82_1 : w78.cell? ⟨gb388, 1, none⟩ = some (.int .i64 0) := (blk_cell BK388.out 1).trans rfl; have hcz82_2 : w78.cell? ⟨gb388, 2, none⟩ = some (.int .i64 0) := (blk_cell BK388.out 2).trans rfl; have hcz82_3 : w78.cell? ⟨gb388, 3, none⟩ = some (.int .i64 0) := (blk_cell BK388.out 3).trans rfl; have hcz82_4 : w78.cell? ⟨gb388, 4, none⟩ = some (.string (⟨#[]⟩ : ByteArray)) := (blk_cell BK388.out 4).trans rfl; have hcz82_5 : w78.cell? ⟨gb388, 5, none⟩ = some (.bool false) := (blk_cell BK388.out 5).trans rfl; have hcz82_6 : w78.cell? ⟨gb388, 6, none⟩ = some (.slice none 0 0) := (blk_cell BK388.out 6).trans rfl; have hcz82_7 : w78.cell? ⟨gb388, 7, none⟩ = some (.bool false) := (blk_cell BK388.out 7).trans rfl; have hfz82_0 := blk_frozen BK388.out 0; have hfz82_1 := blk_frozen BK388.out 1; have hfz82_2 := blk_frozen BK388.out 2; have hfz82_3 := blk_frozen BK388.out 3; have hfz82_4 := blk_frozen BK388.out 4; have hfz82_5 := blk_frozen BK388.out 5; have hfz82_6 := blk_frozen BK388.out 6; have hfz82_7 := blk_frozen BK388.out 7; obtain ⟨Ao83, co83, eo83⟩ := Kd.R_slice HO385.out; subst eo83))
                          go_ret
                          exact ⟨by first | rfl | (simp [errW_none, errW_some] <;> rfl) | (simp [*, errW_none, errW_some] <;> rfl), by repeat (first | (with_reducible first | exact HB.out | apply below_alloc | apply pw_below_drewN | apply below_drew1 | refine below_set ?_ GE332.out | refine below_set ?_ GE333.out | refine below_set ?_ GE376.out | refine below_set ?_ GE388.out) | exact HB.out)⟩
                        · rw [if_neg c70] at H
                          have c70b0 : (t387 == 3) = false := beq_eq_false_iff_ne.mpr c70
                          have c70b1 : (t387 != 3) = true := bne_iff_ne.mpr c70
                          obtain rfl := Option.some.inj H
                          cases hr.out
                      · rw [if_neg c69] at H
                        have c69b0 : (t375 == 3) = false := beq_eq_false_iff_ne.mpr c69
                        have c69b1 : (t375 != 3) = true := bne_iff_ne.mpr c69
                        obtain rfl := Option.some.inj H
                        cases hr.out
                    · rw [if_neg c67] at H
                      exact absurd H (by simp)
                  · rw [if_neg c65] at H
                    exact absurd H (by simp)
                · rw [if_neg c64] at H
                  exact absurd H (by simp)
              · replace c63 := Bool.eq_false_iff.mpr c63
                subst c63
                have H1 : (some t334) = some r := by rw [if_neg (show ¬ (false = true) by decide)] at H; exact H
                clear H
                have H := H1
                clear H1
                obtain rfl := Option.some.inj H
                go_wp2
                go_ret
                exact ⟨by first | rfl | (simp [errW_none, errW_some] <;> rfl) | (simp [*, errW_none, errW_some] <;> rfl), by repeat (first | (with_reducible first | exact HB.out | apply below_alloc | apply pw_below_drewN | apply below_drew1 | refine below_set ?_ GE332.out | refine below_set ?_ GE333.out) | exact HB.out)⟩

end Go.Proofs.YtlpcidjmaeicoaaDoor.QWi

/-! OpenRow -/
/- A row of texts (or of numbers) among the arguments, opened for the printed contracts; what the bound on the bulk says of it. -/
namespace Go.Proofs.YtlpcidjmaeicoaaDoor.OpenRow
open Go Go.ChangeShapes Go.WideShapes Go.RowKit Go.Proofs.YtlpcidjmaeicoaaDoorW.PrintWords

/-- How many letters and texts a row holds. -/
def rowBulk : List ByteArray → Nat
  | [] => 0
  | t :: l => t.size + 1 + rowBulk l
theorem one_le {H : Type} (d : DataW H) : 1 ≤ Rows.uptoBulk d := by
  cases d with
  | lit l => cases l <;> simp [Rows.uptoBulk]
  | nil => simp [Rows.uptoBulk]
  | ptr d => simp [Rows.uptoBulk]
  | slice elems spare => simp [Rows.uptoBulk]
  | agg parts => simp [Rows.uptoBulk]
  | iface t d => simp [Rows.uptoBulk]
  | map entries => simp [Rows.uptoBulk]
  | held h => simp [Rows.uptoBulk]
theorem length_le {H : Type} (l : List (DataW H)) : l.length ≤ Rows.uptoBulkAll l := by
  induction l with
  | nil => simp [Rows.uptoBulkAll]
  | cons x r ih =>
    have := one_le x
    simp only [Rows.uptoBulkAll, List.length_cons]
    omega
section
variable {H : Type} {enc : TypeId × Value → H} {P : Program} {W : World} {t e : TypeId} {fuel : Nat} {A0 : Option Addr} {n0 c0 : Nat} {x : DataW H × List MemPlace}
theorem slice_value {cs : List Value} (ht : P.underlying t = some (.slice e)) (h : DataW.trod enc P W 0 (fun _ => true) true fuel t cs = some x) : ∃ A n c, cs = [.slice A n c] := by
  rcases DataW.trod_slice ht h with ⟨h0, _⟩ | ⟨a, len, cap, _, _, _, _, h0, _⟩
  · exact ⟨_, _, _, h0⟩
  · exact ⟨_, _, _, h0⟩
theorem slice_value1 {v : Value} (ht : P.underlying t = some (.slice e)) (h : DataW.trod enc P W 0 (fun _ => true) true fuel t [v] = some x) : ∃ A n c, v = .slice A n c := by
  obtain ⟨A, n, c, h⟩ := slice_value ht h
  exact ⟨A, n, c, by simpa using h⟩
end
theorem agg_bulk {H : Type} {d : DataW H} {p : List MemPlace} {xs : List (DataW H × List MemPlace)} (h : (d, p) = (.agg (xs.map (·.1)), xs.flatMap (·.2))) : Rows.uptoBulk d = Rows.uptoBulkAll (xs.map (·.1)) + 1 := by
  obtain rfl := (Prod.mk.inj h).1
  simp only [Rows.uptoBulk]
theorem agg_bulk1 {H : Type} {y : DataW H × List MemPlace} {xs : List (DataW H × List MemPlace)} (h : y = (.agg (xs.map (·.1)), xs.flatMap (·.2))) : Rows.uptoBulk y.1 = Rows.uptoBulkAll (xs.map (·.1)) + 1 := by
  subst h
  simp only [Rows.uptoBulk]
theorem str_bulk0 {H : Type} (s : ByteArray) : Rows.uptoBulk (DataW.lit (H := H) (.string s.data.toList)) = s.size + 1 := by
  simp only [Rows.uptoBulk]
  rw [Array.length_toList]
  rfl
theorem str_bulk {H : Type} {y : DataW H × List MemPlace} {s : ByteArray} (h : y = (.lit (.string s.data.toList), [])) : Rows.uptoBulk y.1 = s.size + 1 := by
  subst h
  exact str_bulk0 s
end Go.Proofs.YtlpcidjmaeicoaaDoor.OpenRow

/-! OpenPairs -/
/- A row of pairs among the arguments, opened for the printed contracts. -/
namespace Go.Proofs.YtlpcidjmaeicoaaDoor.OpenPairs
open Go Go.ChangeShapes Go.WideShapes Go.RowKit Go.Proofs.YtlpcidjmaeicoaaDoorW.PrintWords Go.Proofs.YtlpcidjmaeicoaaDoor.QWi

theorem cellsPair : Tryd.prog.cellsOf 74 = 2 := by kernel_rfl
theorem cellsStr : Tryd.prog.cellsOf 9 = 1 := by kernel_rfl
theorem open_pairs {H : Type} {enc : TypeId × Value → H} {W : World} {fuel : Nat} {A0 : Option Addr} {n0 c0 : Nat} {x : DataW H × List MemPlace}
    (h : DataW.trod enc Tryd.prog W 0 (fun _ => true) true fuel 39 [.slice A0 n0 c0] = some x) :
    ∃ l : List S74, n0 = l.length ∧ Kd.C k74 W A0 l.length l ∧ l.length ≤ c0 ∧ l.length + 1 ≤ Rows.uptoBulk x.1 ∧ (l.length ≤ 9223372036854775807 ∧ ∀ x ∈ l, x.f0.size ≤ 9223372036854775807) := by
  rcases Deep.open_slice_pairs Tryd.underlying39 Tryd.underlying74 cellsPair rfl rfl cellsStr cellsStr h with ⟨hcs, rfl⟩ | ⟨a, len, cap, m, n, V0, V1, D0, D1, P0, P1, hcs, _, hl, hm, hmm, rfl, hx⟩
  · simp only [List.cons.injEq, and_true, Value.slice.injEq] at hcs
    obtain ⟨rfl, rfl, rfl⟩ := hcs
    exact ⟨[], rfl, Kd.C_nil _ _, Nat.zero_le _, by simp [Rows.uptoBulk], Nat.zero_le _, fun _ h => by cases h⟩
  · simp only [List.cons.injEq, and_true, Value.slice.injEq] at hcs
    obtain ⟨rfl, rfl, rfl⟩ := hcs
    rw [if_pos rfl] at hmm
    unfold maxLen at hm
    have each : ∀ i, i < m → ∃ s : S74, V0 i = .string s.f0 ∧ V1 i = .string s.f1 ∧ s.f0.size ≤ 9223372036854775807 := by
      intro i hi
      obtain ⟨_, _, g0, g1⟩ := hx i hi
      obtain ⟨s0, e0, _, z0⟩ := DataW.trod_string Tryd.underlying9 g0
      obtain ⟨s1, e1, _⟩ := DataW.trod_string Tryd.underlying9 g1
      exact ⟨⟨s0, s1⟩, by simpa using e0, by simpa using e1, z0⟩
    obtain ⟨f, hf⟩ : ∃ f : Nat → S74, ∀ i, i < m → V0 i = .string (f i).f0 ∧ V1 i = .string (f i).f1 ∧ (f i).f0.size ≤ 9223372036854775807 := by
      refine ⟨fun i => if hi : i < m then Classical.choose (each i hi) else z74, fun i hi => ?_⟩
      simp only [dif_pos hi]
      exact Classical.choose_spec (each i hi)
    have hlen : ((List.range n0).map f).length = n0 := by rw [List.length_map, List.length_range]
    refine ⟨(List.range n0).map f, hlen.symm, ⟨rfl, by omega, fun hn => ⟨a, rfl, fun j p hj => ?_⟩⟩, by omega, ?_, by omega, fun x hx => ?_⟩
    · have hj2 : j < n0 := by
        have := (List.getElem?_eq_some_iff.1 hj).1
        omega
      rw [List.getElem?_map, List.getElem?_range hj2] at hj
      obtain rfl : f j = p := by simpa using hj
      obtain ⟨c0', c1', _, _⟩ := hx j (by omega)
      obtain ⟨v0, v1, _⟩ := hf j (by omega)
      rw [v0] at c0'
      rw [v1] at c1'
      refine ⟨[.string (f j).f0, .string (f j).f1], rfl, k74_mk W (f j), fun i u hu => ?_⟩
      match i, hu with
      | 0, hu =>
        obtain rfl : Value.string (f j).f0 = u := by simpa using hu
        exact c0'
      | 1, hu =>
        obtain rfl : Value.string (f j).f1 = u := by simpa using hu
        exact c1'
      | i + 2, hu => simp at hu
    · simp only [Rows.uptoBulk]
      refine Nat.succ_le_succ (Nat.le_trans (Nat.le_trans (Nat.le_of_eq ?_) (OpenRow.length_le _)) (Nat.le_add_right ..))
      simp
    · obtain ⟨i, hi, rfl⟩ := List.mem_map.1 hx
      exact (hf i (by have := List.mem_range.1 hi; omega)).2.2
end Go.Proofs.YtlpcidjmaeicoaaDoor.OpenPairs

/-! Was -/
/- What is taken was written: a text that begins bytes is told by its own encoding. -/
namespace Go.Proofs.YtlpcidjmaeicoaaDoor.DecPure
open Go Go.Proofs.YtlpcidjmaeicoaaDoor.DecM Go.Proofs.YtlpcidjmaeicoaaDoor.Giv

theorem text_was (s : ByteArray) (most : Int) (h : (takeText s most).2.2 = 0) : s = textS (takeText s most).1 ++ (takeText s most).2.1 ∧ ((takeText s most).1.size : Int) ≤ most ∧ (takeText s most).1.size < two64 := by
  unfold takeText at h ⊢
  by_cases h1 : ¬ (takeNum s).2.2 = 0
  · rw [if_pos h1] at h
    exact absurd h h1
  rw [if_neg h1] at h ⊢
  by_cases h2 : most < 0 ∨ (takeNum s).1 > most
  · rw [if_pos h2] at h
    cases h
  rw [if_neg h2] at h ⊢
  by_cases h3 : (takeNum s).1 > (takeNum s).2.1.size
  · rw [if_pos h3] at h
    cases h
  rw [if_neg h3]
  have h1' : (takeNum s).2.2 = 0 := Decidable.not_not.mp h1
  obtain ⟨n, e1, e2, e⟩ := take_was (s := s) (v := (takeNum s).1) (r := (takeNum s).2.1) (by rw [← h1'])
  clear h h1 h1'
  generalize (takeNum s).2.1 = r at *
  generalize (takeNum s).1 = v at *
  subst e1
  simp only [Int.toNat_natCast]
  have hn : n ≤ r.size := by omega
  have hsz : (r.extract 0 n).size = n := by
    rw [ByteArray.size_extract]
    omega
  refine ⟨?_, by rw [hsz]; omega, by rw [hsz]; exact e2⟩
  rw [e]
  unfold textS
  rw [hsz, ByteArray.append_assoc]
  congr 1
  apply bytes_ext
  rw [data_append, ext_upto, ext_from, List.take_append_drop]
end Go.Proofs.YtlpcidjmaeicoaaDoor.DecPure

/-! Enc -/
/- Numbers and texts written and taken, one behind the other: plain laws. -/
namespace Go.Proofs.YtlpcidjmaeicoaaDoor.Enc
open Go Go.RowKit Go.Proofs.YtlpcidjmaeicoaaDoor.DecM Go.Proofs.YtlpcidjmaeicoaaDoor.Giv Go.Proofs.YtlpcidjmaeicoaaDoor.Wire Go.Proofs.YtlpcidjmaeicoaaDoor.Reader

theorem asc (a b c : ByteArray) : a ++ b ++ c = a ++ (b ++ c) := by
  apply bytes_ext
  simp only [data_append, List.append_assoc]
theorem app_empty (a : ByteArray) : a ++ (⟨#[]⟩ : ByteArray) = a := by
  apply bytes_ext
  simp only [data_append, List.append_nil]
theorem size_nil {s : ByteArray} (h : s.size = 0) : s = (⟨#[]⟩ : ByteArray) := by
  apply bytes_ext
  have := len_size s
  rw [h] at this
  exact List.eq_nil_of_length_eq_zero this
/-! ### a number, a text -/
theorem nx_bad {α : Type} (s : ByteArray) (m : Int) (f : Int → ByteArray × Bool → α) : nx (s, true) m f = f 0 (s, true) :=
  nx_of (x := (s, true)) (v := (0, s, true)) f (if_pos (.inl rfl))
theorem tx_bad {α : Type} (s : ByteArray) (m : Int) (f : ByteArray → ByteArray × Bool → α) : tx (s, true) m f = f ByteArray.empty (s, true) :=
  tx_of (x := (s, true)) (v := (ByteArray.empty, s, true)) f (if_pos (.inl rfl))
theorem nx_back {α : Type} (n : Int) (r : ByteArray) (m : Int) (f : Int → ByteArray × Bool → α) (hn : 0 ≤ n ∧ n ≤ m) (hm : m ≤ 1073741824) : nx (numS n.toNat ++ r, false) m f = f n (r, false) := by
  have e := take_back n.toNat (by unfold two64; omega) r
  have en : ((n.toNat : Nat) : Int) = n := by omega
  rw [en] at e
  refine nx_of f (?_ : _ = (n, r, false))
  show numR (numS n.toNat ++ r) false m = _
  unfold numR
  rw [e]
  exact if_neg (by simp; omega)
theorem tx_back {α : Type} (t r : ByteArray) (m : Int) (f : ByteArray → ByteArray × Bool → α) (ht : (t.size : Int) ≤ m) (hm : m ≤ 1073741824) : tx (textS t ++ r, false) m f = f t (r, false) := by
  have e := DecPure.text_back t r m (by omega)
  rw [if_neg (by omega)] at e
  refine tx_of f (?_ : _ = (t, r, false))
  show textR (textS t ++ r) false m = _
  unfold textR
  rw [e]
  exact if_neg (by simp)
/-- What holds of a number's end: of the one that failed, and of what was written. -/
theorem nx_rule {s : ByteArray} {m : Int} {f : Int → ByteArray × Bool → Prop} (h0 : f 0 (s, true)) (h1 : ∀ (n : Int) (r : ByteArray), 0 ≤ n ∧ n ≤ m → s = numS n.toNat ++ r → f n (r, false)) : nx (s, false) m f := by
  by_cases hc : false = true ∨ ¬ (takeNum s).2.2 = 0 ∨ (takeNum s).1 > m
  · rw [nx_of f (show numR s false m = (0, s, true) from if_pos hc)]
    exact h0
  · rw [nx_of f (show numR s false m = ((takeNum s).1, (takeNum s).2.1, false) from if_neg hc)]
    simp only [not_or, Classical.not_not] at hc
    obtain ⟨n, e1, e2, e3⟩ := take_was (s := s) (v := (takeNum s).1) (r := (takeNum s).2.1) (by rw [← hc.2.1])
    refine h1 _ _ ⟨by omega, by omega⟩ ?_
    rw [e1, Int.toNat_natCast]
    exact e3
theorem tx_rule {s : ByteArray} {m : Int} {f : ByteArray → ByteArray × Bool → Prop} (h0 : f ByteArray.empty (s, true)) (h1 : ∀ (t r : ByteArray), (t.size : Int) ≤ m → s = textS t ++ r → f t (r, false)) : tx (s, false) m f := by
  by_cases hc : false = true ∨ ¬ (takeText s m).2.2 = 0
  · rw [tx_of f (show textR s false m = (ByteArray.empty, s, true) from if_pos hc)]
    exact h0
  · rw [tx_of f (show textR s false m = ((takeText s m).1, (takeText s m).2.1, false) from if_neg hc)]
    simp only [not_or, Classical.not_not] at hc
    obtain ⟨e1, e2, e3⟩ := DecPure.text_was s m hc.2
    exact h1 _ _ e2 e1
/-! ### what is written -/
theorem nums_one (a : Int) : numsS [a] = numS a.toNat := by
  apply bytes_ext
  simp [numsS, numP, glue]
theorem nums_cons (a b : Int) (l : List Int) : numsS (a :: b :: l) = numS a.toNat ++ numsS (b :: l) := by
  apply bytes_ext
  rw [data_append]
  simp [numsS, numP, glue]
theorem texts_one (t : ByteArray) : textsW [t] = textS t := by
  apply bytes_ext
  simp [textsW, textP, glue, textW, textS]
theorem texts_cons (t u : ByteArray) (l : List ByteArray) : textsW (t :: u :: l) = textS t ++ textsW (u :: l) := by
  apply bytes_ext
  rw [data_append]
  simp [textsW, textP, glue, textW, textS]
theorem numS_le (d n : Nat) (h : n < 10 ^ (d + 1)) : (numS n).size ≤ d + 2 := by
  have h1 := numL_len d n h
  unfold numS
  rw [strOfNums_size, List.length_append]
  simp
  omega
theorem numS_ge (n : Nat) : 1 ≤ (numS n).size := by
  unfold numS
  rw [strOfNums_size, List.length_append]
  simp
theorem num_size (n : Int) (h : 0 ≤ n ∧ n ≤ 1073741824) : (numS n.toNat).size ≤ 11 := numS_le 9 n.toNat (by omega)
theorem text_size (t : ByteArray) (h : t.size ≤ 64) : (textS t).size ≤ 3 + t.size := by
  have := numS_le 1 t.size (by omega)
  unfold textS
  rw [ByteArray.size_append]
  omega
theorem glue_len (l : List ByteArray) (d : Nat) (h : ∀ t ∈ l, t.size ≤ d) : (glue l).length ≤ d * l.length := by
  induction l with
  | nil => exact Nat.zero_le _
  | cons t l ih =>
    have e : glue (t :: l) = t.data.toList ++ glue l := rfl
    have h1 := h t (List.mem_cons_self ..)
    have h2 := ih fun u hu => h u (List.mem_cons_of_mem _ hu)
    rw [e, List.length_append, List.length_cons, len_size, Nat.mul_succ]
    omega
theorem nums_some (l : List Int) (hl : l.length ≤ 16) (h : ∀ x ∈ l, 0 ≤ x ∧ x ≤ 1073741824) : QWi.wire_nums.f l = some (numsS l) := by
  unfold QWi.wire_nums.f
  rw [if_pos ⟨by omega, List.all_eq_true.2 fun x hx => by have := h x hx; simp; omega⟩]
theorem texts_some (l : List ByteArray) (hl : l.length ≤ 16) (h : ∀ t ∈ l, t.size ≤ 64) : QWi.wire_texts.f l = some (textsW l) := by
  unfold QWi.wire_texts.f
  have h1 := glue_len (textP l) 67 (fun t ht => by
    obtain ⟨u, hu, rfl⟩ := List.mem_map.1 ht
    have := h u hu
    have h2 : (textW u).size ≤ 3 + u.size := text_size u this
    omega)
  have h2 : (textP l).length = l.length := List.length_map ..
  rw [h2] at h1
  rw [if_pos ⟨by omega, by omega⟩]
end Go.Proofs.YtlpcidjmaeicoaaDoor.Enc
