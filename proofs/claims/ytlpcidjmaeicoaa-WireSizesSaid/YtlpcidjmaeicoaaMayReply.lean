/- The walk of wire.mayReply (written by wip/mkmay.py). -/
import Derived.Test.YtlpcidjmaeicoaaLong
import Derived.Test.YtlpcidjmaeicoaaQWix2
import Derived.RangeFuncRecord
namespace Go.Proofs.Ytlpcidjmaeicoaa.QWi
open Go Go.RowKit Go.Proofs.YtlpcidjmaeicoaaW.PrintWords Go.Proofs.YtlpcidjmaeicoaaW.PrintLast Go.Proofs.YtlpcidjmaeicoaaW.PrintMore

def numB (x : Int) : Bool := decide (0 ≤ x) && decide (x ≤ 1073741824)
theorem num_f (x : Int) : wire_num.f x = some (numB x) := by
  unfold wire_num.f numB
  by_cases h : x ≥ 0
  · rw [if_pos h, decide_eq_true (show 0 ≤ x from h), Bool.true_and]
  · rw [if_neg h, decide_eq_false (show ¬ 0 ≤ x from h), Bool.false_and]
theorem num_is (x : Int) (b : Bool) (h : numB x = b) (w : World) : Calls Try.prog 12 #[.int .i64 x] w fun e w' => e = .returned (.bool b) ∧ Below w.heap.size w w' := by
  refine (wire_num.calls x b w (by rw [num_f, h])).mono ?_
  rintro e w' ⟨rfl, nd, rfl⟩
  exact ⟨rfl, ⟨rfl, rfl, rfl, Nat.le_refl _, fun _ _ => rfl⟩⟩
theorem right_is (A0 : Option Addr) (c0 : Nat) (l0 : List S41) (k : Nat) (b : Bool) (h : table_Right.f k l0 = some b) (w : World) (hr0 : Kd.C k41 w A0 l0.length l0) (hc0 : l0.length ≤ c0) :
    Calls Try.prog 18 #[.slice A0 l0.length c0] w fun e w' => e = .returned (.bool b) ∧ Below w.heap.size w w' := by
  refine (table_Right.calls k A0 c0 l0 b w hr0 hc0 h).mono ?_
  rintro e w' ⟨rfl, nd, rfl⟩
  exact ⟨rfl, ⟨rfl, rfl, rfl, Nat.le_refl _, fun _ _ => rfl⟩⟩
theorem contains_is (A0 : Option Addr) (c0 : Nat) (l0 : List S41) (b : Bool) (w : World) (hr0 : Kd.C k41 w A0 l0.length l0) (hc0 : l0.length ≤ c0) (hl : l0.length ≤ 1048576) (hm : l0.any longP = b) :
    Calls Try.prog 19 #[.slice A0 l0.length c0, .func (.func 17) #[] #[]] w fun e w' => e = .returned (.bool b) ∧ Below w.heap.size w w' := by
  cases b with
  | true => exact contains_yes A0 c0 l0 w hr0 hc0 hl hm
  | false => exact contains_no A0 c0 l0 w hr0 hc0 hl hm
theorem cell_in {w : World} {b : Nat} {cs : Array Value} {T : TypeId} {fr : Nat × Nat} (hb : w.heap[b]? = some (.cells cs T fr)) (j : Nat) (v : Value) (h : cs[j]? = some v) : w.cell? ⟨b, j, none⟩ = some v := by
  rw [← h]
  simp [World.cell?, hb]
set_option maxRecDepth 100000 in
set_option maxHeartbeats 4000000 in
theorem may_0 (a0 a1 a2 a3 : Int) (a4 : ByteArray) (a5 : Bool) (A6 : Option Addr) (c6 : Nat) (l6 : List S41) (a7 : Bool) (w : World) (hr : Kd.C k41 w A6 l6.length l6) (hc : l6.length ≤ c6) (q0 : numB a0 = false) :
    Calls Try.prog 10 #[.agg #[.int .i64 a0, .int .i64 a1, .int .i64 a2, .int .i64 a3, .string a4, .bool a5, .slice A6 l6.length c6, .bool a7]] w fun e w' => e = .returned (.bool false) ∧ Below w.heap.size w w' := by
  have HR := Lib.hid hr
  have HC := Lib.hid hc
  have HB := Lib.hid ((Below.refl w.heap.size w).alloc (Nat.le_refl _) (.cells #[.int .i64 a0, .int .i64 a1, .int .i64 a2, .int .i64 a3, .string a4, .bool a5, .slice A6 l6.length c6, .bool a7] 29))
  clear hr hc
  have N0 := Lib.hid (num_is a0 _ q0)
  clear q0
  go_enter Try.func10, Try.ntmps10
  have HK : Hid ((w.alloc (.cells #[.int .i64 a0, .int .i64 a1, .int .i64 a2, .int .i64 a3, .string a4, .bool a5, .slice A6 l6.length c6, .bool a7] 29)).heap[w.heap.size]? = some (.cells #[.int .i64 a0, .int .i64 a1, .int .i64 a2, .int .i64 a3, .string a4, .bool a5, .slice A6 l6.length c6, .bool a7] 29 (0, 0))) := Lib.hid (World.alloc_heap_new w _)
  go_wp2_with fail
  refine (N0.out _).mono ?_
  rintro e v0 ⟨rfl, b0⟩
  have K0 := Lib.hid ((b0.block w.heap.size (Array.getElem?_eq_some_iff.1 HK.out).1).trans HK.out)
  have B0 := Lib.hid (HB.out.trans (b0.mono HB.out.size))
  have d0_0 := cell_in K0.out 0 _ rfl
  have d0_1 := cell_in K0.out 1 _ rfl
  have d0_2 := cell_in K0.out 2 _ rfl
  have d0_3 := cell_in K0.out 3 _ rfl
  have d0_4 := cell_in K0.out 4 _ rfl
  have d0_5 := cell_in K0.out 5 _ rfl
  have d0_6 := cell_in K0.out 6 _ rfl
  have d0_7 := cell_in K0.out 7 _ rfl
  clear b0
  go_wp2
  go_ret
  exact ⟨rfl, B0.out⟩
set_option maxRecDepth 100000 in
set_option maxHeartbeats 4000000 in
theorem may_1 (a0 a1 a2 a3 : Int) (a4 : ByteArray) (a5 : Bool) (A6 : Option Addr) (c6 : Nat) (l6 : List S41) (a7 : Bool) (w : World) (hr : Kd.C k41 w A6 l6.length l6) (hc : l6.length ≤ c6) (q0 : numB a0 = true) (q1 : numB a1 = false) :
    Calls Try.prog 10 #[.agg #[.int .i64 a0, .int .i64 a1, .int .i64 a2, .int .i64 a3, .string a4, .bool a5, .slice A6 l6.length c6, .bool a7]] w fun e w' => e = .returned (.bool false) ∧ Below w.heap.size w w' := by
  have HR := Lib.hid hr
  have HC := Lib.hid hc
  have HB := Lib.hid ((Below.refl w.heap.size w).alloc (Nat.le_refl _) (.cells #[.int .i64 a0, .int .i64 a1, .int .i64 a2, .int .i64 a3, .string a4, .bool a5, .slice A6 l6.length c6, .bool a7] 29))
  clear hr hc
  have N0 := Lib.hid (num_is a0 _ q0)
  have N1 := Lib.hid (num_is a1 _ q1)
  clear q0 q1
  go_enter Try.func10, Try.ntmps10
  have HK : Hid ((w.alloc (.cells #[.int .i64 a0, .int .i64 a1, .int .i64 a2, .int .i64 a3, .string a4, .bool a5, .slice A6 l6.length c6, .bool a7] 29)).heap[w.heap.size]? = some (.cells #[.int .i64 a0, .int .i64 a1, .int .i64 a2, .int .i64 a3, .string a4, .bool a5, .slice A6 l6.length c6, .bool a7] 29 (0, 0))) := Lib.hid (World.alloc_heap_new w _)
  go_wp2_with fail
  refine (N0.out _).mono ?_
  rintro e v0 ⟨rfl, b0⟩
  have K0 := Lib.hid ((b0.block w.heap.size (Array.getElem?_eq_some_iff.1 HK.out).1).trans HK.out)
  have B0 := Lib.hid (HB.out.trans (b0.mono HB.out.size))
  have d0_0 := cell_in K0.out 0 _ rfl
  have d0_1 := cell_in K0.out 1 _ rfl
  have d0_2 := cell_in K0.out 2 _ rfl
  have d0_3 := cell_in K0.out 3 _ rfl
  have d0_4 := cell_in K0.out 4 _ rfl
  have d0_5 := cell_in K0.out 5 _ rfl
  have d0_6 := cell_in K0.out 6 _ rfl
  have d0_7 := cell_in K0.out 7 _ rfl
  clear b0
  go_wp2_with fail
  refine (N1.out _).mono ?_
  rintro e v1 ⟨rfl, b1⟩
  have K1 := Lib.hid ((b1.block w.heap.size (Array.getElem?_eq_some_iff.1 K0.out).1).trans K0.out)
  have B1 := Lib.hid (B0.out.trans (b1.mono B0.out.size))
  have d1_0 := cell_in K1.out 0 _ rfl
  have d1_1 := cell_in K1.out 1 _ rfl
  have d1_2 := cell_in K1.out 2 _ rfl
  have d1_3 := cell_in K1.out 3 _ rfl
  have d1_4 := cell_in K1.out 4 _ rfl
  have d1_5 := cell_in K1.out 5 _ rfl
  have d1_6 := cell_in K1.out 6 _ rfl
  have d1_7 := cell_in K1.out 7 _ rfl
  clear b1 d0_0 d0_1 d0_2 d0_3 d0_4 d0_5 d0_6 d0_7
  go_wp2
  go_ret
  exact ⟨rfl, B1.out⟩
set_option maxRecDepth 100000 in
set_option maxHeartbeats 4000000 in
theorem may_2 (a0 a1 a2 a3 : Int) (a4 : ByteArray) (a5 : Bool) (A6 : Option Addr) (c6 : Nat) (l6 : List S41) (a7 : Bool) (w : World) (hr : Kd.C k41 w A6 l6.length l6) (hc : l6.length ≤ c6) (q0 : numB a0 = true) (q1 : numB a1 = true) (q2 : numB a2 = false) :
    Calls Try.prog 10 #[.agg #[.int .i64 a0, .int .i64 a1, .int .i64 a2, .int .i64 a3, .string a4, .bool a5, .slice A6 l6.length c6, .bool a7]] w fun e w' => e = .returned (.bool false) ∧ Below w.heap.size w w' := by
  have HR := Lib.hid hr
  have HC := Lib.hid hc
  have HB := Lib.hid ((Below.refl w.heap.size w).alloc (Nat.le_refl _) (.cells #[.int .i64 a0, .int .i64 a1, .int .i64 a2, .int .i64 a3, .string a4, .bool a5, .slice A6 l6.length c6, .bool a7] 29))
  clear hr hc
  have N0 := Lib.hid (num_is a0 _ q0)
  have N1 := Lib.hid (num_is a1 _ q1)
  have N2 := Lib.hid (num_is a2 _ q2)
  clear q0 q1 q2
  go_enter Try.func10, Try.ntmps10
  have HK : Hid ((w.alloc (.cells #[.int .i64 a0, .int .i64 a1, .int .i64 a2, .int .i64 a3, .string a4, .bool a5, .slice A6 l6.length c6, .bool a7] 29)).heap[w.heap.size]? = some (.cells #[.int .i64 a0, .int .i64 a1, .int .i64 a2, .int .i64 a3, .string a4, .bool a5, .slice A6 l6.length c6, .bool a7] 29 (0, 0))) := Lib.hid (World.alloc_heap_new w _)
  go_wp2_with fail
  refine (N0.out _).mono ?_
  rintro e v0 ⟨rfl, b0⟩
  have K0 := Lib.hid ((b0.block w.heap.size (Array.getElem?_eq_some_iff.1 HK.out).1).trans HK.out)
  have B0 := Lib.hid (HB.out.trans (b0.mono HB.out.size))
  have d0_0 := cell_in K0.out 0 _ rfl
  have d0_1 := cell_in K0.out 1 _ rfl
  have d0_2 := cell_in K0.out 2 _ rfl
  have d0_3 := cell_in K0.out 3 _ rfl
  have d0_4 := cell_in K0.out 4 _ rfl
  have d0_5 := cell_in K0.out 5 _ rfl
  have d0_6 := cell_in K0.out 6 _ rfl
  have d0_7 := cell_in K0.out 7 _ rfl
  clear b0
  go_wp2_with fail
  refine (N1.out _).mono ?_
  rintro e v1 ⟨rfl, b1⟩
  have K1 := Lib.hid ((b1.block w.heap.size (Array.getElem?_eq_some_iff.1 K0.out).1).trans K0.out)
  have B1 := Lib.hid (B0.out.trans (b1.mono B0.out.size))
  have d1_0 := cell_in K1.out 0 _ rfl
  have d1_1 := cell_in K1.out 1 _ rfl
  have d1_2 := cell_in K1.out 2 _ rfl
  have d1_3 := cell_in K1.out 3 _ rfl
  have d1_4 := cell_in K1.out 4 _ rfl
  have d1_5 := cell_in K1.out 5 _ rfl
  have d1_6 := cell_in K1.out 6 _ rfl
  have d1_7 := cell_in K1.out 7 _ rfl
  clear b1 d0_0 d0_1 d0_2 d0_3 d0_4 d0_5 d0_6 d0_7
  go_wp2_with fail
  refine (N2.out _).mono ?_
  rintro e v2 ⟨rfl, b2⟩
  have K2 := Lib.hid ((b2.block w.heap.size (Array.getElem?_eq_some_iff.1 K1.out).1).trans K1.out)
  have B2 := Lib.hid (B1.out.trans (b2.mono B1.out.size))
  have d2_0 := cell_in K2.out 0 _ rfl
  have d2_1 := cell_in K2.out 1 _ rfl
  have d2_2 := cell_in K2.out 2 _ rfl
  have d2_3 := cell_in K2.out 3 _ rfl
  have d2_4 := cell_in K2.out 4 _ rfl
  have d2_5 := cell_in K2.out 5 _ rfl
  have d2_6 := cell_in K2.out 6 _ rfl
  have d2_7 := cell_in K2.out 7 _ rfl
  clear b2 d1_0 d1_1 d1_2 d1_3 d1_4 d1_5 d1_6 d1_7
  go_wp2
  go_ret
  exact ⟨rfl, B2.out⟩
set_option maxRecDepth 100000 in
set_option maxHeartbeats 4000000 in
theorem may_3 (a0 a1 a2 a3 : Int) (a4 : ByteArray) (a5 : Bool) (A6 : Option Addr) (c6 : Nat) (l6 : List S41) (a7 : Bool) (w : World) (hr : Kd.C k41 w A6 l6.length l6) (hc : l6.length ≤ c6) (q0 : numB a0 = true) (q1 : numB a1 = true) (q2 : numB a2 = true) (q3 : a3 < (0 : Int)) :
    Calls Try.prog 10 #[.agg #[.int .i64 a0, .int .i64 a1, .int .i64 a2, .int .i64 a3, .string a4, .bool a5, .slice A6 l6.length c6, .bool a7]] w fun e w' => e = .returned (.bool false) ∧ Below w.heap.size w w' := by
  have HR := Lib.hid hr
  have HC := Lib.hid hc
  have HB := Lib.hid ((Below.refl w.heap.size w).alloc (Nat.le_refl _) (.cells #[.int .i64 a0, .int .i64 a1, .int .i64 a2, .int .i64 a3, .string a4, .bool a5, .slice A6 l6.length c6, .bool a7] 29))
  clear hr hc
  have N0 := Lib.hid (num_is a0 _ q0)
  have N1 := Lib.hid (num_is a1 _ q1)
  have N2 := Lib.hid (num_is a2 _ q2)
  clear q0 q1 q2
  go_enter Try.func10, Try.ntmps10
  have HK : Hid ((w.alloc (.cells #[.int .i64 a0, .int .i64 a1, .int .i64 a2, .int .i64 a3, .string a4, .bool a5, .slice A6 l6.length c6, .bool a7] 29)).heap[w.heap.size]? = some (.cells #[.int .i64 a0, .int .i64 a1, .int .i64 a2, .int .i64 a3, .string a4, .bool a5, .slice A6 l6.length c6, .bool a7] 29 (0, 0))) := Lib.hid (World.alloc_heap_new w _)
  go_wp2_with fail
  refine (N0.out _).mono ?_
  rintro e v0 ⟨rfl, b0⟩
  have K0 := Lib.hid ((b0.block w.heap.size (Array.getElem?_eq_some_iff.1 HK.out).1).trans HK.out)
  have B0 := Lib.hid (HB.out.trans (b0.mono HB.out.size))
  have d0_0 := cell_in K0.out 0 _ rfl
  have d0_1 := cell_in K0.out 1 _ rfl
  have d0_2 := cell_in K0.out 2 _ rfl
  have d0_3 := cell_in K0.out 3 _ rfl
  have d0_4 := cell_in K0.out 4 _ rfl
  have d0_5 := cell_in K0.out 5 _ rfl
  have d0_6 := cell_in K0.out 6 _ rfl
  have d0_7 := cell_in K0.out 7 _ rfl
  clear b0
  go_wp2_with fail
  refine (N1.out _).mono ?_
  rintro e v1 ⟨rfl, b1⟩
  have K1 := Lib.hid ((b1.block w.heap.size (Array.getElem?_eq_some_iff.1 K0.out).1).trans K0.out)
  have B1 := Lib.hid (B0.out.trans (b1.mono B0.out.size))
  have d1_0 := cell_in K1.out 0 _ rfl
  have d1_1 := cell_in K1.out 1 _ rfl
  have d1_2 := cell_in K1.out 2 _ rfl
  have d1_3 := cell_in K1.out 3 _ rfl
  have d1_4 := cell_in K1.out 4 _ rfl
  have d1_5 := cell_in K1.out 5 _ rfl
  have d1_6 := cell_in K1.out 6 _ rfl
  have d1_7 := cell_in K1.out 7 _ rfl
  clear b1 d0_0 d0_1 d0_2 d0_3 d0_4 d0_5 d0_6 d0_7
  go_wp2_with fail
  refine (N2.out _).mono ?_
  rintro e v2 ⟨rfl, b2⟩
  have K2 := Lib.hid ((b2.block w.heap.size (Array.getElem?_eq_some_iff.1 K1.out).1).trans K1.out)
  have B2 := Lib.hid (B1.out.trans (b2.mono B1.out.size))
  have d2_0 := cell_in K2.out 0 _ rfl
  have d2_1 := cell_in K2.out 1 _ rfl
  have d2_2 := cell_in K2.out 2 _ rfl
  have d2_3 := cell_in K2.out 3 _ rfl
  have d2_4 := cell_in K2.out 4 _ rfl
  have d2_5 := cell_in K2.out 5 _ rfl
  have d2_6 := cell_in K2.out 6 _ rfl
  have d2_7 := cell_in K2.out 7 _ rfl
  clear b2 d1_0 d1_1 d1_2 d1_3 d1_4 d1_5 d1_6 d1_7
  go_wp2
  go_ret
  exact ⟨rfl, B2.out⟩
set_option maxRecDepth 100000 in
set_option maxHeartbeats 4000000 in
theorem may_4 (a0 a1 a2 a3 : Int) (a4 : ByteArray) (a5 : Bool) (A6 : Option Addr) (c6 : Nat) (l6 : List S41) (a7 : Bool) (w : World) (hr : Kd.C k41 w A6 l6.length l6) (hc : l6.length ≤ c6) (q0 : numB a0 = true) (q1 : numB a1 = true) (q2 : numB a2 = true) (q3 : (0 : Int) ≤ a3) (q4 : (16 : Int) < a3) :
    Calls Try.prog 10 #[.agg #[.int .i64 a0, .int .i64 a1, .int .i64 a2, .int .i64 a3, .string a4, .bool a5, .slice A6 l6.length c6, .bool a7]] w fun e w' => e = .returned (.bool false) ∧ Below w.heap.size w w' := by
  have HR := Lib.hid hr
  have HC := Lib.hid hc
  have HB := Lib.hid ((Below.refl w.heap.size w).alloc (Nat.le_refl _) (.cells #[.int .i64 a0, .int .i64 a1, .int .i64 a2, .int .i64 a3, .string a4, .bool a5, .slice A6 l6.length c6, .bool a7] 29))
  clear hr hc
  have N0 := Lib.hid (num_is a0 _ q0)
  have N1 := Lib.hid (num_is a1 _ q1)
  have N2 := Lib.hid (num_is a2 _ q2)
  clear q0 q1 q2
  go_enter Try.func10, Try.ntmps10
  have HK : Hid ((w.alloc (.cells #[.int .i64 a0, .int .i64 a1, .int .i64 a2, .int .i64 a3, .string a4, .bool a5, .slice A6 l6.length c6, .bool a7] 29)).heap[w.heap.size]? = some (.cells #[.int .i64 a0, .int .i64 a1, .int .i64 a2, .int .i64 a3, .string a4, .bool a5, .slice A6 l6.length c6, .bool a7] 29 (0, 0))) := Lib.hid (World.alloc_heap_new w _)
  go_wp2_with fail
  refine (N0.out _).mono ?_
  rintro e v0 ⟨rfl, b0⟩
  have K0 := Lib.hid ((b0.block w.heap.size (Array.getElem?_eq_some_iff.1 HK.out).1).trans HK.out)
  have B0 := Lib.hid (HB.out.trans (b0.mono HB.out.size))
  have d0_0 := cell_in K0.out 0 _ rfl
  have d0_1 := cell_in K0.out 1 _ rfl
  have d0_2 := cell_in K0.out 2 _ rfl
  have d0_3 := cell_in K0.out 3 _ rfl
  have d0_4 := cell_in K0.out 4 _ rfl
  have d0_5 := cell_in K0.out 5 _ rfl
  have d0_6 := cell_in K0.out 6 _ rfl
  have d0_7 := cell_in K0.out 7 _ rfl
  clear b0
  go_wp2_with fail
  refine (N1.out _).mono ?_
  rintro e v1 ⟨rfl, b1⟩
  have K1 := Lib.hid ((b1.block w.heap.size (Array.getElem?_eq_some_iff.1 K0.out).1).trans K0.out)
  have B1 := Lib.hid (B0.out.trans (b1.mono B0.out.size))
  have d1_0 := cell_in K1.out 0 _ rfl
  have d1_1 := cell_in K1.out 1 _ rfl
  have d1_2 := cell_in K1.out 2 _ rfl
  have d1_3 := cell_in K1.out 3 _ rfl
  have d1_4 := cell_in K1.out 4 _ rfl
  have d1_5 := cell_in K1.out 5 _ rfl
  have d1_6 := cell_in K1.out 6 _ rfl
  have d1_7 := cell_in K1.out 7 _ rfl
  clear b1 d0_0 d0_1 d0_2 d0_3 d0_4 d0_5 d0_6 d0_7
  go_wp2_with fail
  refine (N2.out _).mono ?_
  rintro e v2 ⟨rfl, b2⟩
  have K2 := Lib.hid ((b2.block w.heap.size (Array.getElem?_eq_some_iff.1 K1.out).1).trans K1.out)
  have B2 := Lib.hid (B1.out.trans (b2.mono B1.out.size))
  have d2_0 := cell_in K2.out 0 _ rfl
  have d2_1 := cell_in K2.out 1 _ rfl
  have d2_2 := cell_in K2.out 2 _ rfl
  have d2_3 := cell_in K2.out 3 _ rfl
  have d2_4 := cell_in K2.out 4 _ rfl
  have d2_5 := cell_in K2.out 5 _ rfl
  have d2_6 := cell_in K2.out 6 _ rfl
  have d2_7 := cell_in K2.out 7 _ rfl
  clear b2 d1_0 d1_1 d1_2 d1_3 d1_4 d1_5 d1_6 d1_7
  go_wp2
  go_ret
  exact ⟨rfl, B2.out⟩
set_option maxRecDepth 100000 in
set_option maxHeartbeats 4000000 in
theorem may_5 (a0 a1 a2 a3 : Int) (a4 : ByteArray) (a5 : Bool) (A6 : Option Addr) (c6 : Nat) (l6 : List S41) (a7 : Bool) (w : World) (hr : Kd.C k41 w A6 l6.length l6) (hc : l6.length ≤ c6) (q0 : numB a0 = true) (q1 : numB a1 = true) (q2 : numB a2 = true) (q3 : (0 : Int) ≤ a3) (q4 : a3 ≤ (16 : Int)) (q5 : (64 : Int) < (a4.size : Int)) :
    Calls Try.prog 10 #[.agg #[.int .i64 a0, .int .i64 a1, .int .i64 a2, .int .i64 a3, .string a4, .bool a5, .slice A6 l6.length c6, .bool a7]] w fun e w' => e = .returned (.bool false) ∧ Below w.heap.size w w' := by
  have HR := Lib.hid hr
  have HC := Lib.hid hc
  have HB := Lib.hid ((Below.refl w.heap.size w).alloc (Nat.le_refl _) (.cells #[.int .i64 a0, .int .i64 a1, .int .i64 a2, .int .i64 a3, .string a4, .bool a5, .slice A6 l6.length c6, .bool a7] 29))
  clear hr hc
  have N0 := Lib.hid (num_is a0 _ q0)
  have N1 := Lib.hid (num_is a1 _ q1)
  have N2 := Lib.hid (num_is a2 _ q2)
  clear q0 q1 q2
  go_enter Try.func10, Try.ntmps10
  have HK : Hid ((w.alloc (.cells #[.int .i64 a0, .int .i64 a1, .int .i64 a2, .int .i64 a3, .string a4, .bool a5, .slice A6 l6.length c6, .bool a7] 29)).heap[w.heap.size]? = some (.cells #[.int .i64 a0, .int .i64 a1, .int .i64 a2, .int .i64 a3, .string a4, .bool a5, .slice A6 l6.length c6, .bool a7] 29 (0, 0))) := Lib.hid (World.alloc_heap_new w _)
  go_wp2_with fail
  refine (N0.out _).mono ?_
  rintro e v0 ⟨rfl, b0⟩
  have K0 := Lib.hid ((b0.block w.heap.size (Array.getElem?_eq_some_iff.1 HK.out).1).trans HK.out)
  have B0 := Lib.hid (HB.out.trans (b0.mono HB.out.size))
  have d0_0 := cell_in K0.out 0 _ rfl
  have d0_1 := cell_in K0.out 1 _ rfl
  have d0_2 := cell_in K0.out 2 _ rfl
  have d0_3 := cell_in K0.out 3 _ rfl
  have d0_4 := cell_in K0.out 4 _ rfl
  have d0_5 := cell_in K0.out 5 _ rfl
  have d0_6 := cell_in K0.out 6 _ rfl
  have d0_7 := cell_in K0.out 7 _ rfl
  clear b0
  go_wp2_with fail
  refine (N1.out _).mono ?_
  rintro e v1 ⟨rfl, b1⟩
  have K1 := Lib.hid ((b1.block w.heap.size (Array.getElem?_eq_some_iff.1 K0.out).1).trans K0.out)
  have B1 := Lib.hid (B0.out.trans (b1.mono B0.out.size))
  have d1_0 := cell_in K1.out 0 _ rfl
  have d1_1 := cell_in K1.out 1 _ rfl
  have d1_2 := cell_in K1.out 2 _ rfl
  have d1_3 := cell_in K1.out 3 _ rfl
  have d1_4 := cell_in K1.out 4 _ rfl
  have d1_5 := cell_in K1.out 5 _ rfl
  have d1_6 := cell_in K1.out 6 _ rfl
  have d1_7 := cell_in K1.out 7 _ rfl
  clear b1 d0_0 d0_1 d0_2 d0_3 d0_4 d0_5 d0_6 d0_7
  go_wp2_with fail
  refine (N2.out _).mono ?_
  rintro e v2 ⟨rfl, b2⟩
  have K2 := Lib.hid ((b2.block w.heap.size (Array.getElem?_eq_some_iff.1 K1.out).1).trans K1.out)
  have B2 := Lib.hid (B1.out.trans (b2.mono B1.out.size))
  have d2_0 := cell_in K2.out 0 _ rfl
  have d2_1 := cell_in K2.out 1 _ rfl
  have d2_2 := cell_in K2.out 2 _ rfl
  have d2_3 := cell_in K2.out 3 _ rfl
  have d2_4 := cell_in K2.out 4 _ rfl
  have d2_5 := cell_in K2.out 5 _ rfl
  have d2_6 := cell_in K2.out 6 _ rfl
  have d2_7 := cell_in K2.out 7 _ rfl
  clear b2 d1_0 d1_1 d1_2 d1_3 d1_4 d1_5 d1_6 d1_7
  go_wp2
  go_ret
  exact ⟨rfl, B2.out⟩
set_option maxRecDepth 100000 in
set_option maxHeartbeats 4000000 in
theorem may_6 (a0 a1 a2 a3 : Int) (a4 : ByteArray) (a5 : Bool) (A6 : Option Addr) (c6 : Nat) (l6 : List S41) (a7 : Bool) (w : World) (hr : Kd.C k41 w A6 l6.length l6) (hc : l6.length ≤ c6) (q0 : numB a0 = true) (q1 : numB a1 = true) (q2 : numB a2 = true) (q3 : (0 : Int) ≤ a3) (q4 : a3 ≤ (16 : Int)) (q5 : (a4.size : Int) ≤ 64) (q6 : (16 : Int) < (l6.length : Int)) :
    Calls Try.prog 10 #[.agg #[.int .i64 a0, .int .i64 a1, .int .i64 a2, .int .i64 a3, .string a4, .bool a5, .slice A6 l6.length c6, .bool a7]] w fun e w' => e = .returned (.bool false) ∧ Below w.heap.size w w' := by
  have HR := Lib.hid hr
  have HC := Lib.hid hc
  have HB := Lib.hid ((Below.refl w.heap.size w).alloc (Nat.le_refl _) (.cells #[.int .i64 a0, .int .i64 a1, .int .i64 a2, .int .i64 a3, .string a4, .bool a5, .slice A6 l6.length c6, .bool a7] 29))
  clear hr hc
  have N0 := Lib.hid (num_is a0 _ q0)
  have N1 := Lib.hid (num_is a1 _ q1)
  have N2 := Lib.hid (num_is a2 _ q2)
  clear q0 q1 q2
  go_enter Try.func10, Try.ntmps10
  have HK : Hid ((w.alloc (.cells #[.int .i64 a0, .int .i64 a1, .int .i64 a2, .int .i64 a3, .string a4, .bool a5, .slice A6 l6.length c6, .bool a7] 29)).heap[w.heap.size]? = some (.cells #[.int .i64 a0, .int .i64 a1, .int .i64 a2, .int .i64 a3, .string a4, .bool a5, .slice A6 l6.length c6, .bool a7] 29 (0, 0))) := Lib.hid (World.alloc_heap_new w _)
  go_wp2_with fail
  refine (N0.out _).mono ?_
  rintro e v0 ⟨rfl, b0⟩
  have K0 := Lib.hid ((b0.block w.heap.size (Array.getElem?_eq_some_iff.1 HK.out).1).trans HK.out)
  have B0 := Lib.hid (HB.out.trans (b0.mono HB.out.size))
  have d0_0 := cell_in K0.out 0 _ rfl
  have d0_1 := cell_in K0.out 1 _ rfl
  have d0_2 := cell_in K0.out 2 _ rfl
  have d0_3 := cell_in K0.out 3 _ rfl
  have d0_4 := cell_in K0.out 4 _ rfl
  have d0_5 := cell_in K0.out 5 _ rfl
  have d0_6 := cell_in K0.out 6 _ rfl
  have d0_7 := cell_in K0.out 7 _ rfl
  clear b0
  go_wp2_with fail
  refine (N1.out _).mono ?_
  rintro e v1 ⟨rfl, b1⟩
  have K1 := Lib.hid ((b1.block w.heap.size (Array.getElem?_eq_some_iff.1 K0.out).1).trans K0.out)
  have B1 := Lib.hid (B0.out.trans (b1.mono B0.out.size))
  have d1_0 := cell_in K1.out 0 _ rfl
  have d1_1 := cell_in K1.out 1 _ rfl
  have d1_2 := cell_in K1.out 2 _ rfl
  have d1_3 := cell_in K1.out 3 _ rfl
  have d1_4 := cell_in K1.out 4 _ rfl
  have d1_5 := cell_in K1.out 5 _ rfl
  have d1_6 := cell_in K1.out 6 _ rfl
  have d1_7 := cell_in K1.out 7 _ rfl
  clear b1 d0_0 d0_1 d0_2 d0_3 d0_4 d0_5 d0_6 d0_7
  go_wp2_with fail
  refine (N2.out _).mono ?_
  rintro e v2 ⟨rfl, b2⟩
  have K2 := Lib.hid ((b2.block w.heap.size (Array.getElem?_eq_some_iff.1 K1.out).1).trans K1.out)
  have B2 := Lib.hid (B1.out.trans (b2.mono B1.out.size))
  have d2_0 := cell_in K2.out 0 _ rfl
  have d2_1 := cell_in K2.out 1 _ rfl
  have d2_2 := cell_in K2.out 2 _ rfl
  have d2_3 := cell_in K2.out 3 _ rfl
  have d2_4 := cell_in K2.out 4 _ rfl
  have d2_5 := cell_in K2.out 5 _ rfl
  have d2_6 := cell_in K2.out 6 _ rfl
  have d2_7 := cell_in K2.out 7 _ rfl
  clear b2 d1_0 d1_1 d1_2 d1_3 d1_4 d1_5 d1_6 d1_7
  go_wp2
  go_ret
  exact ⟨rfl, B2.out⟩
set_option maxRecDepth 100000 in
set_option maxHeartbeats 4000000 in
theorem may_7 (a0 a1 a2 a3 : Int) (a4 : ByteArray) (a5 : Bool) (A6 : Option Addr) (c6 : Nat) (l6 : List S41) (a7 : Bool) (w : World) (hr : Kd.C k41 w A6 l6.length l6) (hc : l6.length ≤ c6) (q0 : numB a0 = true) (q1 : numB a1 = true) (q2 : numB a2 = true) (q3 : (0 : Int) ≤ a3) (q4 : a3 ≤ (16 : Int)) (q5 : (a4.size : Int) ≤ 64) (q6 : (l6.length : Int) ≤ 16) (q7 : table_Right.f 20 l6 = some false) :
    Calls Try.prog 10 #[.agg #[.int .i64 a0, .int .i64 a1, .int .i64 a2, .int .i64 a3, .string a4, .bool a5, .slice A6 l6.length c6, .bool a7]] w fun e w' => e = .returned (.bool false) ∧ Below w.heap.size w w' := by
  have HR := Lib.hid hr
  have HC := Lib.hid hc
  have HB := Lib.hid ((Below.refl w.heap.size w).alloc (Nat.le_refl _) (.cells #[.int .i64 a0, .int .i64 a1, .int .i64 a2, .int .i64 a3, .string a4, .bool a5, .slice A6 l6.length c6, .bool a7] 29))
  clear hr hc
  have N0 := Lib.hid (num_is a0 _ q0)
  have N1 := Lib.hid (num_is a1 _ q1)
  have N2 := Lib.hid (num_is a2 _ q2)
  have NR := Lib.hid (right_is A6 c6 l6 20 _ q7)
  have NL : Hid (l6.length ≤ 16) := Lib.hid (by omega)
  clear q0 q1 q2 q7
  go_enter Try.func10, Try.ntmps10
  have HK : Hid ((w.alloc (.cells #[.int .i64 a0, .int .i64 a1, .int .i64 a2, .int .i64 a3, .string a4, .bool a5, .slice A6 l6.length c6, .bool a7] 29)).heap[w.heap.size]? = some (.cells #[.int .i64 a0, .int .i64 a1, .int .i64 a2, .int .i64 a3, .string a4, .bool a5, .slice A6 l6.length c6, .bool a7] 29 (0, 0))) := Lib.hid (World.alloc_heap_new w _)
  go_wp2_with fail
  refine (N0.out _).mono ?_
  rintro e v0 ⟨rfl, b0⟩
  have K0 := Lib.hid ((b0.block w.heap.size (Array.getElem?_eq_some_iff.1 HK.out).1).trans HK.out)
  have B0 := Lib.hid (HB.out.trans (b0.mono HB.out.size))
  have d0_0 := cell_in K0.out 0 _ rfl
  have d0_1 := cell_in K0.out 1 _ rfl
  have d0_2 := cell_in K0.out 2 _ rfl
  have d0_3 := cell_in K0.out 3 _ rfl
  have d0_4 := cell_in K0.out 4 _ rfl
  have d0_5 := cell_in K0.out 5 _ rfl
  have d0_6 := cell_in K0.out 6 _ rfl
  have d0_7 := cell_in K0.out 7 _ rfl
  clear b0
  go_wp2_with fail
  refine (N1.out _).mono ?_
  rintro e v1 ⟨rfl, b1⟩
  have K1 := Lib.hid ((b1.block w.heap.size (Array.getElem?_eq_some_iff.1 K0.out).1).trans K0.out)
  have B1 := Lib.hid (B0.out.trans (b1.mono B0.out.size))
  have d1_0 := cell_in K1.out 0 _ rfl
  have d1_1 := cell_in K1.out 1 _ rfl
  have d1_2 := cell_in K1.out 2 _ rfl
  have d1_3 := cell_in K1.out 3 _ rfl
  have d1_4 := cell_in K1.out 4 _ rfl
  have d1_5 := cell_in K1.out 5 _ rfl
  have d1_6 := cell_in K1.out 6 _ rfl
  have d1_7 := cell_in K1.out 7 _ rfl
  clear b1 d0_0 d0_1 d0_2 d0_3 d0_4 d0_5 d0_6 d0_7
  go_wp2_with fail
  refine (N2.out _).mono ?_
  rintro e v2 ⟨rfl, b2⟩
  have K2 := Lib.hid ((b2.block w.heap.size (Array.getElem?_eq_some_iff.1 K1.out).1).trans K1.out)
  have B2 := Lib.hid (B1.out.trans (b2.mono B1.out.size))
  have d2_0 := cell_in K2.out 0 _ rfl
  have d2_1 := cell_in K2.out 1 _ rfl
  have d2_2 := cell_in K2.out 2 _ rfl
  have d2_3 := cell_in K2.out 3 _ rfl
  have d2_4 := cell_in K2.out 4 _ rfl
  have d2_5 := cell_in K2.out 5 _ rfl
  have d2_6 := cell_in K2.out 6 _ rfl
  have d2_7 := cell_in K2.out 7 _ rfl
  clear b2 d1_0 d1_1 d1_2 d1_3 d1_4 d1_5 d1_6 d1_7
  go_wp2_with fail
  refine (NR.out _ (Kd.C_below HR.out B2.out) HC.out).mono ?_
  rintro e v3 ⟨rfl, b3⟩
  have K3 := Lib.hid ((b3.block w.heap.size (Array.getElem?_eq_some_iff.1 K2.out).1).trans K2.out)
  have B3 := Lib.hid (B2.out.trans (b3.mono B2.out.size))
  have d3_0 := cell_in K3.out 0 _ rfl
  have d3_1 := cell_in K3.out 1 _ rfl
  have d3_2 := cell_in K3.out 2 _ rfl
  have d3_3 := cell_in K3.out 3 _ rfl
  have d3_4 := cell_in K3.out 4 _ rfl
  have d3_5 := cell_in K3.out 5 _ rfl
  have d3_6 := cell_in K3.out 6 _ rfl
  have d3_7 := cell_in K3.out 7 _ rfl
  clear b3 d2_0 d2_1 d2_2 d2_3 d2_4 d2_5 d2_6 d2_7
  go_wp2
  go_ret
  exact ⟨rfl, B3.out⟩
set_option maxRecDepth 100000 in
set_option maxHeartbeats 4000000 in
theorem may_8 (a0 a1 a2 a3 : Int) (a4 : ByteArray) (a5 : Bool) (A6 : Option Addr) (c6 : Nat) (l6 : List S41) (a7 : Bool) (w : World) (hr : Kd.C k41 w A6 l6.length l6) (hc : l6.length ≤ c6) (q0 : numB a0 = true) (q1 : numB a1 = true) (q2 : numB a2 = true) (q3 : (0 : Int) ≤ a3) (q4 : a3 ≤ (16 : Int)) (q5 : (a4.size : Int) ≤ 64) (q6 : (l6.length : Int) ≤ 16) (q7 : table_Right.f 20 l6 = some true) (q8 : l6.any longP = true) :
    Calls Try.prog 10 #[.agg #[.int .i64 a0, .int .i64 a1, .int .i64 a2, .int .i64 a3, .string a4, .bool a5, .slice A6 l6.length c6, .bool a7]] w fun e w' => e = .returned (.bool false) ∧ Below w.heap.size w w' := by
  have HR := Lib.hid hr
  have HC := Lib.hid hc
  have HB := Lib.hid ((Below.refl w.heap.size w).alloc (Nat.le_refl _) (.cells #[.int .i64 a0, .int .i64 a1, .int .i64 a2, .int .i64 a3, .string a4, .bool a5, .slice A6 l6.length c6, .bool a7] 29))
  clear hr hc
  have N0 := Lib.hid (num_is a0 _ q0)
  have N1 := Lib.hid (num_is a1 _ q1)
  have N2 := Lib.hid (num_is a2 _ q2)
  have NR := Lib.hid (right_is A6 c6 l6 20 _ q7)
  have NL : Hid (l6.length ≤ 16) := Lib.hid (by omega)
  have NA := Lib.hid q8
  clear q0 q1 q2 q7 q8
  go_enter Try.func10, Try.ntmps10
  have HK : Hid ((w.alloc (.cells #[.int .i64 a0, .int .i64 a1, .int .i64 a2, .int .i64 a3, .string a4, .bool a5, .slice A6 l6.length c6, .bool a7] 29)).heap[w.heap.size]? = some (.cells #[.int .i64 a0, .int .i64 a1, .int .i64 a2, .int .i64 a3, .string a4, .bool a5, .slice A6 l6.length c6, .bool a7] 29 (0, 0))) := Lib.hid (World.alloc_heap_new w _)
  go_wp2_with fail
  refine (N0.out _).mono ?_
  rintro e v0 ⟨rfl, b0⟩
  have K0 := Lib.hid ((b0.block w.heap.size (Array.getElem?_eq_some_iff.1 HK.out).1).trans HK.out)
  have B0 := Lib.hid (HB.out.trans (b0.mono HB.out.size))
  have d0_0 := cell_in K0.out 0 _ rfl
  have d0_1 := cell_in K0.out 1 _ rfl
  have d0_2 := cell_in K0.out 2 _ rfl
  have d0_3 := cell_in K0.out 3 _ rfl
  have d0_4 := cell_in K0.out 4 _ rfl
  have d0_5 := cell_in K0.out 5 _ rfl
  have d0_6 := cell_in K0.out 6 _ rfl
  have d0_7 := cell_in K0.out 7 _ rfl
  clear b0
  go_wp2_with fail
  refine (N1.out _).mono ?_
  rintro e v1 ⟨rfl, b1⟩
  have K1 := Lib.hid ((b1.block w.heap.size (Array.getElem?_eq_some_iff.1 K0.out).1).trans K0.out)
  have B1 := Lib.hid (B0.out.trans (b1.mono B0.out.size))
  have d1_0 := cell_in K1.out 0 _ rfl
  have d1_1 := cell_in K1.out 1 _ rfl
  have d1_2 := cell_in K1.out 2 _ rfl
  have d1_3 := cell_in K1.out 3 _ rfl
  have d1_4 := cell_in K1.out 4 _ rfl
  have d1_5 := cell_in K1.out 5 _ rfl
  have d1_6 := cell_in K1.out 6 _ rfl
  have d1_7 := cell_in K1.out 7 _ rfl
  clear b1 d0_0 d0_1 d0_2 d0_3 d0_4 d0_5 d0_6 d0_7
  go_wp2_with fail
  refine (N2.out _).mono ?_
  rintro e v2 ⟨rfl, b2⟩
  have K2 := Lib.hid ((b2.block w.heap.size (Array.getElem?_eq_some_iff.1 K1.out).1).trans K1.out)
  have B2 := Lib.hid (B1.out.trans (b2.mono B1.out.size))
  have d2_0 := cell_in K2.out 0 _ rfl
  have d2_1 := cell_in K2.out 1 _ rfl
  have d2_2 := cell_in K2.out 2 _ rfl
  have d2_3 := cell_in K2.out 3 _ rfl
  have d2_4 := cell_in K2.out 4 _ rfl
  have d2_5 := cell_in K2.out 5 _ rfl
  have d2_6 := cell_in K2.out 6 _ rfl
  have d2_7 := cell_in K2.out 7 _ rfl
  clear b2 d1_0 d1_1 d1_2 d1_3 d1_4 d1_5 d1_6 d1_7
  go_wp2_with fail
  refine (NR.out _ (Kd.C_below HR.out B2.out) HC.out).mono ?_
  rintro e v3 ⟨rfl, b3⟩
  have K3 := Lib.hid ((b3.block w.heap.size (Array.getElem?_eq_some_iff.1 K2.out).1).trans K2.out)
  have B3 := Lib.hid (B2.out.trans (b3.mono B2.out.size))
  have d3_0 := cell_in K3.out 0 _ rfl
  have d3_1 := cell_in K3.out 1 _ rfl
  have d3_2 := cell_in K3.out 2 _ rfl
  have d3_3 := cell_in K3.out 3 _ rfl
  have d3_4 := cell_in K3.out 4 _ rfl
  have d3_5 := cell_in K3.out 5 _ rfl
  have d3_6 := cell_in K3.out 6 _ rfl
  have d3_7 := cell_in K3.out 7 _ rfl
  clear b3 d2_0 d2_1 d2_2 d2_3 d2_4 d2_5 d2_6 d2_7
  go_wp2_with fail
  refine (contains_is A6 c6 l6 _ _ (Kd.C_below HR.out B3.out) HC.out (by have := NL.out; omega) NA.out).mono ?_
  rintro e v4 ⟨rfl, b4⟩
  have K4 := Lib.hid ((b4.block w.heap.size (Array.getElem?_eq_some_iff.1 K3.out).1).trans K3.out)
  have B4 := Lib.hid (B3.out.trans (b4.mono B3.out.size))
  have d4_0 := cell_in K4.out 0 _ rfl
  have d4_1 := cell_in K4.out 1 _ rfl
  have d4_2 := cell_in K4.out 2 _ rfl
  have d4_3 := cell_in K4.out 3 _ rfl
  have d4_4 := cell_in K4.out 4 _ rfl
  have d4_5 := cell_in K4.out 5 _ rfl
  have d4_6 := cell_in K4.out 6 _ rfl
  have d4_7 := cell_in K4.out 7 _ rfl
  clear b4 d3_0 d3_1 d3_2 d3_3 d3_4 d3_5 d3_6 d3_7
  go_wp2
  go_ret
  exact ⟨rfl, B4.out⟩
set_option maxRecDepth 100000 in
set_option maxHeartbeats 4000000 in
theorem may_9 (a0 a1 a2 a3 : Int) (a4 : ByteArray) (a5 : Bool) (A6 : Option Addr) (c6 : Nat) (l6 : List S41) (a7 : Bool) (w : World) (hr : Kd.C k41 w A6 l6.length l6) (hc : l6.length ≤ c6) (q0 : numB a0 = true) (q1 : numB a1 = true) (q2 : numB a2 = true) (q3 : (0 : Int) ≤ a3) (q4 : a3 ≤ (16 : Int)) (q5 : (a4.size : Int) ≤ 64) (q6 : (l6.length : Int) ≤ 16) (q7 : table_Right.f 20 l6 = some true) (q8 : l6.any longP = false) :
    Calls Try.prog 10 #[.agg #[.int .i64 a0, .int .i64 a1, .int .i64 a2, .int .i64 a3, .string a4, .bool a5, .slice A6 l6.length c6, .bool a7]] w fun e w' => e = .returned (.bool true) ∧ Below w.heap.size w w' := by
  have HR := Lib.hid hr
  have HC := Lib.hid hc
  have HB := Lib.hid ((Below.refl w.heap.size w).alloc (Nat.le_refl _) (.cells #[.int .i64 a0, .int .i64 a1, .int .i64 a2, .int .i64 a3, .string a4, .bool a5, .slice A6 l6.length c6, .bool a7] 29))
  clear hr hc
  have N0 := Lib.hid (num_is a0 _ q0)
  have N1 := Lib.hid (num_is a1 _ q1)
  have N2 := Lib.hid (num_is a2 _ q2)
  have NR := Lib.hid (right_is A6 c6 l6 20 _ q7)
  have NL : Hid (l6.length ≤ 16) := Lib.hid (by omega)
  have NA := Lib.hid q8
  clear q0 q1 q2 q7 q8
  go_enter Try.func10, Try.ntmps10
  have HK : Hid ((w.alloc (.cells #[.int .i64 a0, .int .i64 a1, .int .i64 a2, .int .i64 a3, .string a4, .bool a5, .slice A6 l6.length c6, .bool a7] 29)).heap[w.heap.size]? = some (.cells #[.int .i64 a0, .int .i64 a1, .int .i64 a2, .int .i64 a3, .string a4, .bool a5, .slice A6 l6.length c6, .bool a7] 29 (0, 0))) := Lib.hid (World.alloc_heap_new w _)
  go_wp2_with fail
  refine (N0.out _).mono ?_
  rintro e v0 ⟨rfl, b0⟩
  have K0 := Lib.hid ((b0.block w.heap.size (Array.getElem?_eq_some_iff.1 HK.out).1).trans HK.out)
  have B0 := Lib.hid (HB.out.trans (b0.mono HB.out.size))
  have d0_0 := cell_in K0.out 0 _ rfl
  have d0_1 := cell_in K0.out 1 _ rfl
  have d0_2 := cell_in K0.out 2 _ rfl
  have d0_3 := cell_in K0.out 3 _ rfl
  have d0_4 := cell_in K0.out 4 _ rfl
  have d0_5 := cell_in K0.out 5 _ rfl
  have d0_6 := cell_in K0.out 6 _ rfl
  have d0_7 := cell_in K0.out 7 _ rfl
  clear b0
  go_wp2_with fail
  refine (N1.out _).mono ?_
  rintro e v1 ⟨rfl, b1⟩
  have K1 := Lib.hid ((b1.block w.heap.size (Array.getElem?_eq_some_iff.1 K0.out).1).trans K0.out)
  have B1 := Lib.hid (B0.out.trans (b1.mono B0.out.size))
  have d1_0 := cell_in K1.out 0 _ rfl
  have d1_1 := cell_in K1.out 1 _ rfl
  have d1_2 := cell_in K1.out 2 _ rfl
  have d1_3 := cell_in K1.out 3 _ rfl
  have d1_4 := cell_in K1.out 4 _ rfl
  have d1_5 := cell_in K1.out 5 _ rfl
  have d1_6 := cell_in K1.out 6 _ rfl
  have d1_7 := cell_in K1.out 7 _ rfl
  clear b1 d0_0 d0_1 d0_2 d0_3 d0_4 d0_5 d0_6 d0_7
  go_wp2_with fail
  refine (N2.out _).mono ?_
  rintro e v2 ⟨rfl, b2⟩
  have K2 := Lib.hid ((b2.block w.heap.size (Array.getElem?_eq_some_iff.1 K1.out).1).trans K1.out)
  have B2 := Lib.hid (B1.out.trans (b2.mono B1.out.size))
  have d2_0 := cell_in K2.out 0 _ rfl
  have d2_1 := cell_in K2.out 1 _ rfl
  have d2_2 := cell_in K2.out 2 _ rfl
  have d2_3 := cell_in K2.out 3 _ rfl
  have d2_4 := cell_in K2.out 4 _ rfl
  have d2_5 := cell_in K2.out 5 _ rfl
  have d2_6 := cell_in K2.out 6 _ rfl
  have d2_7 := cell_in K2.out 7 _ rfl
  clear b2 d1_0 d1_1 d1_2 d1_3 d1_4 d1_5 d1_6 d1_7
  go_wp2_with fail
  refine (NR.out _ (Kd.C_below HR.out B2.out) HC.out).mono ?_
  rintro e v3 ⟨rfl, b3⟩
  have K3 := Lib.hid ((b3.block w.heap.size (Array.getElem?_eq_some_iff.1 K2.out).1).trans K2.out)
  have B3 := Lib.hid (B2.out.trans (b3.mono B2.out.size))
  have d3_0 := cell_in K3.out 0 _ rfl
  have d3_1 := cell_in K3.out 1 _ rfl
  have d3_2 := cell_in K3.out 2 _ rfl
  have d3_3 := cell_in K3.out 3 _ rfl
  have d3_4 := cell_in K3.out 4 _ rfl
  have d3_5 := cell_in K3.out 5 _ rfl
  have d3_6 := cell_in K3.out 6 _ rfl
  have d3_7 := cell_in K3.out 7 _ rfl
  clear b3 d2_0 d2_1 d2_2 d2_3 d2_4 d2_5 d2_6 d2_7
  go_wp2_with fail
  refine (contains_is A6 c6 l6 _ _ (Kd.C_below HR.out B3.out) HC.out (by have := NL.out; omega) NA.out).mono ?_
  rintro e v4 ⟨rfl, b4⟩
  have K4 := Lib.hid ((b4.block w.heap.size (Array.getElem?_eq_some_iff.1 K3.out).1).trans K3.out)
  have B4 := Lib.hid (B3.out.trans (b4.mono B3.out.size))
  have d4_0 := cell_in K4.out 0 _ rfl
  have d4_1 := cell_in K4.out 1 _ rfl
  have d4_2 := cell_in K4.out 2 _ rfl
  have d4_3 := cell_in K4.out 3 _ rfl
  have d4_4 := cell_in K4.out 4 _ rfl
  have d4_5 := cell_in K4.out 5 _ rfl
  have d4_6 := cell_in K4.out 6 _ rfl
  have d4_7 := cell_in K4.out 7 _ rfl
  clear b4 d3_0 d3_1 d3_2 d3_3 d3_4 d3_5 d3_6 d3_7
  go_wp2
  go_ret
  exact ⟨rfl, B4.out⟩
/-- May a reply be? -/
def wire_mayReply.f (a0 a1 a2 a3 : Int) (a4 : ByteArray) (_a5 : Bool) (l6 : List S41) (_a7 : Bool) : Option (Bool) :=
  if numB a0 = false then some false else if numB a1 = false then some false else if numB a2 = false then some false else if a3 < 0 then some false else if 16 < a3 then some false else if 64 < (a4.size : Int) then some false
  else if 16 < (l6.length : Int) then some false else if table_Right.f 20 l6 = some false then some false else if table_Right.f 20 l6 = some true then (if l6.any longP = true then some false else some true) else none
theorem wire_mayReply.calls (a0 a1 a2 a3 : Int) (a4 : ByteArray) (a5 : Bool) (A6 : Option Addr) (c6 : Nat) (l6 : List S41) (a7 : Bool) (r : Bool) (w : World) (hr : Kd.C k41 w A6 l6.length l6) (hc : l6.length ≤ c6) (h : wire_mayReply.f a0 a1 a2 a3 a4 a5 l6 a7 = some r) :
    Calls Try.prog 10 #[.agg #[.int .i64 a0, .int .i64 a1, .int .i64 a2, .int .i64 a3, .string a4, .bool a5, .slice A6 l6.length c6, .bool a7]] w fun e w' => e = .returned (.bool r) ∧ Below w.heap.size w w' := by
  unfold wire_mayReply.f at h
  by_cases c0 : numB a0 = false
  · rw [if_pos c0] at h
    obtain rfl := Option.some.inj h
    exact may_0 a0 a1 a2 a3 a4 a5 A6 c6 l6 a7 w hr hc c0
  rw [if_neg c0] at h
  have c0 : numB a0 = true := by simpa using c0
  by_cases c1 : numB a1 = false
  · rw [if_pos c1] at h
    obtain rfl := Option.some.inj h
    exact may_1 a0 a1 a2 a3 a4 a5 A6 c6 l6 a7 w hr hc c0 c1
  rw [if_neg c1] at h
  have c1 : numB a1 = true := by simpa using c1
  by_cases c2 : numB a2 = false
  · rw [if_pos c2] at h
    obtain rfl := Option.some.inj h
    exact may_2 a0 a1 a2 a3 a4 a5 A6 c6 l6 a7 w hr hc c0 c1 c2
  rw [if_neg c2] at h
  have c2 : numB a2 = true := by simpa using c2
  by_cases c3 : a3 < 0
  · rw [if_pos c3] at h
    obtain rfl := Option.some.inj h
    exact may_3 a0 a1 a2 a3 a4 a5 A6 c6 l6 a7 w hr hc c0 c1 c2 c3
  rw [if_neg c3] at h
  by_cases c4 : 16 < a3
  · rw [if_pos c4] at h
    obtain rfl := Option.some.inj h
    exact may_4 a0 a1 a2 a3 a4 a5 A6 c6 l6 a7 w hr hc c0 c1 c2 (by omega) c4
  rw [if_neg c4] at h
  by_cases c5 : 64 < (a4.size : Int)
  · rw [if_pos c5] at h
    obtain rfl := Option.some.inj h
    exact may_5 a0 a1 a2 a3 a4 a5 A6 c6 l6 a7 w hr hc c0 c1 c2 (by omega) (by omega) c5
  rw [if_neg c5] at h
  by_cases c6' : 16 < (l6.length : Int)
  · rw [if_pos c6'] at h
    obtain rfl := Option.some.inj h
    exact may_6 a0 a1 a2 a3 a4 a5 A6 c6 l6 a7 w hr hc c0 c1 c2 (by omega) (by omega) (by omega) c6'
  rw [if_neg c6'] at h
  by_cases c7 : table_Right.f 20 l6 = some false
  · rw [if_pos c7] at h
    obtain rfl := Option.some.inj h
    exact may_7 a0 a1 a2 a3 a4 a5 A6 c6 l6 a7 w hr hc c0 c1 c2 (by omega) (by omega) (by omega) (by omega) c7
  rw [if_neg c7] at h
  by_cases c8 : table_Right.f 20 l6 = some true
  · rw [if_pos c8] at h
    by_cases c9 : l6.any longP = true
    · rw [if_pos c9] at h
      obtain rfl := Option.some.inj h
      exact may_8 a0 a1 a2 a3 a4 a5 A6 c6 l6 a7 w hr hc c0 c1 c2 (by omega) (by omega) (by omega) (by omega) c8 c9
    · rw [if_neg c9] at h
      obtain rfl := Option.some.inj h
      exact may_9 a0 a1 a2 a3 a4 a5 A6 c6 l6 a7 w hr hc c0 c1 c2 (by omega) (by omega) (by omega) (by omega) c8 (Bool.eq_false_iff.mpr c9)
  · rw [if_neg c8] at h
    cases h
end Go.Proofs.Ytlpcidjmaeicoaa.QWi
