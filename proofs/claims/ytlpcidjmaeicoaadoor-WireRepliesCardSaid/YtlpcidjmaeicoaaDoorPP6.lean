/- Whatever reply there is, its bytes, and the reply of bytes, are as the reference says; which replies are the same, too (the statement WireReplies, as a card). Condition: the package variable errors.errorType holds what the program's text lays there (the given tie) (texts QWixP, OpenRow, OpenPairs, SameP, EncR, TakeReq, MayQ, TakeReqC, ReqP, RepliesP, Laid, UpWireReplies) -/
import Derived.Test.YtlpcidjmaeicoaaDoorRows
import Derived.SliceStrings
import Derived.ChangeSlices
import Derived.Deep.SlicePairs
import Derived.Handy
import Derived.Test.YtlpcidjmaeicoaaDoorCards
import Derived.Test.YtlpcidjmaeicoaaDoorTie
import Derived.RowKit
import Derived.LaidLaws
import Derived.LaidHandle
import Derived.Deep.DeepHandedRow
import Derived.Lib.LaidTab
import Derived.WalkKit
import Derived.ProofKit
import Derived.OpenShut
import Derived.ShutString
import Derived.ChangeOld
import Derived.Below
import Derived.Carry
import Derived.SevenTiedAt
import Derived.Test.YtlpcidjmaeicoaaDoorPP5
namespace Go.Proofs.YtlpcidjmaeicoaaDoor.QWi
open Go.RowKit Go.Proofs.YtlpcidjmaeicoaaDoorW.PrintWords Go.Proofs.YtlpcidjmaeicoaaDoorW.PrintLast Go.Proofs.YtlpcidjmaeicoaaDoorW.PrintMore
attribute [local go_sem] max2_int min2_int max_two min_two max_three min_three max_four min_four
set_option linter.unusedVariables false
set_option linter.unusedSimpArgs false
def stanchionlaw16_WireReplies.f (k : Nat) (a0_0 : Int) (a0_1 : Int) (a0_2 : Int) (a0_3 : Int) (a0_4 : ByteArray) (a0_5 : Bool) (l0_6 : List (S74)) (a0_7 : Bool) (a1 : ByteArray) (a2_0 : Int) (a2_1 : Int) (a2_2 : Int) (a2_3 : Int) (a2_4 : ByteArray) (a2_5 : Bool) (l2_6 : List (S74)) (a2_7 : Bool) : Option (Bool) := (stanchionlaw16_shown.f k).bind fun t425 => ((wire_Reply.f k a0_0 a0_1 a0_2 a0_3 a0_4 a0_5 l0_6 a0_7).bind fun bt426 => ((stanchionref16_Reply.f k a0_0 a0_1 a0_2 a0_3 a0_4 a0_5 l0_6 a0_7).bind fun bt428 => ((wire_TakeReply.f a1).bind fun bt430 => ((stanchionref16_TakeReply.f k a1).bind fun bt442 => ((stanchionref16_Same.f k bt430.1 bt430.2.1 bt430.2.2.1 bt430.2.2.2.1 bt430.2.2.2.2.1 bt430.2.2.2.2.2.1 bt430.2.2.2.2.2.2.1 bt430.2.2.2.2.2.2.2.1 bt442.1 bt442.2.1 bt442.2.2.1 bt442.2.2.2.1 bt442.2.2.2.2.1 bt442.2.2.2.2.2.1 bt442.2.2.2.2.2.2.1 bt442.2.2.2.2.2.2.2.1).bind fun t454 => (if t425 = true then (if bt426.1.toList = bt428.1.toList then (if bt426.2 = bt428.2 then (if t454 = true then (if bt430.2.2.2.2.2.2.2.2 = bt442.2.2.2.2.2.2.2.2 then ((wire_Same.f k a0_0 a0_1 a0_2 a0_3 a0_4 a0_5 l0_6 a0_7 a2_0 a2_1 a2_2 a2_3 a2_4 a2_5 l2_6 a2_7).bind fun t455 => ((stanchionref16_Same.f k a0_0 a0_1 a0_2 a0_3 a0_4 a0_5 l0_6 a0_7 a2_0 a2_1 a2_2 a2_3 a2_4 a2_5 l2_6 a2_7).bind fun t456 => (if (t455 == t456) = true then ((wire_Same.f k a0_0 a0_1 a0_2 a0_3 a0_4 a0_5 l0_6 a0_7 a0_0 a0_1 a0_2 a0_3 a0_4 a0_5 l0_6 a0_7).bind fun t457 => (some t457)) else (some false)))) else (some false)) else (some false)) else (some false)) else (some false)) else (some false)))))))
def stanchionlaw16_WireReplies.T7 : Bool × List (List Nat × List Nat) := (true, [([], []), ([0], [0]), ([1], [1]), ([1], [1]), ([2, 3, 1], [1, 2, 3]), ([1, 4], [1, 4]), ([5, 1], [5]), ([6], [6]), ([6], [6]), ([7, 8, 6], [6, 7, 8]), ([6, 9], [6, 9]), ([10, 6], [10]), ([11], [11]), ([11, 12], [11, 12]), ([13, 11], [13]), ([14], [14]), ([14], [14]), ([15, 16, 14], [14, 15, 16]), ([14, 17], [14, 17]), ([18, 14], [18]), ([19], [19]), ([19], [19]), ([20, 21, 19, 19], [19, 20, 21]), ([19], [19]), ([19], [19]), ([23, 24, 22, 19], [19, 23, 24]), ([22, 25, 19], [19, 22, 25]), ([19, 26], [19, 26]), ([27, 25], [27]), ([28], [28]), ([28], [28]), ([29, 30, 28, 28], [28, 29, 30]), ([28, 31], [28, 31]), ([32, 31, 0, 1, 2, 3, 4, 5, 6, 7, 8, 9, 10, 11, 12, 13, 14, 15, 16, 17, 18, 19, 20, 21, 22, 23, 24, 25, 26, 27, 28, 29, 30, 31, 32], [32])])
def stanchionlaw16_WireReplies.B7 : List Nat := [0, 1, 3, 3, 15, 31, 63, 127, 127, 511, 1023, 2047, 4095, 8191, 16383, 32767, 32767, 131071, 262143, 524287, 1048575, 1048575, 4194303, 1048575, 1048575, 33554431, 67108863, 134217727, 268435455, 536870911, 536870911, 2147483647, 4294967295, 8589934591]
theorem stanchionlaw16_WireReplies.tab7 : rtab .any (opsOf Tryd.f5 7) = stanchionlaw16_WireReplies.T7 := by kernel_rfl
theorem stanchionlaw16_WireReplies.bits7 : waitsOk stanchionlaw16_WireReplies.T7.2 stanchionlaw16_WireReplies.B7 = true := by kernel_rfl
set_option maxHeartbeats 8000000 in
set_option maxRecDepth 100000 in
theorem stanchionlaw16_WireReplies.calls (k : Nat) (a0_0 : Int) (a0_1 : Int) (a0_2 : Int) (a0_3 : Int) (a0_4 : ByteArray) (a0_5 : Bool) (A0_6 : Option Addr) (c0_6 : Nat) (l0_6 : List (S74)) (a0_7 : Bool) (a1 : ByteArray) (a2_0 : Int) (a2_1 : Int) (a2_2 : Int) (a2_3 : Int) (a2_4 : ByteArray) (a2_5 : Bool) (A2_6 : Option Addr) (c2_6 : Nat) (l2_6 : List (S74)) (a2_7 : Bool) (r : Bool) (w : World) (hr0_6 : Kd.C k74 w A0_6 l0_6.length l0_6) (hc0_6 : l0_6.length ≤ c0_6) (hr2_6 : Kd.C k74 w A2_6 l2_6.length l2_6) (hc2_6 : l2_6.length ≤ c2_6) (h : stanchionlaw16_WireReplies.f k a0_0 a0_1 a0_2 a0_3 a0_4 a0_5 l0_6 a0_7 a1 a2_0 a2_1 a2_2 a2_3 a2_4 a2_5 l2_6 a2_7 = some r) (hr0 : r = true) (hgl0 : Go.Proofs.YtlpcidjmaeicoaaDoor.Reader.Handle w) :
    Calls Tryd.prog 5 #[.agg #[.int .i64 a0_0, .int .i64 a0_1, .int .i64 a0_2, .int .i64 a0_3, .string a0_4, .bool a0_5, .slice A0_6 l0_6.length c0_6, .bool a0_7], .string a1, .agg #[.int .i64 a2_0, .int .i64 a2_1, .int .i64 a2_2, .int .i64 a2_3, .string a2_4, .bool a2_5, .slice A2_6 l2_6.length c2_6, .bool a2_7]] w fun e w' => e = .returned (.bool r) ∧ Below w.heap.size w w' := by
  have hr := Aside0.mk hr0
  clear hr0
  have HGL := Aside0.mk hgl0
  clear hgl0
  have hu41 := Tryd.underlying41
  have HR0_6 := Aside0.mk hr0_6
  have HC0_6 := Aside0.mk hc0_6
  clear hr0_6 hc0_6
  have HR2_6 := Aside0.mk hr2_6
  have HC2_6 := Aside0.mk hc2_6
  clear hr2_6 hc2_6
  have HB := Aside0.mk (Below.refl w.heap.size w)
  have H : ((stanchionlaw16_shown.f k).bind fun t425 => ((wire_Reply.f k a0_0 a0_1 a0_2 a0_3 a0_4 a0_5 l0_6 a0_7).bind fun bt426 => ((stanchionref16_Reply.f k a0_0 a0_1 a0_2 a0_3 a0_4 a0_5 l0_6 a0_7).bind fun bt428 => ((wire_TakeReply.f a1).bind fun bt430 => ((stanchionref16_TakeReply.f k a1).bind fun bt442 => ((stanchionref16_Same.f k bt430.1 bt430.2.1 bt430.2.2.1 bt430.2.2.2.1 bt430.2.2.2.2.1 bt430.2.2.2.2.2.1 bt430.2.2.2.2.2.2.1 bt430.2.2.2.2.2.2.2.1 bt442.1 bt442.2.1 bt442.2.2.1 bt442.2.2.2.1 bt442.2.2.2.2.1 bt442.2.2.2.2.2.1 bt442.2.2.2.2.2.2.1 bt442.2.2.2.2.2.2.2.1).bind fun t454 => (if t425 = true then (if bt426.1.toList = bt428.1.toList then (if bt426.2 = bt428.2 then (if t454 = true then (if bt430.2.2.2.2.2.2.2.2 = bt442.2.2.2.2.2.2.2.2 then ((wire_Same.f k a0_0 a0_1 a0_2 a0_3 a0_4 a0_5 l0_6 a0_7 a2_0 a2_1 a2_2 a2_3 a2_4 a2_5 l2_6 a2_7).bind fun t455 => ((stanchionref16_Same.f k a0_0 a0_1 a0_2 a0_3 a0_4 a0_5 l0_6 a0_7 a2_0 a2_1 a2_2 a2_3 a2_4 a2_5 l2_6 a2_7).bind fun t456 => (if (t455 == t456) = true then ((wire_Same.f k a0_0 a0_1 a0_2 a0_3 a0_4 a0_5 l0_6 a0_7 a0_0 a0_1 a0_2 a0_3 a0_4 a0_5 l0_6 a0_7).bind fun t457 => (some t457)) else (some false)))) else (some false)) else (some false)) else (some false)) else (some false)) else (some false)))))))) = some r := h
  clear h
  replace H := Option.bind_eq_some_iff.mp H
  obtain ⟨t425, A40, H⟩ := H
  replace H : ((wire_Reply.f k a0_0 a0_1 a0_2 a0_3 a0_4 a0_5 l0_6 a0_7).bind fun bt426 => ((stanchionref16_Reply.f k a0_0 a0_1 a0_2 a0_3 a0_4 a0_5 l0_6 a0_7).bind fun bt428 => ((wire_TakeReply.f a1).bind fun bt430 => ((stanchionref16_TakeReply.f k a1).bind fun bt442 => ((stanchionref16_Same.f k bt430.1 bt430.2.1 bt430.2.2.1 bt430.2.2.2.1 bt430.2.2.2.2.1 bt430.2.2.2.2.2.1 bt430.2.2.2.2.2.2.1 bt430.2.2.2.2.2.2.2.1 bt442.1 bt442.2.1 bt442.2.2.1 bt442.2.2.2.1 bt442.2.2.2.2.1 bt442.2.2.2.2.2.1 bt442.2.2.2.2.2.2.1 bt442.2.2.2.2.2.2.2.1).bind fun t454 => (if t425 = true then (if bt426.1.toList = bt428.1.toList then (if bt426.2 = bt428.2 then (if t454 = true then (if bt430.2.2.2.2.2.2.2.2 = bt442.2.2.2.2.2.2.2.2 then ((wire_Same.f k a0_0 a0_1 a0_2 a0_3 a0_4 a0_5 l0_6 a0_7 a2_0 a2_1 a2_2 a2_3 a2_4 a2_5 l2_6 a2_7).bind fun t455 => ((stanchionref16_Same.f k a0_0 a0_1 a0_2 a0_3 a0_4 a0_5 l0_6 a0_7 a2_0 a2_1 a2_2 a2_3 a2_4 a2_5 l2_6 a2_7).bind fun t456 => (if (t455 == t456) = true then ((wire_Same.f k a0_0 a0_1 a0_2 a0_3 a0_4 a0_5 l0_6 a0_7 a0_0 a0_1 a0_2 a0_3 a0_4 a0_5 l0_6 a0_7).bind fun t457 => (some t457)) else (some false)))) else (some false)) else (some false)) else (some false)) else (some false)) else (some false))))))) = some r := H
  have A4 := Aside0.mk A40
  clear A40
  replace H := Option.bind_eq_some_iff.mp H
  obtain ⟨⟨t426, t427⟩, A50, H⟩ := H
  replace H : ((stanchionref16_Reply.f k a0_0 a0_1 a0_2 a0_3 a0_4 a0_5 l0_6 a0_7).bind fun bt428 => ((wire_TakeReply.f a1).bind fun bt430 => ((stanchionref16_TakeReply.f k a1).bind fun bt442 => ((stanchionref16_Same.f k bt430.1 bt430.2.1 bt430.2.2.1 bt430.2.2.2.1 bt430.2.2.2.2.1 bt430.2.2.2.2.2.1 bt430.2.2.2.2.2.2.1 bt430.2.2.2.2.2.2.2.1 bt442.1 bt442.2.1 bt442.2.2.1 bt442.2.2.2.1 bt442.2.2.2.2.1 bt442.2.2.2.2.2.1 bt442.2.2.2.2.2.2.1 bt442.2.2.2.2.2.2.2.1).bind fun t454 => (if t425 = true then (if t426.toList = bt428.1.toList then (if t427 = bt428.2 then (if t454 = true then (if bt430.2.2.2.2.2.2.2.2 = bt442.2.2.2.2.2.2.2.2 then ((wire_Same.f k a0_0 a0_1 a0_2 a0_3 a0_4 a0_5 l0_6 a0_7 a2_0 a2_1 a2_2 a2_3 a2_4 a2_5 l2_6 a2_7).bind fun t455 => ((stanchionref16_Same.f k a0_0 a0_1 a0_2 a0_3 a0_4 a0_5 l0_6 a0_7 a2_0 a2_1 a2_2 a2_3 a2_4 a2_5 l2_6 a2_7).bind fun t456 => (if (t455 == t456) = true then ((wire_Same.f k a0_0 a0_1 a0_2 a0_3 a0_4 a0_5 l0_6 a0_7 a0_0 a0_1 a0_2 a0_3 a0_4 a0_5 l0_6 a0_7).bind fun t457 => (some t457)) else (some false)))) else (some false)) else (some false)) else (some false)) else (some false)) else (some false)))))) = some r := H
  have A5 := Aside0.mk A50
  clear A50
  replace H := Option.bind_eq_some_iff.mp H
  obtain ⟨⟨t428, t429⟩, A60, H⟩ := H
  replace H : ((wire_TakeReply.f a1).bind fun bt430 => ((stanchionref16_TakeReply.f k a1).bind fun bt442 => ((stanchionref16_Same.f k bt430.1 bt430.2.1 bt430.2.2.1 bt430.2.2.2.1 bt430.2.2.2.2.1 bt430.2.2.2.2.2.1 bt430.2.2.2.2.2.2.1 bt430.2.2.2.2.2.2.2.1 bt442.1 bt442.2.1 bt442.2.2.1 bt442.2.2.2.1 bt442.2.2.2.2.1 bt442.2.2.2.2.2.1 bt442.2.2.2.2.2.2.1 bt442.2.2.2.2.2.2.2.1).bind fun t454 => (if t425 = true then (if t426.toList = t428.toList then (if t427 = t429 then (if t454 = true then (if bt430.2.2.2.2.2.2.2.2 = bt442.2.2.2.2.2.2.2.2 then ((wire_Same.f k a0_0 a0_1 a0_2 a0_3 a0_4 a0_5 l0_6 a0_7 a2_0 a2_1 a2_2 a2_3 a2_4 a2_5 l2_6 a2_7).bind fun t455 => ((stanchionref16_Same.f k a0_0 a0_1 a0_2 a0_3 a0_4 a0_5 l0_6 a0_7 a2_0 a2_1 a2_2 a2_3 a2_4 a2_5 l2_6 a2_7).bind fun t456 => (if (t455 == t456) = true then ((wire_Same.f k a0_0 a0_1 a0_2 a0_3 a0_4 a0_5 l0_6 a0_7 a0_0 a0_1 a0_2 a0_3 a0_4 a0_5 l0_6 a0_7).bind fun t457 => (some t457)) else (some false)))) else (some false)) else (some false)) else (some false)) else (some false)) else (some false))))) = some r := H
  have A6 := Aside0.mk A60
  clear A60
  replace H := Option.bind_eq_some_iff.mp H
  obtain ⟨⟨t430, t431, t432, t433, t434, t435, t436, t439, t440⟩, A70, H⟩ := H
  replace H : ((stanchionref16_TakeReply.f k a1).bind fun bt442 => ((stanchionref16_Same.f k t430 t431 t432 t433 t434 t435 t436 t439 bt442.1 bt442.2.1 bt442.2.2.1 bt442.2.2.2.1 bt442.2.2.2.2.1 bt442.2.2.2.2.2.1 bt442.2.2.2.2.2.2.1 bt442.2.2.2.2.2.2.2.1).bind fun t454 => (if t425 = true then (if t426.toList = t428.toList then (if t427 = t429 then (if t454 = true then (if t440 = bt442.2.2.2.2.2.2.2.2 then ((wire_Same.f k a0_0 a0_1 a0_2 a0_3 a0_4 a0_5 l0_6 a0_7 a2_0 a2_1 a2_2 a2_3 a2_4 a2_5 l2_6 a2_7).bind fun t455 => ((stanchionref16_Same.f k a0_0 a0_1 a0_2 a0_3 a0_4 a0_5 l0_6 a0_7 a2_0 a2_1 a2_2 a2_3 a2_4 a2_5 l2_6 a2_7).bind fun t456 => (if (t455 == t456) = true then ((wire_Same.f k a0_0 a0_1 a0_2 a0_3 a0_4 a0_5 l0_6 a0_7 a0_0 a0_1 a0_2 a0_3 a0_4 a0_5 l0_6 a0_7).bind fun t457 => (some t457)) else (some false)))) else (some false)) else (some false)) else (some false)) else (some false)) else (some false)))) = some r := H
  have A7 := Aside0.mk A70
  clear A70
  replace H := Option.bind_eq_some_iff.mp H
  obtain ⟨⟨t442, t443, t444, t445, t446, t447, t448, t451, t452⟩, A80, H⟩ := H
  replace H : ((stanchionref16_Same.f k t430 t431 t432 t433 t434 t435 t436 t439 t442 t443 t444 t445 t446 t447 t448 t451).bind fun t454 => (if t425 = true then (if t426.toList = t428.toList then (if t427 = t429 then (if t454 = true then (if t440 = t452 then ((wire_Same.f k a0_0 a0_1 a0_2 a0_3 a0_4 a0_5 l0_6 a0_7 a2_0 a2_1 a2_2 a2_3 a2_4 a2_5 l2_6 a2_7).bind fun t455 => ((stanchionref16_Same.f k a0_0 a0_1 a0_2 a0_3 a0_4 a0_5 l0_6 a0_7 a2_0 a2_1 a2_2 a2_3 a2_4 a2_5 l2_6 a2_7).bind fun t456 => (if (t455 == t456) = true then ((wire_Same.f k a0_0 a0_1 a0_2 a0_3 a0_4 a0_5 l0_6 a0_7 a0_0 a0_1 a0_2 a0_3 a0_4 a0_5 l0_6 a0_7).bind fun t457 => (some t457)) else (some false)))) else (some false)) else (some false)) else (some false)) else (some false)) else (some false))) = some r := H
  have A8 := Aside0.mk A80
  clear A80
  replace H := Option.bind_eq_some_iff.mp H
  obtain ⟨t454, A90, H⟩ := H
  replace H : (if t425 = true then (if t426.toList = t428.toList then (if t427 = t429 then (if t454 = true then (if t440 = t452 then ((wire_Same.f k a0_0 a0_1 a0_2 a0_3 a0_4 a0_5 l0_6 a0_7 a2_0 a2_1 a2_2 a2_3 a2_4 a2_5 l2_6 a2_7).bind fun t455 => ((stanchionref16_Same.f k a0_0 a0_1 a0_2 a0_3 a0_4 a0_5 l0_6 a0_7 a2_0 a2_1 a2_2 a2_3 a2_4 a2_5 l2_6 a2_7).bind fun t456 => (if (t455 == t456) = true then ((wire_Same.f k a0_0 a0_1 a0_2 a0_3 a0_4 a0_5 l0_6 a0_7 a0_0 a0_1 a0_2 a0_3 a0_4 a0_5 l0_6 a0_7).bind fun t457 => (some t457)) else (some false)))) else (some false)) else (some false)) else (some false)) else (some false)) else (some false)) = some r := H
  have A9 := Aside0.mk A90
  clear A90
  by_cases c10 : t425 = true
  · subst c10
    have H1 : (if t426.toList = t428.toList then (if t427 = t429 then (if t454 = true then (if t440 = t452 then ((wire_Same.f k a0_0 a0_1 a0_2 a0_3 a0_4 a0_5 l0_6 a0_7 a2_0 a2_1 a2_2 a2_3 a2_4 a2_5 l2_6 a2_7).bind fun t455 => ((stanchionref16_Same.f k a0_0 a0_1 a0_2 a0_3 a0_4 a0_5 l0_6 a0_7 a2_0 a2_1 a2_2 a2_3 a2_4 a2_5 l2_6 a2_7).bind fun t456 => (if (t455 == t456) = true then ((wire_Same.f k a0_0 a0_1 a0_2 a0_3 a0_4 a0_5 l0_6 a0_7 a0_0 a0_1 a0_2 a0_3 a0_4 a0_5 l0_6 a0_7).bind fun t457 => (some t457)) else (some false)))) else (some false)) else (some false)) else (some false)) else (some false)) = some r := by rw [if_pos rfl] at H; exact H
    clear H
    have H := H1
    clear H1
    by_cases c11 : t426.toList = t428.toList
    · rw [if_pos c11] at H
      have c11b0 : (t426.toList == t428.toList) = true := beq_iff_eq.mpr c11
      have c11b1 : (t426.toList != t428.toList) = false := bne_eq_false_iff_eq.mpr c11
      clear c11
      by_cases c12 : t427 = t429
      · rw [if_pos c12] at H
        have c12b0 : (t427 == t429) = true := beq_iff_eq.mpr c12
        have c12b1 : (t427 != t429) = false := bne_eq_false_iff_eq.mpr c12
        clear c12
        by_cases c13 : t454 = true
        · subst c13
          have H1 : (if t440 = t452 then ((wire_Same.f k a0_0 a0_1 a0_2 a0_3 a0_4 a0_5 l0_6 a0_7 a2_0 a2_1 a2_2 a2_3 a2_4 a2_5 l2_6 a2_7).bind fun t455 => ((stanchionref16_Same.f k a0_0 a0_1 a0_2 a0_3 a0_4 a0_5 l0_6 a0_7 a2_0 a2_1 a2_2 a2_3 a2_4 a2_5 l2_6 a2_7).bind fun t456 => (if (t455 == t456) = true then ((wire_Same.f k a0_0 a0_1 a0_2 a0_3 a0_4 a0_5 l0_6 a0_7 a0_0 a0_1 a0_2 a0_3 a0_4 a0_5 l0_6 a0_7).bind fun t457 => (some t457)) else (some false)))) else (some false)) = some r := by rw [if_pos rfl] at H; exact H
          clear H
          have H := H1
          clear H1
          by_cases c14 : t440 = t452
          · rw [if_pos c14] at H
            have c14b0 : (t440 == t452) = true := beq_iff_eq.mpr c14
            have c14b1 : (t440 != t452) = false := bne_eq_false_iff_eq.mpr c14
            clear c14
            replace H := Option.bind_eq_some_iff.mp H
            obtain ⟨t455, A150, H⟩ := H
            replace H : ((stanchionref16_Same.f k a0_0 a0_1 a0_2 a0_3 a0_4 a0_5 l0_6 a0_7 a2_0 a2_1 a2_2 a2_3 a2_4 a2_5 l2_6 a2_7).bind fun t456 => (if (t455 == t456) = true then ((wire_Same.f k a0_0 a0_1 a0_2 a0_3 a0_4 a0_5 l0_6 a0_7 a0_0 a0_1 a0_2 a0_3 a0_4 a0_5 l0_6 a0_7).bind fun t457 => (some t457)) else (some false))) = some r := H
            have A15 := Aside0.mk A150
            clear A150
            replace H := Option.bind_eq_some_iff.mp H
            obtain ⟨t456, A160, H⟩ := H
            replace H : (if (t455 == t456) = true then ((wire_Same.f k a0_0 a0_1 a0_2 a0_3 a0_4 a0_5 l0_6 a0_7 a0_0 a0_1 a0_2 a0_3 a0_4 a0_5 l0_6 a0_7).bind fun t457 => (some t457)) else (some false)) = some r := H
            have A16 := Aside0.mk A160
            clear A160
            by_cases c17 : (t455 == t456) = true
            · rw [if_pos c17] at H
              have c17b0 : (t455 == t456) = true := c17
              (try (have c17b1 : decide (t455 = t456) = true := by simpa using c17))
              (try (have c17b2 : (t455 == t456) = true := by simpa using c17))
              clear c17
              replace H := Option.bind_eq_some_iff.mp H
              obtain ⟨t457, A180, H⟩ := H
              replace H : (some t457) = some r := H
              have A18 := Aside0.mk A180
              clear A180
              obtain rfl := Option.some.inj H
              go_enter Tryd.func5, Tryd.ntmps5
              try go_wp2_with (first | ((with_reducible refine gate_dst (N := 3) rfl ?_); refine box_event ?hg (N := 3) ?hd (cs := #[.int .i64 a0_0, .int .i64 a0_1, .int .i64 a0_2, .int .i64 a0_3, .string a0_4, .bool a0_5, .slice A0_6 l0_6.length c0_6, .bool a0_7]) (t := 41) ?hr ?_; (case hd => rfl); (case hg => rfl); (case hr => first | (go_simp; done) | (go_simp; rfl)); intro gb423 hg w19 hbox hb; have n0_ := Aside0.mk (below_step (by repeat (first | (with_reducible first | exact HB.out | apply below_alloc | apply pw_below_drewN | apply below_drew1) | exact HB.out)) hb); have n1_ := Aside0.mk (hbox); have n2_ := Aside0.mk ((by rw [hg]; exact (below_size (by repeat (first | (with_reducible first | exact HB.out | apply below_alloc | apply pw_below_drewN | apply below_drew1) | exact HB.out))) : w.heap.size ≤ gb423)); have n3_ := Aside0.mk ((by rw [hg]; exact (below_size (by repeat (first | (with_reducible first | exact HB.out | apply below_alloc | apply pw_below_drewN | apply below_drew1) | exact HB.out))) : w.heap.size ≤ gb423)); clear HB; have HB := n0_; have BK423 := n1_; have GW423 := n2_; have GE423 := n3_; clear n0_ n1_ n2_ n3_; clear hb hbox hg) | ((with_reducible refine gate_dst (N := 5) rfl ?_); refine box_event ?hg (N := 5) ?hd (cs := #[.int .i64 a2_0, .int .i64 a2_1, .int .i64 a2_2, .int .i64 a2_3, .string a2_4, .bool a2_5, .slice A2_6 l2_6.length c2_6, .bool a2_7]) (t := 41) ?hr ?_; (case hd => rfl); (case hg => rfl); (case hr => first | (go_simp; done) | (go_simp; rfl)); intro gb424 hg w20 hbox hb; have n0_ := Aside0.mk (blk_below (g := gb423) (o := .cells #[.int .i64 a0_0, .int .i64 a0_1, .int .i64 a0_2, .int .i64 a0_3, .string a0_4, .bool a0_5, .slice A0_6 l0_6.length c0_6, .bool a0_7] 41 (0, 0)) (by (with_reducible repeat (first | refine blk_drewN ?_ _ | refine blk_drew ?_ | refine blk_alloc ?_ _)); exact BK423.out) hb); have n1_ := Aside0.mk (below_step (by repeat (first | (with_reducible first | exact HB.out | apply below_alloc | apply pw_below_drewN | apply below_drew1 | refine below_set ?_ GE423.out) | exact HB.out)) hb); have n2_ := Aside0.mk (hbox); have n3_ := Aside0.mk ((by rw [hg]; exact (below_size (by repeat (first | (with_reducible first | exact HB.out | apply below_alloc | apply pw_below_drewN | apply below_drew1 | refine below_set ?_ GE423.out) | exact HB.out))) : w.heap.size ≤ gb424)); have n4_ := Aside0.mk ((by rw [hg]; exact (below_size (by repeat (first | (with_reducible first | exact HB.out | apply below_alloc | apply pw_below_drewN | apply below_drew1 | refine below_set ?_ GE423.out) | exact HB.out))) : w.heap.size ≤ gb424)); have n5_ := Aside0.mk ((by rw [hg]; exact Nat.ne_of_lt (blk_lt (g := gb423) (o := .cells #[.int .i64 a0_0, .int .i64 a0_1, .int .i64 a0_2, .int .i64 a0_3, .string a0_4, .bool a0_5, .slice A0_6 l0_6.length c0_6, .bool a0_7] 41 (0, 0)) (by (with_reducible repeat (first | refine blk_drewN ?_ _ | refine blk_drew ?_ | refine blk_alloc ?_ _)); exact BK423.out)) : gb423 ≠ gb424)); have n6_ := Aside0.mk ((by rw [hg]; exact Nat.ne_of_gt (blk_lt (g := gb423) (o := .cells #[.int .i64 a0_0, .int .i64 a0_1, .int .i64 a0_2, .int .i64 a0_3, .string a0_4, .bool a0_5, .slice A0_6 l0_6.length c0_6, .bool a0_7] 41 (0, 0)) (by (with_reducible repeat (first | refine blk_drewN ?_ _ | refine blk_drew ?_ | refine blk_alloc ?_ _)); exact BK423.out)) : gb424 ≠ gb423)); clear BK423; clear HB; have BK423 := n0_; have HB := n1_; have BK424 := n2_; have GW424 := n3_; have GE424 := n4_; have NB423_424 := n5_; have NB424_423 := n6_; clear n0_ n1_ n2_ n3_ n4_ n5_ n6_; clear hb hbox hg) | ((with_reducible refine gate_callee (f := 8) rfl ?_); refine goesL_ (some 17) rfl rfl Tryd.func8 (by kernel_rfl) rfl #[] rfl (by (try simp only [List.map_toArray, List.map_cons, List.map_nil]); first | done | rfl | (simp only [List.length_drop, List.length_take]; rfl)) ?_; (with_reducible refine (stanchionlaw16_shown.calls k  true _ A4.out).mono ?_); rintro e w21 ⟨rfl, hb⟩; refine ⟨_, rfl, ?_⟩; have n0_ := Aside0.mk (blk_below (g := gb423) (o := .cells #[.int .i64 a0_0, .int .i64 a0_1, .int .i64 a0_2, .int .i64 a0_3, .string a0_4, .bool a0_5, .slice A0_6 l0_6.length c0_6, .bool a0_7] 41 (0, 0)) (by (with_reducible repeat (first | refine blk_drewN ?_ _ | refine blk_drew ?_ | refine blk_alloc ?_ _)); exact BK423.out) hb); have n1_ := Aside0.mk (blk_below (g := gb424) (o := .cells #[.int .i64 a2_0, .int .i64 a2_1, .int .i64 a2_2, .int .i64 a2_3, .string a2_4, .bool a2_5, .slice A2_6 l2_6.length c2_6, .bool a2_7] 41 (0, 0)) (by (with_reducible repeat (first | refine blk_drewN ?_ _ | refine blk_drew ?_ | refine blk_alloc ?_ _)); exact BK424.out) hb); have n2_ := Aside0.mk (below_step (by repeat (first | (with_reducible first | exact HB.out | apply below_alloc | apply pw_below_drewN | apply below_drew1 | refine below_set ?_ GE423.out | refine below_set ?_ GE424.out) | exact HB.out)) hb); clear BK423; clear BK424; clear HB; have BK423 := n0_; have BK424 := n1_; have HB := n2_; clear n0_ n1_ n2_; (try clear hb); (try clear hb2); (try clear hk); (try clear hi); have hnb22 := NB423_424.out; have hnc22 := NB424_423.out; have hcz23_0 : w21.cell? ⟨gb423, 0, none⟩ = some (.int .i64 a0_0) := (blk_cell BK423.out 0).trans rfl; have hcz23_1 : w21.cell? ⟨gb423, 1, none⟩ = some (.int .i64 a0_1) := (blk_cell BK423.out 1).trans rfl; have hcz23_2 : w21.cell? ⟨gb423, 2, none⟩ = some (.int .i64 a0_2) := (blk_cell BK423.out 2).trans rfl; have hcz23_3 : w21.cell? ⟨gb423, 3, none⟩ = some (.int .i64 a0_3) := (blk_cell BK423.out 3).trans rfl; have hcz23_4 : w21.cell? ⟨gb423, 4, none⟩ = some (.string a0_4) := (blk_cell BK423.out 4).trans rfl; have hcz23_5 : w21.cell? ⟨gb423, 5, none⟩ = some (.bool a0_5) := (blk_cell BK423.out 5).trans rfl; have hcz23_6 : w21.cell? ⟨gb423, 6, none⟩ = some (.slice A0_6 l0_6.length c0_6) := (blk_cell BK423.out 6).trans rfl; have hcz23_7 : w21.cell? ⟨gb423, 7, none⟩ = some (.bool a0_7) := (blk_cell BK423.out 7).trans rfl; have hfz23_0 := blk_frozen BK423.out 0; have hfz23_1 := blk_frozen BK423.out 1; have hfz23_2 := blk_frozen BK423.out 2; have hfz23_3 := blk_frozen BK423.out 3; have hfz23_4 := blk_frozen BK423.out 4; have hfz23_5 := blk_frozen BK423.out 5; have hfz23_6 := blk_frozen BK423.out 6; have hfz23_7 := blk_frozen BK423.out 7) | ((with_reducible refine gate_callee (f := 15) rfl ?_); refine goesL_ (some 20) rfl rfl Tryd.func15 (by kernel_rfl) rfl #[.agg #[.int .i64 a0_0, .int .i64 a0_1, .int .i64 a0_2, .int .i64 a0_3, .string a0_4, .bool a0_5, .slice A0_6 l0_6.length c0_6, .bool a0_7]] rfl (by (try simp only [List.map_toArray, List.map_cons, List.map_nil]); first | done | rfl | (simp only [List.length_drop, List.length_take]; rfl)) ?_; (with_reducible refine (wire_Reply.calls k a0_0 a0_1 a0_2 a0_3 a0_4 a0_5 _ _ l0_6 a0_7 t426 t427 _ ?side1 ?side2 A5.out).mono ?_); (case side1 => repeat (first | exact (Kd.C_below HR0_6.out HB.out) | (with_reducible refine Kd.C_alloc ?_ _) | (with_reducible refine Kd.C_drewN ?_ _) | (with_reducible refine Kd.C_drew ?_))); (case side2 => exact HC0_6.out); rintro e w24 ⟨rfl, hb⟩; refine ⟨_, rfl, ?_⟩; have n0_ := Aside0.mk (blk_below (g := gb423) (o := .cells #[.int .i64 a0_0, .int .i64 a0_1, .int .i64 a0_2, .int .i64 a0_3, .string a0_4, .bool a0_5, .slice A0_6 l0_6.length c0_6, .bool a0_7] 41 (0, 0)) (by (with_reducible repeat (first | refine blk_drewN ?_ _ | refine blk_drew ?_ | refine blk_alloc ?_ _)); exact BK423.out) hb); have n1_ := Aside0.mk (blk_below (g := gb424) (o := .cells #[.int .i64 a2_0, .int .i64 a2_1, .int .i64 a2_2, .int .i64 a2_3, .string a2_4, .bool a2_5, .slice A2_6 l2_6.length c2_6, .bool a2_7] 41 (0, 0)) (by (with_reducible repeat (first | refine blk_drewN ?_ _ | refine blk_drew ?_ | refine blk_alloc ?_ _)); exact BK424.out) hb); have n2_ := Aside0.mk (below_step (by repeat (first | (with_reducible first | exact HB.out | apply below_alloc | apply pw_below_drewN | apply below_drew1 | refine below_set ?_ GE423.out | refine below_set ?_ GE424.out) | exact HB.out)) hb); clear BK423; clear BK424; clear HB; have BK423 := n0_; have BK424 := n1_; have HB := n2_; clear n0_ n1_ n2_; (try clear hb); (try clear hb2); (try clear hk); (try clear hi); have hcz25_0 : w24.cell? ⟨gb423, 0, none⟩ = some (.int .i64 a0_0) := (blk_cell BK423.out 0).trans rfl; have hcz25_1 : w24.cell? ⟨gb423, 1, none⟩ = some (.int .i64 a0_1) := (blk_cell BK423.out 1).trans rfl; have hcz25_2 : w24.cell? ⟨gb423, 2, none⟩ = some (.int .i64 a0_2) := (blk_cell BK423.out 2).trans rfl; have hcz25_3 : w24.cell? ⟨gb423, 3, none⟩ = some (.int .i64 a0_3) := (blk_cell BK423.out 3).trans rfl; have hcz25_4 : w24.cell? ⟨gb423, 4, none⟩ = some (.string a0_4) := (blk_cell BK423.out 4).trans rfl; have hcz25_5 : w24.cell? ⟨gb423, 5, none⟩ = some (.bool a0_5) := (blk_cell BK423.out 5).trans rfl; have hcz25_6 : w24.cell? ⟨gb423, 6, none⟩ = some (.slice A0_6 l0_6.length c0_6) := (blk_cell BK423.out 6).trans rfl; have hcz25_7 : w24.cell? ⟨gb423, 7, none⟩ = some (.bool a0_7) := (blk_cell BK423.out 7).trans rfl; have hfz25_0 := blk_frozen BK423.out 0; have hfz25_1 := blk_frozen BK423.out 1; have hfz25_2 := blk_frozen BK423.out 2; have hfz25_3 := blk_frozen BK423.out 3; have hfz25_4 := blk_frozen BK423.out 4; have hfz25_5 := blk_frozen BK423.out 5; have hfz25_6 := blk_frozen BK423.out 6; have hfz25_7 := blk_frozen BK423.out 7) | ((with_reducible refine gate_callee (f := 16) rfl ?_); refine goesL_ (some 25) rfl rfl Tryd.func16 (by kernel_rfl) rfl #[.agg #[.int .i64 a0_0, .int .i64 a0_1, .int .i64 a0_2, .int .i64 a0_3, .string a0_4, .bool a0_5, .slice A0_6 l0_6.length c0_6, .bool a0_7]] rfl (by (try simp only [List.map_toArray, List.map_cons, List.map_nil]); first | done | rfl | (simp only [List.length_drop, List.length_take]; rfl)) ?_; (with_reducible refine (stanchionref16_Reply.calls k a0_0 a0_1 a0_2 a0_3 a0_4 a0_5 _ _ l0_6 a0_7 t428 t429 _ ?side1 ?side2 A6.out).mono ?_); (case side1 => repeat (first | exact (Kd.C_below HR0_6.out HB.out) | (with_reducible refine Kd.C_alloc ?_ _) | (with_reducible refine Kd.C_drewN ?_ _) | (with_reducible refine Kd.C_drew ?_))); (case side2 => exact HC0_6.out); rintro e w26 ⟨rfl, hb⟩; refine ⟨_, rfl, ?_⟩; have n0_ := Aside0.mk (blk_below (g := gb423) (o := .cells #[.int .i64 a0_0, .int .i64 a0_1, .int .i64 a0_2, .int .i64 a0_3, .string a0_4, .bool a0_5, .slice A0_6 l0_6.length c0_6, .bool a0_7] 41 (0, 0)) (by (with_reducible repeat (first | refine blk_drewN ?_ _ | refine blk_drew ?_ | refine blk_alloc ?_ _)); exact BK423.out) hb); have n1_ := Aside0.mk (blk_below (g := gb424) (o := .cells #[.int .i64 a2_0, .int .i64 a2_1, .int .i64 a2_2, .int .i64 a2_3, .string a2_4, .bool a2_5, .slice A2_6 l2_6.length c2_6, .bool a2_7] 41 (0, 0)) (by (with_reducible repeat (first | refine blk_drewN ?_ _ | refine blk_drew ?_ | refine blk_alloc ?_ _)); exact BK424.out) hb); have n2_ := Aside0.mk (below_step (by repeat (first | (with_reducible first | exact HB.out | apply below_alloc | apply pw_below_drewN | apply below_drew1 | refine below_set ?_ GE423.out | refine below_set ?_ GE424.out) | exact HB.out)) hb); clear BK423; clear BK424; clear HB; have BK423 := n0_; have BK424 := n1_; have HB := n2_; clear n0_ n1_ n2_; (try clear hb); (try clear hb2); (try clear hk); (try clear hi)) | ((with_reducible refine gate_callee (f := 17) rfl ?_); refine goesL_ (some 30) rfl rfl Tryd.func17 (by kernel_rfl) rfl #[.string a1] rfl (by (try simp only [List.map_toArray, List.map_cons, List.map_nil]); first | done | rfl | (simp only [List.length_drop, List.length_take]; rfl)) ?_; (with_reducible refine (wire_TakeReply.calls a1 t430 t431 t432 t433 t434 t435 t436 t439 t440 _ A7.out (handle_rep HGL.out (by repeat (first | (with_reducible first | exact HB.out | apply below_alloc | apply pw_below_drewN | apply below_drew1 | refine below_set ?_ GE423.out | refine below_set ?_ GE424.out) | exact HB.out)))).mono ?_); rintro e w27 ⟨v437, rfl, ho0, hb⟩; refine ⟨_, rfl, ?_⟩; have n0_ := Aside0.mk (Kd.R_lower ho0 (below_size (by repeat (first | (with_reducible first | exact HB.out | apply below_alloc | apply pw_below_drewN | apply below_drew1 | refine below_set ?_ GE423.out | refine below_set ?_ GE424.out) | exact HB.out)))); have n1_ := Aside0.mk (blk_below (g := gb423) (o := .cells #[.int .i64 a0_0, .int .i64 a0_1, .int .i64 a0_2, .int .i64 a0_3, .string a0_4, .bool a0_5, .slice A0_6 l0_6.length c0_6, .bool a0_7] 41 (0, 0)) (by (with_reducible repeat (first | refine blk_drewN ?_ _ | refine blk_drew ?_ | refine blk_alloc ?_ _)); exact BK423.out) hb); have n2_ := Aside0.mk (blk_below (g := gb424) (o := .cells #[.int .i64 a2_0, .int .i64 a2_1, .int .i64 a2_2, .int .i64 a2_3, .string a2_4, .bool a2_5, .slice A2_6 l2_6.length c2_6, .bool a2_7] 41 (0, 0)) (by (with_reducible repeat (first | refine blk_drewN ?_ _ | refine blk_drew ?_ | refine blk_alloc ?_ _)); exact BK424.out) hb); have n3_ := Aside0.mk (below_step (by repeat (first | (with_reducible first | exact HB.out | apply below_alloc | apply pw_below_drewN | apply below_drew1 | refine below_set ?_ GE423.out | refine below_set ?_ GE424.out) | exact HB.out)) hb); clear BK423; clear BK424; clear HB; have HO438 := n0_; have BK423 := n1_; have BK424 := n2_; have HB := n3_; clear n0_ n1_ n2_ n3_; (try clear hb); (try clear hb2); (try clear hk); (try clear hi); (try clear ho0)) | ((with_reducible refine gate_dst (N := 12) rfl ?_); refine box_event ?hg (N := 12) ?hd (cs := #[.int .i64 0, .int .i64 0, .int .i64 0, .int .i64 0, .string (⟨#[]⟩ : ByteArray), .bool false, .slice none 0 0, .bool false]) (t := 41) ?hr ?_; (case hd => rfl); (case hg => rfl); (case hr => first | (go_simp; done) | (go_simp; rfl)); intro gb441 hg w28 hbox hb; have n0_ := Aside0.mk (Kd.R_below (by (with_reducible repeat (first | apply Kd.R_alloc | apply Kd.R_drewN | apply Kd.R_drew)); exact HO438.out) hb); have n1_ := Aside0.mk (blk_below (g := gb423) (o := .cells #[.int .i64 a0_0, .int .i64 a0_1, .int .i64 a0_2, .int .i64 a0_3, .string a0_4, .bool a0_5, .slice A0_6 l0_6.length c0_6, .bool a0_7] 41 (0, 0)) (by (with_reducible repeat (first | refine blk_drewN ?_ _ | refine blk_drew ?_ | refine blk_alloc ?_ _)); exact BK423.out) hb); have n2_ := Aside0.mk (blk_below (g := gb424) (o := .cells #[.int .i64 a2_0, .int .i64 a2_1, .int .i64 a2_2, .int .i64 a2_3, .string a2_4, .bool a2_5, .slice A2_6 l2_6.length c2_6, .bool a2_7] 41 (0, 0)) (by (with_reducible repeat (first | refine blk_drewN ?_ _ | refine blk_drew ?_ | refine blk_alloc ?_ _)); exact BK424.out) hb); have n3_ := Aside0.mk (below_step (by repeat (first | (with_reducible first | exact HB.out | apply below_alloc | apply pw_below_drewN | apply below_drew1 | refine below_set ?_ GE423.out | refine below_set ?_ GE424.out) | exact HB.out)) hb); have n4_ := Aside0.mk (hbox); have n5_ := Aside0.mk ((by rw [hg]; exact (below_size (by repeat (first | (with_reducible first | exact HB.out | apply below_alloc | apply pw_below_drewN | apply below_drew1 | refine below_set ?_ GE423.out | refine below_set ?_ GE424.out) | exact HB.out))) : w.heap.size ≤ gb441)); have n6_ := Aside0.mk ((by rw [hg]; exact (below_size (by repeat (first | (with_reducible first | exact HB.out | apply below_alloc | apply pw_below_drewN | apply below_drew1 | refine below_set ?_ GE423.out | refine below_set ?_ GE424.out) | exact HB.out))) : w.heap.size ≤ gb441)); have n7_ := Aside0.mk ((by rw [hg]; exact Nat.ne_of_lt (blk_lt (g := gb423) (o := .cells #[.int .i64 a0_0, .int .i64 a0_1, .int .i64 a0_2, .int .i64 a0_3, .string a0_4, .bool a0_5, .slice A0_6 l0_6.length c0_6, .bool a0_7] 41 (0, 0)) (by (with_reducible repeat (first | refine blk_drewN ?_ _ | refine blk_drew ?_ | refine blk_alloc ?_ _)); exact BK423.out)) : gb423 ≠ gb441)); have n8_ := Aside0.mk ((by rw [hg]; exact Nat.ne_of_gt (blk_lt (g := gb423) (o := .cells #[.int .i64 a0_0, .int .i64 a0_1, .int .i64 a0_2, .int .i64 a0_3, .string a0_4, .bool a0_5, .slice A0_6 l0_6.length c0_6, .bool a0_7] 41 (0, 0)) (by (with_reducible repeat (first | refine blk_drewN ?_ _ | refine blk_drew ?_ | refine blk_alloc ?_ _)); exact BK423.out)) : gb441 ≠ gb423)); have n9_ := Aside0.mk ((by rw [hg]; exact Nat.ne_of_lt (blk_lt (g := gb424) (o := .cells #[.int .i64 a2_0, .int .i64 a2_1, .int .i64 a2_2, .int .i64 a2_3, .string a2_4, .bool a2_5, .slice A2_6 l2_6.length c2_6, .bool a2_7] 41 (0, 0)) (by (with_reducible repeat (first | refine blk_drewN ?_ _ | refine blk_drew ?_ | refine blk_alloc ?_ _)); exact BK424.out)) : gb424 ≠ gb441)); have n10_ := Aside0.mk ((by rw [hg]; exact Nat.ne_of_gt (blk_lt (g := gb424) (o := .cells #[.int .i64 a2_0, .int .i64 a2_1, .int .i64 a2_2, .int .i64 a2_3, .string a2_4, .bool a2_5, .slice A2_6 l2_6.length c2_6, .bool a2_7] 41 (0, 0)) (by (with_reducible repeat (first | refine blk_drewN ?_ _ | refine blk_drew ?_ | refine blk_alloc ?_ _)); exact BK424.out)) : gb441 ≠ gb424)); clear HO438; clear BK423; clear BK424; clear HB; have HO438 := n0_; have BK423 := n1_; have BK424 := n2_; have HB := n3_; have BK441 := n4_; have GW441 := n5_; have GE441 := n6_; have NB423_441 := n7_; have NB441_423 := n8_; have NB424_441 := n9_; have NB441_424 := n10_; clear n0_ n1_ n2_ n3_ n4_ n5_ n6_ n7_ n8_ n9_ n10_; clear hb hbox hg; have hnb29 := NB441_423.out; have hnc29 := NB423_441.out; have hnb30 := NB441_424.out; have hnc30 := NB424_441.out; have hcz31_0 : w28.cell? ⟨gb441, 0, none⟩ = some (.int .i64 0) := (blk_cell BK441.out 0).trans rfl; have hcz31_1 : w28.cell? ⟨gb441, 1, none⟩ = some (.int .i64 0) := (blk_cell BK441.out 1).trans rfl; have hcz31_2 : w28.cell? ⟨gb441, 2, none⟩ = some (.int .i64 0) := (blk_cell BK441.out 2).trans rfl; have hcz31_3 : w28.cell? ⟨gb441, 3, none⟩ = some (.int .i64 0) := (blk_cell BK441.out 3).trans rfl; have hcz31_4 : w28.cell? ⟨gb441, 4, none⟩ = some (.string (⟨#[]⟩ : ByteArray)) := (blk_cell BK441.out 4).trans rfl; have hcz31_5 : w28.cell? ⟨gb441, 5, none⟩ = some (.bool false) := (blk_cell BK441.out 5).trans rfl; have hcz31_6 : w28.cell? ⟨gb441, 6, none⟩ = some (.slice none 0 0) := (blk_cell BK441.out 6).trans rfl; have hcz31_7 : w28.cell? ⟨gb441, 7, none⟩ = some (.bool false) := (blk_cell BK441.out 7).trans rfl; have hfz31_0 := blk_frozen BK441.out 0; have hfz31_1 := blk_frozen BK441.out 1; have hfz31_2 := blk_frozen BK441.out 2; have hfz31_3 := blk_frozen BK441.out 3; have hfz31_4 := blk_frozen BK441.out 4; have hfz31_5 := blk_frozen BK441.out 5; have hfz31_6 := blk_frozen BK441.out 6; have hfz31_7 := blk_frozen BK441.out 7; obtain ⟨Ao32, co32, eo32⟩ := Kd.R_slice HO438.out; subst eo32) | ((with_reducible refine gate_callee (f := 18) rfl ?_); refine goesL_ (some 35) rfl rfl Tryd.func18 (by kernel_rfl) rfl #[.string a1] rfl (by (try simp only [List.map_toArray, List.map_cons, List.map_nil]); first | done | rfl | (simp only [List.length_drop, List.length_take]; rfl)) ?_; (with_reducible refine (stanchionref16_TakeReply.calls k a1 t442 t443 t444 t445 t446 t447 t448 t451 t452 _ A8.out).mono ?_); rintro e w33 ⟨v449, rfl, ho0, hb⟩; refine ⟨_, rfl, ?_⟩; have n0_ := Aside0.mk (Kd.R_elder' (by (with_reducible repeat (first | apply Kd.R_alloc | apply Kd.R_drewN | apply Kd.R_drew)); exact (Kd.R_mono (Kd.R_far (p := ⟨gb441, 7, none⟩) (Kd.R_far (p := ⟨gb441, 6, none⟩) (Kd.R_far (p := ⟨gb441, 5, none⟩) (Kd.R_far (p := ⟨gb441, 4, none⟩) (Kd.R_far (p := ⟨gb441, 3, none⟩) (Kd.R_far (p := ⟨gb441, 2, none⟩) (Kd.R_far (p := ⟨gb441, 1, none⟩) (Kd.R_far (p := ⟨gb441, 0, none⟩) (Kd.R_types HO438.out BK441.out (by decide)) (fun _ hk => hk.2) (.int .i64 t430)) (fun _ hk => hk.2) (.int .i64 t431)) (fun _ hk => hk.2) (.int .i64 t432)) (fun _ hk => hk.2) (.int .i64 t433)) (fun _ hk => hk.2) (.string t434)) (fun _ hk => hk.2) (.bool t435)) (fun _ hk => hk.2) (.slice Ao32 t436.length co32)) (fun _ hk => hk.2) (.bool t439)) (fun _ h_ => h_.1))) (Kd.R_base ho0) hb); have n1_ := Aside0.mk (Kd.R_lower (Kd.R_new' ho0 (Kd.R_lt (by (with_reducible repeat (first | apply Kd.R_alloc | apply Kd.R_drewN | apply Kd.R_drew)); exact (Kd.R_mono (Kd.R_far (p := ⟨gb441, 7, none⟩) (Kd.R_far (p := ⟨gb441, 6, none⟩) (Kd.R_far (p := ⟨gb441, 5, none⟩) (Kd.R_far (p := ⟨gb441, 4, none⟩) (Kd.R_far (p := ⟨gb441, 3, none⟩) (Kd.R_far (p := ⟨gb441, 2, none⟩) (Kd.R_far (p := ⟨gb441, 1, none⟩) (Kd.R_far (p := ⟨gb441, 0, none⟩) (Kd.R_types HO438.out BK441.out (by decide)) (fun _ hk => hk.2) (.int .i64 t430)) (fun _ hk => hk.2) (.int .i64 t431)) (fun _ hk => hk.2) (.int .i64 t432)) (fun _ hk => hk.2) (.int .i64 t433)) (fun _ hk => hk.2) (.string t434)) (fun _ hk => hk.2) (.bool t435)) (fun _ hk => hk.2) (.slice Ao32 t436.length co32)) (fun _ hk => hk.2) (.bool t439)) (fun _ h_ => h_.1))))) (below_size (by repeat (first | (with_reducible first | exact HB.out | apply below_alloc | apply pw_below_drewN | apply below_drew1 | refine below_set ?_ GE423.out | refine below_set ?_ GE424.out | refine below_set ?_ GE441.out) | exact HB.out)))); have n2_ := Aside0.mk (blk_below (g := gb423) (o := .cells #[.int .i64 a0_0, .int .i64 a0_1, .int .i64 a0_2, .int .i64 a0_3, .string a0_4, .bool a0_5, .slice A0_6 l0_6.length c0_6, .bool a0_7] 41 (0, 0)) (by (with_reducible repeat (first | refine blk_drewN ?_ _ | refine blk_drew ?_ | refine blk_alloc ?_ _)); refine blk_far ?_ NB423_441.out _; (with_reducible repeat (first | refine blk_drewN ?_ _ | refine blk_drew ?_ | refine blk_alloc ?_ _)); refine blk_far ?_ NB423_441.out _; (with_reducible repeat (first | refine blk_drewN ?_ _ | refine blk_drew ?_ | refine blk_alloc ?_ _)); refine blk_far ?_ NB423_441.out _; (with_reducible repeat (first | refine blk_drewN ?_ _ | refine blk_drew ?_ | refine blk_alloc ?_ _)); refine blk_far ?_ NB423_441.out _; (with_reducible repeat (first | refine blk_drewN ?_ _ | refine blk_drew ?_ | refine blk_alloc ?_ _)); refine blk_far ?_ NB423_441.out _; (with_reducible repeat (first | refine blk_drewN ?_ _ | refine blk_drew ?_ | refine blk_alloc ?_ _)); refine blk_far ?_ NB423_441.out _; (with_reducible repeat (first | refine blk_drewN ?_ _ | refine blk_drew ?_ | refine blk_alloc ?_ _)); refine blk_far ?_ NB423_441.out _; (with_reducible repeat (first | refine blk_drewN ?_ _ | refine blk_drew ?_ | refine blk_alloc ?_ _)); refine blk_far ?_ NB423_441.out _; (with_reducible repeat (first | refine blk_drewN ?_ _ | refine blk_drew ?_ | refine blk_alloc ?_ _)); exact BK423.out) hb); have n3_ := Aside0.mk (blk_below (g := gb424) (o := .cells #[.int .i64 a2_0, .int .i64 a2_1, .int .i64 a2_2, .int .i64 a2_3, .string a2_4, .bool a2_5, .slice A2_6 l2_6.length c2_6, .bool a2_7] 41 (0, 0)) (by (with_reducible repeat (first | refine blk_drewN ?_ _ | refine blk_drew ?_ | refine blk_alloc ?_ _)); refine blk_far ?_ NB424_441.out _; (with_reducible repeat (first | refine blk_drewN ?_ _ | refine blk_drew ?_ | refine blk_alloc ?_ _)); refine blk_far ?_ NB424_441.out _; (with_reducible repeat (first | refine blk_drewN ?_ _ | refine blk_drew ?_ | refine blk_alloc ?_ _)); refine blk_far ?_ NB424_441.out _; (with_reducible repeat (first | refine blk_drewN ?_ _ | refine blk_drew ?_ | refine blk_alloc ?_ _)); refine blk_far ?_ NB424_441.out _; (with_reducible repeat (first | refine blk_drewN ?_ _ | refine blk_drew ?_ | refine blk_alloc ?_ _)); refine blk_far ?_ NB424_441.out _; (with_reducible repeat (first | refine blk_drewN ?_ _ | refine blk_drew ?_ | refine blk_alloc ?_ _)); refine blk_far ?_ NB424_441.out _; (with_reducible repeat (first | refine blk_drewN ?_ _ | refine blk_drew ?_ | refine blk_alloc ?_ _)); refine blk_far ?_ NB424_441.out _; (with_reducible repeat (first | refine blk_drewN ?_ _ | refine blk_drew ?_ | refine blk_alloc ?_ _)); refine blk_far ?_ NB424_441.out _; (with_reducible repeat (first | refine blk_drewN ?_ _ | refine blk_drew ?_ | refine blk_alloc ?_ _)); exact BK424.out) hb); have n4_ := Aside0.mk (blk_below (g := gb441) (o := .cells #[.int .i64 t430, .int .i64 t431, .int .i64 t432, .int .i64 t433, .string t434, .bool t435, .slice Ao32 t436.length co32, .bool t439] 41 (0, 0)) (by (with_reducible repeat (first | refine blk_drewN ?_ _ | refine blk_drew ?_ | refine blk_alloc ?_ _)); refine blk_put (cs := #[.int .i64 t430, .int .i64 t431, .int .i64 t432, .int .i64 t433, .string t434, .bool t435, .slice Ao32 t436.length co32, .bool false]) ?_ 7 _ rfl; (with_reducible repeat (first | refine blk_drewN ?_ _ | refine blk_drew ?_ | refine blk_alloc ?_ _)); refine blk_put (cs := #[.int .i64 t430, .int .i64 t431, .int .i64 t432, .int .i64 t433, .string t434, .bool t435, .slice none 0 0, .bool false]) ?_ 6 _ rfl; (with_reducible repeat (first | refine blk_drewN ?_ _ | refine blk_drew ?_ | refine blk_alloc ?_ _)); refine blk_put (cs := #[.int .i64 t430, .int .i64 t431, .int .i64 t432, .int .i64 t433, .string t434, .bool false, .slice none 0 0, .bool false]) ?_ 5 _ rfl; (with_reducible repeat (first | refine blk_drewN ?_ _ | refine blk_drew ?_ | refine blk_alloc ?_ _)); refine blk_put (cs := #[.int .i64 t430, .int .i64 t431, .int .i64 t432, .int .i64 t433, .string (⟨#[]⟩ : ByteArray), .bool false, .slice none 0 0, .bool false]) ?_ 4 _ rfl; (with_reducible repeat (first | refine blk_drewN ?_ _ | refine blk_drew ?_ | refine blk_alloc ?_ _)); refine blk_put (cs := #[.int .i64 t430, .int .i64 t431, .int .i64 t432, .int .i64 0, .string (⟨#[]⟩ : ByteArray), .bool false, .slice none 0 0, .bool false]) ?_ 3 _ rfl; (with_reducible repeat (first | refine blk_drewN ?_ _ | refine blk_drew ?_ | refine blk_alloc ?_ _)); refine blk_put (cs := #[.int .i64 t430, .int .i64 t431, .int .i64 0, .int .i64 0, .string (⟨#[]⟩ : ByteArray), .bool false, .slice none 0 0, .bool false]) ?_ 2 _ rfl; (with_reducible repeat (first | refine blk_drewN ?_ _ | refine blk_drew ?_ | refine blk_alloc ?_ _)); refine blk_put (cs := #[.int .i64 t430, .int .i64 0, .int .i64 0, .int .i64 0, .string (⟨#[]⟩ : ByteArray), .bool false, .slice none 0 0, .bool false]) ?_ 1 _ rfl; (with_reducible repeat (first | refine blk_drewN ?_ _ | refine blk_drew ?_ | refine blk_alloc ?_ _)); refine blk_put (cs := #[.int .i64 0, .int .i64 0, .int .i64 0, .int .i64 0, .string (⟨#[]⟩ : ByteArray), .bool false, .slice none 0 0, .bool false]) ?_ 0 _ rfl; (with_reducible repeat (first | refine blk_drewN ?_ _ | refine blk_drew ?_ | refine blk_alloc ?_ _)); exact BK441.out) hb); have n5_ := Aside0.mk (below_step (by repeat (first | (with_reducible first | exact HB.out | apply below_alloc | apply pw_below_drewN | apply below_drew1 | refine below_set ?_ GE423.out | refine below_set ?_ GE424.out | refine below_set ?_ GE441.out) | exact HB.out)) hb); clear HO438; clear BK423; clear BK424; clear BK441; clear HB; have HO438 := n0_; have HO450 := n1_; have BK423 := n2_; have BK424 := n3_; have BK441 := n4_; have HB := n5_; clear n0_ n1_ n2_ n3_ n4_ n5_; (try clear hb); (try clear hb2); (try clear hk); (try clear hi); (try clear ho0)) | ((with_reducible refine gate_dst (N := 14) rfl ?_); refine box_event ?hg (N := 14) ?hd (cs := #[.int .i64 0, .int .i64 0, .int .i64 0, .int .i64 0, .string (⟨#[]⟩ : ByteArray), .bool false, .slice none 0 0, .bool false]) (t := 41) ?hr ?_; (case hd => rfl); (case hg => rfl); (case hr => first | (go_simp; done) | (go_simp; rfl)); intro gb453 hg w34 hbox hb; have n0_ := Aside0.mk (Kd.R_below (by (with_reducible repeat (first | apply Kd.R_alloc | apply Kd.R_drewN | apply Kd.R_drew)); exact HO438.out) hb); have n1_ := Aside0.mk (Kd.R_below (by (with_reducible repeat (first | apply Kd.R_alloc | apply Kd.R_drewN | apply Kd.R_drew)); exact HO450.out) hb); have n2_ := Aside0.mk (blk_below (g := gb423) (o := .cells #[.int .i64 a0_0, .int .i64 a0_1, .int .i64 a0_2, .int .i64 a0_3, .string a0_4, .bool a0_5, .slice A0_6 l0_6.length c0_6, .bool a0_7] 41 (0, 0)) (by (with_reducible repeat (first | refine blk_drewN ?_ _ | refine blk_drew ?_ | refine blk_alloc ?_ _)); exact BK423.out) hb); have n3_ := Aside0.mk (blk_below (g := gb424) (o := .cells #[.int .i64 a2_0, .int .i64 a2_1, .int .i64 a2_2, .int .i64 a2_3, .string a2_4, .bool a2_5, .slice A2_6 l2_6.length c2_6, .bool a2_7] 41 (0, 0)) (by (with_reducible repeat (first | refine blk_drewN ?_ _ | refine blk_drew ?_ | refine blk_alloc ?_ _)); exact BK424.out) hb); have n4_ := Aside0.mk (blk_below (g := gb441) (o := .cells #[.int .i64 t430, .int .i64 t431, .int .i64 t432, .int .i64 t433, .string t434, .bool t435, .slice Ao32 t436.length co32, .bool t439] 41 (0, 0)) (by (with_reducible repeat (first | refine blk_drewN ?_ _ | refine blk_drew ?_ | refine blk_alloc ?_ _)); exact BK441.out) hb); have n5_ := Aside0.mk (below_step (by repeat (first | (with_reducible first | exact HB.out | apply below_alloc | apply pw_below_drewN | apply below_drew1 | refine below_set ?_ GE423.out | refine below_set ?_ GE424.out | refine below_set ?_ GE441.out) | exact HB.out)) hb); have n6_ := Aside0.mk (hbox); have n7_ := Aside0.mk ((by rw [hg]; exact (below_size (by repeat (first | (with_reducible first | exact HB.out | apply below_alloc | apply pw_below_drewN | apply below_drew1 | refine below_set ?_ GE423.out | refine below_set ?_ GE424.out | refine below_set ?_ GE441.out) | exact HB.out))) : w.heap.size ≤ gb453)); have n8_ := Aside0.mk ((by rw [hg]; exact (below_size (by repeat (first | (with_reducible first | exact HB.out | apply below_alloc | apply pw_below_drewN | apply below_drew1 | refine below_set ?_ GE423.out | refine below_set ?_ GE424.out | refine below_set ?_ GE441.out) | exact HB.out))) : w.heap.size ≤ gb453)); have n9_ := Aside0.mk ((by rw [hg]; exact Nat.ne_of_lt (blk_lt (g := gb423) (o := .cells #[.int .i64 a0_0, .int .i64 a0_1, .int .i64 a0_2, .int .i64 a0_3, .string a0_4, .bool a0_5, .slice A0_6 l0_6.length c0_6, .bool a0_7] 41 (0, 0)) (by (with_reducible repeat (first | refine blk_drewN ?_ _ | refine blk_drew ?_ | refine blk_alloc ?_ _)); exact BK423.out)) : gb423 ≠ gb453)); have n10_ := Aside0.mk ((by rw [hg]; exact Nat.ne_of_gt (blk_lt (g := gb423) (o := .cells #[.int .i64 a0_0, .int .i64 a0_1, .int .i64 a0_2, .int .i64 a0_3, .string a0_4, .bool a0_5, .slice A0_6 l0_6.length c0_6, .bool a0_7] 41 (0, 0)) (by (with_reducible repeat (first | refine blk_drewN ?_ _ | refine blk_drew ?_ | refine blk_alloc ?_ _)); exact BK423.out)) : gb453 ≠ gb423)); have n11_ := Aside0.mk ((by rw [hg]; exact Nat.ne_of_lt (blk_lt (g := gb424) (o := .cells #[.int .i64 a2_0, .int .i64 a2_1, .int .i64 a2_2, .int .i64 a2_3, .string a2_4, .bool a2_5, .slice A2_6 l2_6.length c2_6, .bool a2_7] 41 (0, 0)) (by (with_reducible repeat (first | refine blk_drewN ?_ _ | refine blk_drew ?_ | refine blk_alloc ?_ _)); exact BK424.out)) : gb424 ≠ gb453)); have n12_ := Aside0.mk ((by rw [hg]; exact Nat.ne_of_gt (blk_lt (g := gb424) (o := .cells #[.int .i64 a2_0, .int .i64 a2_1, .int .i64 a2_2, .int .i64 a2_3, .string a2_4, .bool a2_5, .slice A2_6 l2_6.length c2_6, .bool a2_7] 41 (0, 0)) (by (with_reducible repeat (first | refine blk_drewN ?_ _ | refine blk_drew ?_ | refine blk_alloc ?_ _)); exact BK424.out)) : gb453 ≠ gb424)); have n13_ := Aside0.mk ((by rw [hg]; exact Nat.ne_of_lt (blk_lt (g := gb441) (o := .cells #[.int .i64 t430, .int .i64 t431, .int .i64 t432, .int .i64 t433, .string t434, .bool t435, .slice Ao32 t436.length co32, .bool t439] 41 (0, 0)) (by (with_reducible repeat (first | refine blk_drewN ?_ _ | refine blk_drew ?_ | refine blk_alloc ?_ _)); exact BK441.out)) : gb441 ≠ gb453)); have n14_ := Aside0.mk ((by rw [hg]; exact Nat.ne_of_gt (blk_lt (g := gb441) (o := .cells #[.int .i64 t430, .int .i64 t431, .int .i64 t432, .int .i64 t433, .string t434, .bool t435, .slice Ao32 t436.length co32, .bool t439] 41 (0, 0)) (by (with_reducible repeat (first | refine blk_drewN ?_ _ | refine blk_drew ?_ | refine blk_alloc ?_ _)); exact BK441.out)) : gb453 ≠ gb441)); clear HO438; clear HO450; clear BK423; clear BK424; clear BK441; clear HB; have HO438 := n0_; have HO450 := n1_; have BK423 := n2_; have BK424 := n3_; have BK441 := n4_; have HB := n5_; have BK453 := n6_; have GW453 := n7_; have GE453 := n8_; have NB423_453 := n9_; have NB453_423 := n10_; have NB424_453 := n11_; have NB453_424 := n12_; have NB441_453 := n13_; have NB453_441 := n14_; clear n0_ n1_ n2_ n3_ n4_ n5_ n6_ n7_ n8_ n9_ n10_ n11_ n12_ n13_ n14_; clear hb hbox hg; have hnb35 := NB453_423.out; have hnc35 := NB423_453.out; have hnb36 := NB453_424.out; have hnc36 := NB424_453.out; have hnb37 := NB453_441.out; have hnc37 := NB441_453.out; have hcz38_0 : w34.cell? ⟨gb453, 0, none⟩ = some (.int .i64 0) := (blk_cell BK453.out 0).trans rfl; have hcz38_1 : w34.cell? ⟨gb453, 1, none⟩ = some (.int .i64 0) := (blk_cell BK453.out 1).trans rfl; have hcz38_2 : w34.cell? ⟨gb453, 2, none⟩ = some (.int .i64 0) := (blk_cell BK453.out 2).trans rfl; have hcz38_3 : w34.cell? ⟨gb453, 3, none⟩ = some (.int .i64 0) := (blk_cell BK453.out 3).trans rfl; have hcz38_4 : w34.cell? ⟨gb453, 4, none⟩ = some (.string (⟨#[]⟩ : ByteArray)) := (blk_cell BK453.out 4).trans rfl; have hcz38_5 : w34.cell? ⟨gb453, 5, none⟩ = some (.bool false) := (blk_cell BK453.out 5).trans rfl; have hcz38_6 : w34.cell? ⟨gb453, 6, none⟩ = some (.slice none 0 0) := (blk_cell BK453.out 6).trans rfl; have hcz38_7 : w34.cell? ⟨gb453, 7, none⟩ = some (.bool false) := (blk_cell BK453.out 7).trans rfl; have hfz38_0 := blk_frozen BK453.out 0; have hfz38_1 := blk_frozen BK453.out 1; have hfz38_2 := blk_frozen BK453.out 2; have hfz38_3 := blk_frozen BK453.out 3; have hfz38_4 := blk_frozen BK453.out 4; have hfz38_5 := blk_frozen BK453.out 5; have hfz38_6 := blk_frozen BK453.out 6; have hfz38_7 := blk_frozen BK453.out 7; obtain ⟨Ao39, co39, eo39⟩ := Kd.R_slice HO450.out; subst eo39; have hcz40_0 : w34.cell? ⟨gb441, 0, none⟩ = some (.int .i64 t430) := (blk_cell BK441.out 0).trans rfl; have hcz40_1 : w34.cell? ⟨gb441, 1, none⟩ = some (.int .i64 t431) := (blk_cell BK441.out 1).trans rfl; have hcz40_2 : w34.cell? ⟨gb441, 2, none⟩ = some (.int .i64 t432) := (blk_cell BK441.out 2).trans rfl; have hcz40_3 : w34.cell? ⟨gb441, 3, none⟩ = some (.int .i64 t433) := (blk_cell BK441.out 3).trans rfl; have hcz40_4 : w34.cell? ⟨gb441, 4, none⟩ = some (.string t434) := (blk_cell BK441.out 4).trans rfl; have hcz40_5 : w34.cell? ⟨gb441, 5, none⟩ = some (.bool t435) := (blk_cell BK441.out 5).trans rfl; have hcz40_6 : w34.cell? ⟨gb441, 6, none⟩ = some (.slice Ao32 t436.length co32) := (blk_cell BK441.out 6).trans rfl; have hcz40_7 : w34.cell? ⟨gb441, 7, none⟩ = some (.bool t439) := (blk_cell BK441.out 7).trans rfl; have hfz40_0 := blk_frozen BK441.out 0; have hfz40_1 := blk_frozen BK441.out 1; have hfz40_2 := blk_frozen BK441.out 2; have hfz40_3 := blk_frozen BK441.out 3; have hfz40_4 := blk_frozen BK441.out 4; have hfz40_5 := blk_frozen BK441.out 5; have hfz40_6 := blk_frozen BK441.out 6; have hfz40_7 := blk_frozen BK441.out 7) | ((with_reducible refine gate_callee (f := 19) rfl ?_); refine goesL_ (some 40) rfl rfl Tryd.func19 (by kernel_rfl) rfl #[.agg #[.int .i64 t430, .int .i64 t431, .int .i64 t432, .int .i64 t433, .string t434, .bool t435, .slice Ao32 t436.length co32, .bool t439], .agg #[.int .i64 t442, .int .i64 t443, .int .i64 t444, .int .i64 t445, .string t446, .bool t447, .slice Ao39 t448.length co39, .bool t451]] rfl (by (try simp only [List.map_toArray, List.map_cons, List.map_nil]); first | done | rfl | (simp only [List.length_drop, List.length_take]; rfl)) ?_; (with_reducible refine (stanchionref16_Same.calls k t430 t431 t432 t433 t434 t435 _ _ t436 t439 t442 t443 t444 t445 t446 t447 _ _ t448 t451 true _ ?side1 ?side2 ?side3 ?side4 A9.out).mono ?_); (case side1 => refine (Kd.R_reads' (e := 74) (base := w.heap.size) (ok := fun k_ => (True ∧ some k_ ≠ (.slice Ao39 t448.length co39 : Value).ownBlock)) (n := t436.length) (c := co32) ?_).2.2; exact (by (with_reducible repeat (first | apply Kd.R_alloc | apply Kd.R_drewN | apply Kd.R_drew)); exact (Kd.R_mono (Kd.R_far (p := ⟨gb453, 7, none⟩) (Kd.R_far (p := ⟨gb453, 6, none⟩) (Kd.R_far (p := ⟨gb453, 5, none⟩) (Kd.R_far (p := ⟨gb453, 4, none⟩) (Kd.R_far (p := ⟨gb453, 3, none⟩) (Kd.R_far (p := ⟨gb453, 2, none⟩) (Kd.R_far (p := ⟨gb453, 1, none⟩) (Kd.R_far (p := ⟨gb453, 0, none⟩) (Kd.R_types HO438.out BK453.out (by decide)) (fun _ hk => hk.2) (.int .i64 t442)) (fun _ hk => hk.2) (.int .i64 t443)) (fun _ hk => hk.2) (.int .i64 t444)) (fun _ hk => hk.2) (.int .i64 t445)) (fun _ hk => hk.2) (.string t446)) (fun _ hk => hk.2) (.bool t447)) (fun _ hk => hk.2) (.slice Ao39 t448.length co39)) (fun _ hk => hk.2) (.bool t451)) (fun _ h_ => h_.1)))); (case side2 => exact (Kd.R_reads' HO438.out).2.1); (case side3 => refine (Kd.R_reads' (e := 74) (base := w.heap.size) (ok := fun k_ => (True ∧ some k_ ≠ (.slice Ao32 t436.length co32 : Value).ownBlock)) (n := t448.length) (c := co39) ?_).2.2; exact (by (with_reducible repeat (first | apply Kd.R_alloc | apply Kd.R_drewN | apply Kd.R_drew)); exact (Kd.R_mono (Kd.R_far (p := ⟨gb453, 7, none⟩) (Kd.R_far (p := ⟨gb453, 6, none⟩) (Kd.R_far (p := ⟨gb453, 5, none⟩) (Kd.R_far (p := ⟨gb453, 4, none⟩) (Kd.R_far (p := ⟨gb453, 3, none⟩) (Kd.R_far (p := ⟨gb453, 2, none⟩) (Kd.R_far (p := ⟨gb453, 1, none⟩) (Kd.R_far (p := ⟨gb453, 0, none⟩) (Kd.R_types HO450.out BK453.out (by decide)) (fun _ hk => hk.2) (.int .i64 t442)) (fun _ hk => hk.2) (.int .i64 t443)) (fun _ hk => hk.2) (.int .i64 t444)) (fun _ hk => hk.2) (.int .i64 t445)) (fun _ hk => hk.2) (.string t446)) (fun _ hk => hk.2) (.bool t447)) (fun _ hk => hk.2) (.slice Ao39 t448.length co39)) (fun _ hk => hk.2) (.bool t451)) (fun _ h_ => h_.1)))); (case side4 => exact (Kd.R_reads' HO450.out).2.1); rintro e w41 ⟨rfl, hb⟩; refine ⟨_, rfl, ?_⟩; have n0_ := Aside0.mk (Kd.R_below (by (with_reducible repeat (first | apply Kd.R_alloc | apply Kd.R_drewN | apply Kd.R_drew)); exact (Kd.R_mono (Kd.R_far (p := ⟨gb453, 7, none⟩) (Kd.R_far (p := ⟨gb453, 6, none⟩) (Kd.R_far (p := ⟨gb453, 5, none⟩) (Kd.R_far (p := ⟨gb453, 4, none⟩) (Kd.R_far (p := ⟨gb453, 3, none⟩) (Kd.R_far (p := ⟨gb453, 2, none⟩) (Kd.R_far (p := ⟨gb453, 1, none⟩) (Kd.R_far (p := ⟨gb453, 0, none⟩) (Kd.R_types HO438.out BK453.out (by decide)) (fun _ hk => hk.2) (.int .i64 t442)) (fun _ hk => hk.2) (.int .i64 t443)) (fun _ hk => hk.2) (.int .i64 t444)) (fun _ hk => hk.2) (.int .i64 t445)) (fun _ hk => hk.2) (.string t446)) (fun _ hk => hk.2) (.bool t447)) (fun _ hk => hk.2) (.slice Ao39 t448.length co39)) (fun _ hk => hk.2) (.bool t451)) (fun _ h_ => h_.1))) hb); have n1_ := Aside0.mk (Kd.R_below (by (with_reducible repeat (first | apply Kd.R_alloc | apply Kd.R_drewN | apply Kd.R_drew)); exact (Kd.R_mono (Kd.R_far (p := ⟨gb453, 7, none⟩) (Kd.R_far (p := ⟨gb453, 6, none⟩) (Kd.R_far (p := ⟨gb453, 5, none⟩) (Kd.R_far (p := ⟨gb453, 4, none⟩) (Kd.R_far (p := ⟨gb453, 3, none⟩) (Kd.R_far (p := ⟨gb453, 2, none⟩) (Kd.R_far (p := ⟨gb453, 1, none⟩) (Kd.R_far (p := ⟨gb453, 0, none⟩) (Kd.R_types HO450.out BK453.out (by decide)) (fun _ hk => hk.2) (.int .i64 t442)) (fun _ hk => hk.2) (.int .i64 t443)) (fun _ hk => hk.2) (.int .i64 t444)) (fun _ hk => hk.2) (.int .i64 t445)) (fun _ hk => hk.2) (.string t446)) (fun _ hk => hk.2) (.bool t447)) (fun _ hk => hk.2) (.slice Ao39 t448.length co39)) (fun _ hk => hk.2) (.bool t451)) (fun _ h_ => h_.1))) hb); have n2_ := Aside0.mk (blk_below (g := gb423) (o := .cells #[.int .i64 a0_0, .int .i64 a0_1, .int .i64 a0_2, .int .i64 a0_3, .string a0_4, .bool a0_5, .slice A0_6 l0_6.length c0_6, .bool a0_7] 41 (0, 0)) (by (with_reducible repeat (first | refine blk_drewN ?_ _ | refine blk_drew ?_ | refine blk_alloc ?_ _)); refine blk_far ?_ NB423_453.out _; (with_reducible repeat (first | refine blk_drewN ?_ _ | refine blk_drew ?_ | refine blk_alloc ?_ _)); refine blk_far ?_ NB423_453.out _; (with_reducible repeat (first | refine blk_drewN ?_ _ | refine blk_drew ?_ | refine blk_alloc ?_ _)); refine blk_far ?_ NB423_453.out _; (with_reducible repeat (first | refine blk_drewN ?_ _ | refine blk_drew ?_ | refine blk_alloc ?_ _)); refine blk_far ?_ NB423_453.out _; (with_reducible repeat (first | refine blk_drewN ?_ _ | refine blk_drew ?_ | refine blk_alloc ?_ _)); refine blk_far ?_ NB423_453.out _; (with_reducible repeat (first | refine blk_drewN ?_ _ | refine blk_drew ?_ | refine blk_alloc ?_ _)); refine blk_far ?_ NB423_453.out _; (with_reducible repeat (first | refine blk_drewN ?_ _ | refine blk_drew ?_ | refine blk_alloc ?_ _)); refine blk_far ?_ NB423_453.out _; (with_reducible repeat (first | refine blk_drewN ?_ _ | refine blk_drew ?_ | refine blk_alloc ?_ _)); refine blk_far ?_ NB423_453.out _; (with_reducible repeat (first | refine blk_drewN ?_ _ | refine blk_drew ?_ | refine blk_alloc ?_ _)); exact BK423.out) hb); have n3_ := Aside0.mk (blk_below (g := gb424) (o := .cells #[.int .i64 a2_0, .int .i64 a2_1, .int .i64 a2_2, .int .i64 a2_3, .string a2_4, .bool a2_5, .slice A2_6 l2_6.length c2_6, .bool a2_7] 41 (0, 0)) (by (with_reducible repeat (first | refine blk_drewN ?_ _ | refine blk_drew ?_ | refine blk_alloc ?_ _)); refine blk_far ?_ NB424_453.out _; (with_reducible repeat (first | refine blk_drewN ?_ _ | refine blk_drew ?_ | refine blk_alloc ?_ _)); refine blk_far ?_ NB424_453.out _; (with_reducible repeat (first | refine blk_drewN ?_ _ | refine blk_drew ?_ | refine blk_alloc ?_ _)); refine blk_far ?_ NB424_453.out _; (with_reducible repeat (first | refine blk_drewN ?_ _ | refine blk_drew ?_ | refine blk_alloc ?_ _)); refine blk_far ?_ NB424_453.out _; (with_reducible repeat (first | refine blk_drewN ?_ _ | refine blk_drew ?_ | refine blk_alloc ?_ _)); refine blk_far ?_ NB424_453.out _; (with_reducible repeat (first | refine blk_drewN ?_ _ | refine blk_drew ?_ | refine blk_alloc ?_ _)); refine blk_far ?_ NB424_453.out _; (with_reducible repeat (first | refine blk_drewN ?_ _ | refine blk_drew ?_ | refine blk_alloc ?_ _)); refine blk_far ?_ NB424_453.out _; (with_reducible repeat (first | refine blk_drewN ?_ _ | refine blk_drew ?_ | refine blk_alloc ?_ _)); refine blk_far ?_ NB424_453.out _; (with_reducible repeat (first | refine blk_drewN ?_ _ | refine blk_drew ?_ | refine blk_alloc ?_ _)); exact BK424.out) hb); have n4_ := Aside0.mk (blk_below (g := gb441) (o := .cells #[.int .i64 t430, .int .i64 t431, .int .i64 t432, .int .i64 t433, .string t434, .bool t435, .slice Ao32 t436.length co32, .bool t439] 41 (0, 0)) (by (with_reducible repeat (first | refine blk_drewN ?_ _ | refine blk_drew ?_ | refine blk_alloc ?_ _)); refine blk_far ?_ NB441_453.out _; (with_reducible repeat (first | refine blk_drewN ?_ _ | refine blk_drew ?_ | refine blk_alloc ?_ _)); refine blk_far ?_ NB441_453.out _; (with_reducible repeat (first | refine blk_drewN ?_ _ | refine blk_drew ?_ | refine blk_alloc ?_ _)); refine blk_far ?_ NB441_453.out _; (with_reducible repeat (first | refine blk_drewN ?_ _ | refine blk_drew ?_ | refine blk_alloc ?_ _)); refine blk_far ?_ NB441_453.out _; (with_reducible repeat (first | refine blk_drewN ?_ _ | refine blk_drew ?_ | refine blk_alloc ?_ _)); refine blk_far ?_ NB441_453.out _; (with_reducible repeat (first | refine blk_drewN ?_ _ | refine blk_drew ?_ | refine blk_alloc ?_ _)); refine blk_far ?_ NB441_453.out _; (with_reducible repeat (first | refine blk_drewN ?_ _ | refine blk_drew ?_ | refine blk_alloc ?_ _)); refine blk_far ?_ NB441_453.out _; (with_reducible repeat (first | refine blk_drewN ?_ _ | refine blk_drew ?_ | refine blk_alloc ?_ _)); refine blk_far ?_ NB441_453.out _; (with_reducible repeat (first | refine blk_drewN ?_ _ | refine blk_drew ?_ | refine blk_alloc ?_ _)); exact BK441.out) hb); have n5_ := Aside0.mk (blk_below (g := gb453) (o := .cells #[.int .i64 t442, .int .i64 t443, .int .i64 t444, .int .i64 t445, .string t446, .bool t447, .slice Ao39 t448.length co39, .bool t451] 41 (0, 0)) (by (with_reducible repeat (first | refine blk_drewN ?_ _ | refine blk_drew ?_ | refine blk_alloc ?_ _)); refine blk_put (cs := #[.int .i64 t442, .int .i64 t443, .int .i64 t444, .int .i64 t445, .string t446, .bool t447, .slice Ao39 t448.length co39, .bool false]) ?_ 7 _ rfl; (with_reducible repeat (first | refine blk_drewN ?_ _ | refine blk_drew ?_ | refine blk_alloc ?_ _)); refine blk_put (cs := #[.int .i64 t442, .int .i64 t443, .int .i64 t444, .int .i64 t445, .string t446, .bool t447, .slice none 0 0, .bool false]) ?_ 6 _ rfl; (with_reducible repeat (first | refine blk_drewN ?_ _ | refine blk_drew ?_ | refine blk_alloc ?_ _)); refine blk_put (cs := #[.int .i64 t442, .int .i64 t443, .int .i64 t444, .int .i64 t445, .string t446, .bool false, .slice none 0 0, .bool false]) ?_ 5 _ rfl; (with_reducible repeat (first | refine blk_drewN ?_ _ | refine blk_drew ?_ | refine blk_alloc ?_ _)); refine blk_put (cs := #[.int .i64 t442, .int .i64 t443, .int .i64 t444, .int .i64 t445, .string (⟨#[]⟩ : ByteArray), .bool false, .slice none 0 0, .bool false]) ?_ 4 _ rfl; (with_reducible repeat (first | refine blk_drewN ?_ _ | refine blk_drew ?_ | refine blk_alloc ?_ _)); refine blk_put (cs := #[.int .i64 t442, .int .i64 t443, .int .i64 t444, .int .i64 0, .string (⟨#[]⟩ : ByteArray), .bool false, .slice none 0 0, .bool false]) ?_ 3 _ rfl; (with_reducible repeat (first | refine blk_drewN ?_ _ | refine blk_drew ?_ | refine blk_alloc ?_ _)); refine blk_put (cs := #[.int .i64 t442, .int .i64 t443, .int .i64 0, .int .i64 0, .string (⟨#[]⟩ : ByteArray), .bool false, .slice none 0 0, .bool false]) ?_ 2 _ rfl; (with_reducible repeat (first | refine blk_drewN ?_ _ | refine blk_drew ?_ | refine blk_alloc ?_ _)); refine blk_put (cs := #[.int .i64 t442, .int .i64 0, .int .i64 0, .int .i64 0, .string (⟨#[]⟩ : ByteArray), .bool false, .slice none 0 0, .bool false]) ?_ 1 _ rfl; (with_reducible repeat (first | refine blk_drewN ?_ _ | refine blk_drew ?_ | refine blk_alloc ?_ _)); refine blk_put (cs := #[.int .i64 0, .int .i64 0, .int .i64 0, .int .i64 0, .string (⟨#[]⟩ : ByteArray), .bool false, .slice none 0 0, .bool false]) ?_ 0 _ rfl; (with_reducible repeat (first | refine blk_drewN ?_ _ | refine blk_drew ?_ | refine blk_alloc ?_ _)); exact BK453.out) hb); have n6_ := Aside0.mk (below_step (by repeat (first | (with_reducible first | exact HB.out | apply below_alloc | apply pw_below_drewN | apply below_drew1 | refine below_set ?_ GE423.out | refine below_set ?_ GE424.out | refine below_set ?_ GE441.out | refine below_set ?_ GE453.out) | exact HB.out)) hb); clear HO438; clear HO450; clear BK423; clear BK424; clear BK441; clear BK453; clear HB; have HO438 := n0_; have HO450 := n1_; have BK423 := n2_; have BK424 := n3_; have BK441 := n4_; have BK453 := n5_; have HB := n6_; clear n0_ n1_ n2_ n3_ n4_ n5_ n6_; (try clear hb); (try clear hb2); (try clear hk); (try clear hi)))
              have n0_ := Aside0.mk (Kd.R_drew HO438.out)
              have n1_ := Aside0.mk (Kd.R_drew HO450.out)
              have n2_ := Aside0.mk (blk_drew BK423.out)
              have n3_ := Aside0.mk (blk_drew BK424.out)
              have n4_ := Aside0.mk (blk_drew BK441.out)
              have n5_ := Aside0.mk (blk_drew BK453.out)
              have n6_ := Aside0.mk (below_drew1 HB.out)
              clear HO438
              clear HO450
              clear BK423
              clear BK424
              clear BK441
              clear BK453
              clear HB
              have HO438 := n0_
              have HO450 := n1_
              have BK423 := n2_
              have BK424 := n3_
              have BK441 := n4_
              have BK453 := n5_
              have HB := n6_
              clear n0_ n1_ n2_ n3_ n4_ n5_ n6_
              refine start_ (n := 34) (S := fun w' => w'.cell? ⟨gb423, 0, none⟩ = some (.int .i64 a0_0) ∧ w'.cell? ⟨gb423, 1, none⟩ = some (.int .i64 a0_1) ∧ w'.cell? ⟨gb423, 2, none⟩ = some (.int .i64 a0_2) ∧ w'.cell? ⟨gb423, 3, none⟩ = some (.int .i64 a0_3) ∧ w'.cell? ⟨gb423, 4, none⟩ = some (.string a0_4) ∧ w'.cell? ⟨gb423, 5, none⟩ = some (.bool a0_5) ∧ w'.cell? ⟨gb423, 6, none⟩ = some (.slice A0_6 l0_6.length c0_6) ∧ w'.cell? ⟨gb423, 7, none⟩ = some (.bool a0_7) ∧ w'.cell? ⟨gb424, 0, none⟩ = some (.int .i64 a2_0) ∧ w'.cell? ⟨gb424, 1, none⟩ = some (.int .i64 a2_1) ∧ w'.cell? ⟨gb424, 2, none⟩ = some (.int .i64 a2_2) ∧ w'.cell? ⟨gb424, 3, none⟩ = some (.int .i64 a2_3) ∧ w'.cell? ⟨gb424, 4, none⟩ = some (.string a2_4) ∧ w'.cell? ⟨gb424, 5, none⟩ = some (.bool a2_5) ∧ w'.cell? ⟨gb424, 6, none⟩ = some (.slice A2_6 l2_6.length c2_6) ∧ w'.cell? ⟨gb424, 7, none⟩ = some (.bool a2_7)) (ds := []) #[false, false, false, false, false, false, false, false, false, false, false, false, false, false, false, false, false, false, false, false, false, false, false, false, false, false, false, false, false, false, false, false, false, false] (by kernel_rfl) rfl rfl ⟨(blk_cell BK423.out 0).trans rfl, (blk_cell BK423.out 1).trans rfl, (blk_cell BK423.out 2).trans rfl, (blk_cell BK423.out 3).trans rfl, (blk_cell BK423.out 4).trans rfl, (blk_cell BK423.out 5).trans rfl, (blk_cell BK423.out 6).trans rfl, (blk_cell BK423.out 7).trans rfl, (blk_cell BK424.out 0).trans rfl, (blk_cell BK424.out 1).trans rfl, (blk_cell BK424.out 2).trans rfl, (blk_cell BK424.out 3).trans rfl, (blk_cell BK424.out 4).trans rfl, (blk_cell BK424.out 5).trans rfl, (blk_cell BK424.out 6).trans rfl, (blk_cell BK424.out 7).trans rfl⟩ (fun hHeld => ?_); refine with_tabW stanchionlaw16_WireReplies.tab7 stanchionlaw16_WireReplies.bits7 (fun HT_ HW_ => ?_)
              generalize w41.drew = w42 at HO438 HO450 BK423 BK424 BK441 BK453 HB hHeld ⊢
              refine pure_ (i := 0) (N := some 41) (v := ?_) (a' := ?_) #[true, false, false, false, false, false, false, false, false, false, false, false, false, false, false, false, false, false, false, false, false, false, false, false, false, false, false, false, false, false, false, false, false, false] rfl rfl (any_of HT_.out (by kernel_rfl)) (fun _ _ _ h => h) (Or.inl ⟨by rfl, ?_⟩) ?_ ?_
              rotate_left
              · intro w'
                go_simp
                with_reducible rfl
              rotate_left
              · simp only [Act.put, List.setIfInBounds_toArray, List.set_cons_zero, List.set_cons_succ, i64_w, i32_w]
                rfl
              refine pure_ (i := 1) (N := some 42) (v := ?_) (a' := ?_) #[true, true, false, false, false, false, false, false, false, false, false, false, false, false, false, false, false, false, false, false, false, false, false, false, false, false, false, false, false, false, false, false, false, false] rfl rfl (any_of HT_.out (by kernel_rfl)) (fun _ _ _ h => h) (Or.inl ⟨by rfl, ?_⟩) ?_ ?_
              rotate_left
              · intro w'
                go_simp
                with_reducible rfl
              rotate_left
              · simp only [Act.put, List.setIfInBounds_toArray, List.set_cons_zero, List.set_cons_succ, i64_w, i32_w]
                rfl
              refine pure_ (i := 2) (N := some 43) (v := ?_) (a' := ?_) #[true, true, true, false, false, false, false, false, false, false, false, false, false, false, false, false, false, false, false, false, false, false, false, false, false, false, false, false, false, false, false, false, false, false] rfl rfl (any_of HT_.out (by kernel_rfl)) (fun _ _ _ h => h) (Or.inl ⟨by rfl, ?_⟩) ?_ ?_
              rotate_left
              · intro w'
                go_simp
                with_reducible rfl
              rotate_left
              · simp only [Act.put, List.setIfInBounds_toArray, List.set_cons_zero, List.set_cons_succ, i64_w, i32_w]
                rfl
              refine pure_ (i := 3) (N := some 44) (v := ?_) (a' := ?_) #[true, true, true, true, false, false, false, false, false, false, false, false, false, false, false, false, false, false, false, false, false, false, false, false, false, false, false, false, false, false, false, false, false, false] rfl rfl (any_of HT_.out (by kernel_rfl)) (fun _ _ _ h => h) (Or.inl ⟨by rfl, ?_⟩) ?_ ?_
              rotate_left
              · intro w'
                go_simp
                with_reducible rfl
              rotate_left
              · simp only [Act.put, List.setIfInBounds_toArray, List.set_cons_zero, List.set_cons_succ, i64_w, i32_w]
                rfl
              refine pure_ (i := 4) (N := some 45) (v := ?_) (a' := ?_) #[true, true, true, true, true, false, false, false, false, false, false, false, false, false, false, false, false, false, false, false, false, false, false, false, false, false, false, false, false, false, false, false, false, false] rfl rfl (any_of HT_.out (by kernel_rfl)) (fun _ _ _ h => h) (Or.inl ⟨by rfl, ?_⟩) ?_ ?_
              rotate_left
              · intro w'
                go_simp
                with_reducible rfl
              rotate_left
              · simp only [Act.put, List.setIfInBounds_toArray, List.set_cons_zero, List.set_cons_succ, i64_w, i32_w]
                rfl
              refine pure_ (i := 5) (N := some 46) (v := ?_) (a' := ?_) #[true, true, true, true, true, true, false, false, false, false, false, false, false, false, false, false, false, false, false, false, false, false, false, false, false, false, false, false, false, false, false, false, false, false] rfl rfl (any_of HT_.out (by kernel_rfl)) (fun _ _ _ h => h) (Or.inl ⟨by rfl, ?_⟩) ?_ ?_
              rotate_left
              · intro w'
                go_simp
                with_reducible rfl
              rotate_left
              · simp only [Act.put, List.setIfInBounds_toArray, List.set_cons_zero, List.set_cons_succ, i64_w, i32_w]
                rfl
              refine pure_ (i := 6) (N := some 47) (v := ?_) (a' := ?_) #[true, true, true, true, true, true, true, false, false, false, false, false, false, false, false, false, false, false, false, false, false, false, false, false, false, false, false, false, false, false, false, false, false, false] rfl rfl (any_of HT_.out (by kernel_rfl)) (fun _ _ _ h => h) (Or.inl ⟨by rfl, ?_⟩) ?_ ?_
              rotate_left
              · intro w'
                go_simp
                with_reducible rfl
              rotate_left
              · simp only [Act.put, List.setIfInBounds_toArray, List.set_cons_zero, List.set_cons_succ, i64_w, i32_w]
                rfl
              refine pure_ (i := 7) (N := some 48) (v := ?_) (a' := ?_) #[true, true, true, true, true, true, true, true, false, false, false, false, false, false, false, false, false, false, false, false, false, false, false, false, false, false, false, false, false, false, false, false, false, false] rfl rfl (any_of HT_.out (by kernel_rfl)) (fun _ _ _ h => h) (Or.inl ⟨by rfl, ?_⟩) ?_ ?_
              rotate_left
              · intro w'
                go_simp
                with_reducible rfl
              rotate_left
              · simp only [Act.put, List.setIfInBounds_toArray, List.set_cons_zero, List.set_cons_succ, i64_w, i32_w]
                rfl
              refine pure_ (i := 8) (N := some 49) (v := ?_) (a' := ?_) #[true, true, true, true, true, true, true, true, true, false, false, false, false, false, false, false, false, false, false, false, false, false, false, false, false, false, false, false, false, false, false, false, false, false] rfl rfl (any_of HT_.out (by kernel_rfl)) (fun _ _ _ h => h) (Or.inl ⟨by rfl, ?_⟩) ?_ ?_
              rotate_left
              · intro w'
                go_simp
                with_reducible rfl
              rotate_left
              · simp only [Act.put, List.setIfInBounds_toArray, List.set_cons_zero, List.set_cons_succ, i64_w, i32_w]
                rfl
              refine pure_ (i := 9) (N := some 50) (v := ?_) (a' := ?_) #[true, true, true, true, true, true, true, true, true, true, false, false, false, false, false, false, false, false, false, false, false, false, false, false, false, false, false, false, false, false, false, false, false, false] rfl rfl (any_of HT_.out (by kernel_rfl)) (fun _ _ _ h => h) (Or.inl ⟨by rfl, ?_⟩) ?_ ?_
              rotate_left
              · intro w'
                go_simp
                with_reducible rfl
              rotate_left
              · simp only [Act.put, List.setIfInBounds_toArray, List.set_cons_zero, List.set_cons_succ, i64_w, i32_w]
                rfl
              refine pure_ (i := 10) (N := some 51) (v := ?_) (a' := ?_) #[true, true, true, true, true, true, true, true, true, true, true, false, false, false, false, false, false, false, false, false, false, false, false, false, false, false, false, false, false, false, false, false, false, false] rfl rfl (any_of HT_.out (by kernel_rfl)) (fun _ _ _ h => h) (Or.inl ⟨by rfl, ?_⟩) ?_ ?_
              rotate_left
              · intro w'
                go_simp
                with_reducible rfl
              rotate_left
              · simp only [Act.put, List.setIfInBounds_toArray, List.set_cons_zero, List.set_cons_succ, i64_w, i32_w]
                rfl
              refine pure_ (i := 11) (N := some 52) (v := ?_) (a' := ?_) #[true, true, true, true, true, true, true, true, true, true, true, true, false, false, false, false, false, false, false, false, false, false, false, false, false, false, false, false, false, false, false, false, false, false] rfl rfl (any_of HT_.out (by kernel_rfl)) (fun _ _ _ h => h) (Or.inl ⟨by rfl, ?_⟩) ?_ ?_
              rotate_left
              · intro w'
                go_simp
                with_reducible rfl
              rotate_left
              · simp only [Act.put, List.setIfInBounds_toArray, List.set_cons_zero, List.set_cons_succ, i64_w, i32_w]
                rfl
              refine pure_ (i := 12) (N := some 53) (v := ?_) (a' := ?_) #[true, true, true, true, true, true, true, true, true, true, true, true, true, false, false, false, false, false, false, false, false, false, false, false, false, false, false, false, false, false, false, false, false, false] rfl rfl (any_of HT_.out (by kernel_rfl)) (fun _ _ _ h => h) (Or.inl ⟨by rfl, ?_⟩) ?_ ?_
              rotate_left
              · intro w'
                go_simp
                with_reducible rfl
              rotate_left
              · simp only [Act.put, List.setIfInBounds_toArray, List.set_cons_zero, List.set_cons_succ, i64_w, i32_w]
                rfl
              refine pure_ (i := 13) (N := some 54) (v := ?_) (a' := ?_) #[true, true, true, true, true, true, true, true, true, true, true, true, true, true, false, false, false, false, false, false, false, false, false, false, false, false, false, false, false, false, false, false, false, false] rfl rfl (any_of HT_.out (by kernel_rfl)) (fun _ _ _ h => h) (Or.inl ⟨by rfl, ?_⟩) ?_ ?_
              rotate_left
              · intro w'
                go_simp
                with_reducible rfl
              rotate_left
              · simp only [Act.put, List.setIfInBounds_toArray, List.set_cons_zero, List.set_cons_succ, i64_w, i32_w]
                rfl
              refine pure_ (i := 14) (N := some 55) (v := ?_) (a' := ?_) #[true, true, true, true, true, true, true, true, true, true, true, true, true, true, true, false, false, false, false, false, false, false, false, false, false, false, false, false, false, false, false, false, false, false] rfl rfl (any_of HT_.out (by kernel_rfl)) (fun _ _ _ h => h) (Or.inl ⟨by rfl, ?_⟩) ?_ ?_
              rotate_left
              · intro w'
                go_simp
                with_reducible rfl
              rotate_left
              · simp only [Act.put, List.setIfInBounds_toArray, List.set_cons_zero, List.set_cons_succ, i64_w, i32_w]
                rfl
              refine pure_ (i := 15) (N := some 56) (v := ?_) (a' := ?_) #[true, true, true, true, true, true, true, true, true, true, true, true, true, true, true, true, false, false, false, false, false, false, false, false, false, false, false, false, false, false, false, false, false, false] rfl rfl (any_of HT_.out (by kernel_rfl)) (fun _ _ _ h => h) (Or.inl ⟨by rfl, ?_⟩) ?_ ?_
              rotate_left
              · intro w'
                go_simp
                with_reducible rfl
              rotate_left
              · simp only [Act.put, List.setIfInBounds_toArray, List.set_cons_zero, List.set_cons_succ, i64_w, i32_w]
                rfl
              refine pure_ (i := 16) (N := some 57) (v := ?_) (a' := ?_) #[true, true, true, true, true, true, true, true, true, true, true, true, true, true, true, true, true, false, false, false, false, false, false, false, false, false, false, false, false, false, false, false, false, false] rfl rfl (any_of HT_.out (by kernel_rfl)) (fun _ _ _ h => h) (Or.inl ⟨by rfl, ?_⟩) ?_ ?_
              rotate_left
              · intro w'
                go_simp
                with_reducible rfl
              rotate_left
              · simp only [Act.put, List.setIfInBounds_toArray, List.set_cons_zero, List.set_cons_succ, i64_w, i32_w]
                rfl
              refine pure_ (i := 17) (N := some 58) (v := ?_) (a' := ?_) #[true, true, true, true, true, true, true, true, true, true, true, true, true, true, true, true, true, true, false, false, false, false, false, false, false, false, false, false, false, false, false, false, false, false] rfl rfl (any_of HT_.out (by kernel_rfl)) (fun _ _ _ h => h) (Or.inl ⟨by rfl, ?_⟩) ?_ ?_
              rotate_left
              · intro w'
                go_simp
                with_reducible rfl
              rotate_left
              · simp only [Act.put, List.setIfInBounds_toArray, List.set_cons_zero, List.set_cons_succ, i64_w, i32_w]
                rfl
              refine pure_ (i := 18) (N := some 59) (v := ?_) (a' := ?_) #[true, true, true, true, true, true, true, true, true, true, true, true, true, true, true, true, true, true, true, false, false, false, false, false, false, false, false, false, false, false, false, false, false, false] rfl rfl (any_of HT_.out (by kernel_rfl)) (fun _ _ _ h => h) (Or.inl ⟨by rfl, ?_⟩) ?_ ?_
              rotate_left
              · intro w'
                go_simp
                with_reducible rfl
              rotate_left
              · simp only [Act.put, List.setIfInBounds_toArray, List.set_cons_zero, List.set_cons_succ, i64_w, i32_w]
                rfl
              refine pure_ (i := 19) (N := some 60) (v := ?_) (a' := ?_) #[true, true, true, true, true, true, true, true, true, true, true, true, true, true, true, true, true, true, true, true, false, false, false, false, false, false, false, false, false, false, false, false, false, false] rfl rfl (any_of HT_.out (by kernel_rfl)) (fun _ _ _ h => h) (Or.inl ⟨by rfl, ?_⟩) ?_ ?_
              rotate_left
              · intro w'
                go_simp
                with_reducible rfl
              rotate_left
              · simp only [Act.put, List.setIfInBounds_toArray, List.set_cons_zero, List.set_cons_succ, i64_w, i32_w]
                rfl
              refine take_ (i := 20) (N := some 61) (v := ?_) (a' := ?_) #[true, true, true, true, true, true, true, true, true, true, true, true, true, true, true, true, true, true, true, true, true, false, false, false, false, false, false, false, false, false, false, false, false, false] rfl rfl (take_ofW HT_.out HW_.out (by kernel_rfl)) (fun _ _ _ h => h) (Or.inl ⟨by rfl, ?_⟩) hHeld ?_ ?_
              rotate_left
              · rintro w' ⟨s0, s1, s2, s3, s4, s5, s6, s7, s8, s9, s10, s11, s12, s13, s14, s15⟩
                go_simp
                with_reducible rfl
              rotate_left
              · simp only [Act.put, List.setIfInBounds_toArray, List.set_cons_zero, List.set_cons_succ, i64_w, i32_w]
                rfl
              refine take_ (i := 21) (N := some 62) (v := ?_) (a' := ?_) #[true, true, true, true, true, true, true, true, true, true, true, true, true, true, true, true, true, true, true, true, true, true, false, false, false, false, false, false, false, false, false, false, false, false] rfl rfl (take_ofW HT_.out HW_.out (by kernel_rfl)) (fun _ _ _ h => h) (Or.inl ⟨by rfl, ?_⟩) hHeld ?_ ?_
              rotate_left
              · rintro w' ⟨s0, s1, s2, s3, s4, s5, s6, s7, s8, s9, s10, s11, s12, s13, s14, s15⟩
                go_simp
                with_reducible rfl
              rotate_left
              · simp only [Act.put, List.setIfInBounds_toArray, List.set_cons_zero, List.set_cons_succ, i64_w, i32_w]
                rfl
              refine take_ (i := 23) (N := some 64) (v := ?_) (a' := ?_) #[true, true, true, true, true, true, true, true, true, true, true, true, true, true, true, true, true, true, true, true, true, true, false, true, false, false, false, false, false, false, false, false, false, false] rfl rfl (take_ofW HT_.out HW_.out (by kernel_rfl)) (fun _ _ _ h => h) (Or.inl ⟨by rfl, ?_⟩) hHeld ?_ ?_
              rotate_left
              · rintro w' ⟨s0, s1, s2, s3, s4, s5, s6, s7, s8, s9, s10, s11, s12, s13, s14, s15⟩
                go_simp
                with_reducible rfl
              rotate_left
              · simp only [Act.put, List.setIfInBounds_toArray, List.set_cons_zero, List.set_cons_succ, i64_w, i32_w]
                rfl
              refine take_ (i := 24) (N := some 65) (v := ?_) (a' := ?_) #[true, true, true, true, true, true, true, true, true, true, true, true, true, true, true, true, true, true, true, true, true, true, false, true, true, false, false, false, false, false, false, false, false, false] rfl rfl (take_ofW HT_.out HW_.out (by kernel_rfl)) (fun _ _ _ h => h) (Or.inl ⟨by rfl, ?_⟩) hHeld ?_ ?_
              rotate_left
              · rintro w' ⟨s0, s1, s2, s3, s4, s5, s6, s7, s8, s9, s10, s11, s12, s13, s14, s15⟩
                go_simp
                with_reducible rfl
              rotate_left
              · simp only [Act.put, List.setIfInBounds_toArray, List.set_cons_zero, List.set_cons_succ, i64_w, i32_w]
                rfl
              refine one_ (i := 22) (N := some 63) #[true, true, true, true, true, true, true, true, true, true, true, true, true, true, true, true, true, true, true, true, true, true, true, true, true, false, false, false, false, false, false, false, false, false] rfl rfl (one_of HT_.out (by kernel_rfl)) (by decide) (fun K hK => ?_)
              refine goes_ Tryd.func20 (by kernel_rfl) rfl #[.agg #[.int .i64 a0_0, .int .i64 a0_1, .int .i64 a0_2, .int .i64 a0_3, .string a0_4, .bool a0_5, .slice A0_6 l0_6.length c0_6, .bool a0_7], .agg #[.int .i64 a2_0, .int .i64 a2_1, .int .i64 a2_2, .int .i64 a2_3, .string a2_4, .bool a2_5, .slice A2_6 l2_6.length c2_6, .bool a2_7]] (by rfl) rfl rfl (by (try simp only [List.map_toArray, List.map_cons, List.map_nil]); first | done | rfl | (simp only [List.length_drop, List.length_take]; rfl)) ?_
              with_reducible refine (wire_Same.calls k a0_0 a0_1 a0_2 a0_3 a0_4 a0_5 _ _ l0_6 a0_7 a2_0 a2_1 a2_2 a2_3 a2_4 a2_5 _ _ l2_6 a2_7 t455 _ ?side1 ?side2 ?side3 ?side4 A15.out).mono ?_
              (case side1 => repeat (first | exact (Kd.C_below HR0_6.out HB.out) | (with_reducible refine Kd.C_alloc ?_ _) | (with_reducible refine Kd.C_drewN ?_ _) | (with_reducible refine Kd.C_drew ?_)))
              (case side2 => exact HC0_6.out)
              (case side3 => repeat (first | exact (Kd.C_below HR2_6.out HB.out) | (with_reducible refine Kd.C_alloc ?_ _) | (with_reducible refine Kd.C_drewN ?_ _) | (with_reducible refine Kd.C_drew ?_)))
              (case side4 => exact HC2_6.out)
              rintro e w43 ⟨rfl, hb⟩
              refine ⟨_, rfl, ?_⟩
              have n0_ := Aside0.mk (Kd.R_below (by (with_reducible repeat (first | apply Kd.R_alloc | apply Kd.R_drewN | apply Kd.R_drew)); exact HO438.out) hb)
              have n1_ := Aside0.mk (Kd.R_below (by (with_reducible repeat (first | apply Kd.R_alloc | apply Kd.R_drewN | apply Kd.R_drew)); exact HO450.out) hb)
              have n2_ := Aside0.mk (blk_below (g := gb423) (o := .cells #[.int .i64 a0_0, .int .i64 a0_1, .int .i64 a0_2, .int .i64 a0_3, .string a0_4, .bool a0_5, .slice A0_6 l0_6.length c0_6, .bool a0_7] 41 (0, 0)) (by (with_reducible repeat (first | refine blk_drewN ?_ _ | refine blk_drew ?_ | refine blk_alloc ?_ _)); exact BK423.out) hb)
              have n3_ := Aside0.mk (blk_below (g := gb424) (o := .cells #[.int .i64 a2_0, .int .i64 a2_1, .int .i64 a2_2, .int .i64 a2_3, .string a2_4, .bool a2_5, .slice A2_6 l2_6.length c2_6, .bool a2_7] 41 (0, 0)) (by (with_reducible repeat (first | refine blk_drewN ?_ _ | refine blk_drew ?_ | refine blk_alloc ?_ _)); exact BK424.out) hb)
              have n4_ := Aside0.mk (blk_below (g := gb441) (o := .cells #[.int .i64 t430, .int .i64 t431, .int .i64 t432, .int .i64 t433, .string t434, .bool t435, .slice Ao32 t436.length co32, .bool t439] 41 (0, 0)) (by (with_reducible repeat (first | refine blk_drewN ?_ _ | refine blk_drew ?_ | refine blk_alloc ?_ _)); exact BK441.out) hb)
              have n5_ := Aside0.mk (blk_below (g := gb453) (o := .cells #[.int .i64 t442, .int .i64 t443, .int .i64 t444, .int .i64 t445, .string t446, .bool t447, .slice Ao39 t448.length co39, .bool t451] 41 (0, 0)) (by (with_reducible repeat (first | refine blk_drewN ?_ _ | refine blk_drew ?_ | refine blk_alloc ?_ _)); exact BK453.out) hb)
              have n6_ := Aside0.mk (below_step (by repeat (first | (with_reducible first | exact HB.out | apply below_alloc | apply pw_below_drewN | apply below_drew1 | refine below_set ?_ GE423.out | refine below_set ?_ GE424.out | refine below_set ?_ GE441.out | refine below_set ?_ GE453.out) | exact HB.out)) hb)
              clear HO438
              clear HO450
              clear BK423
              clear BK424
              clear BK441
              clear BK453
              clear HB
              have HO438 := n0_
              have HO450 := n1_
              have BK423 := n2_
              have BK424 := n3_
              have BK441 := n4_
              have BK453 := n5_
              have HB := n6_
              clear n0_ n1_ n2_ n3_ n4_ n5_ n6_
              (try clear hb)
              (try clear hb2)
              (try clear hk)
              (try clear hi)
              refine hK.out _ _ ⟨(blk_cell BK423.out 0).trans rfl, (blk_cell BK423.out 1).trans rfl, (blk_cell BK423.out 2).trans rfl, (blk_cell BK423.out 3).trans rfl, (blk_cell BK423.out 4).trans rfl, (blk_cell BK423.out 5).trans rfl, (blk_cell BK423.out 6).trans rfl, (blk_cell BK423.out 7).trans rfl, (blk_cell BK424.out 0).trans rfl, (blk_cell BK424.out 1).trans rfl, (blk_cell BK424.out 2).trans rfl, (blk_cell BK424.out 3).trans rfl, (blk_cell BK424.out 4).trans rfl, (blk_cell BK424.out 5).trans rfl, (blk_cell BK424.out 6).trans rfl, (blk_cell BK424.out 7).trans rfl⟩ (fun hHeld => ?_)
              clear hK K
              refine norm_ (a' := ?_) ?_ ?_
              rotate_left
              · show Act.put _ (some 63) _ = _
                simp only [Act.put, List.setIfInBounds_toArray, List.set_cons_zero, List.set_cons_succ, i64_w, i32_w]
                rfl
              refine one_ (i := 25) (N := some 66) #[true, true, true, true, true, true, true, true, true, true, true, true, true, true, true, true, true, true, true, true, true, true, true, true, true, true, false, false, false, false, false, false, false, false] rfl rfl (one_of HT_.out (by kernel_rfl)) (by decide) (fun K hK => ?_)
              refine goes_ Tryd.func19 (by kernel_rfl) rfl #[.agg #[.int .i64 a0_0, .int .i64 a0_1, .int .i64 a0_2, .int .i64 a0_3, .string a0_4, .bool a0_5, .slice A0_6 l0_6.length c0_6, .bool a0_7], .agg #[.int .i64 a2_0, .int .i64 a2_1, .int .i64 a2_2, .int .i64 a2_3, .string a2_4, .bool a2_5, .slice A2_6 l2_6.length c2_6, .bool a2_7]] (by rfl) rfl rfl (by (try simp only [List.map_toArray, List.map_cons, List.map_nil]); first | done | rfl | (simp only [List.length_drop, List.length_take]; rfl)) ?_
              with_reducible refine (stanchionref16_Same.calls k a0_0 a0_1 a0_2 a0_3 a0_4 a0_5 _ _ l0_6 a0_7 a2_0 a2_1 a2_2 a2_3 a2_4 a2_5 _ _ l2_6 a2_7 t456 _ ?side1 ?side2 ?side3 ?side4 A16.out).mono ?_
              (case side1 => repeat (first | exact (Kd.C_below HR0_6.out HB.out) | (with_reducible refine Kd.C_alloc ?_ _) | (with_reducible refine Kd.C_drewN ?_ _) | (with_reducible refine Kd.C_drew ?_)))
              (case side2 => exact HC0_6.out)
              (case side3 => repeat (first | exact (Kd.C_below HR2_6.out HB.out) | (with_reducible refine Kd.C_alloc ?_ _) | (with_reducible refine Kd.C_drewN ?_ _) | (with_reducible refine Kd.C_drew ?_)))
              (case side4 => exact HC2_6.out)
              rintro e w44 ⟨rfl, hb⟩
              refine ⟨_, rfl, ?_⟩
              have n0_ := Aside0.mk (Kd.R_below (by (with_reducible repeat (first | apply Kd.R_alloc | apply Kd.R_drewN | apply Kd.R_drew)); exact HO438.out) hb)
              have n1_ := Aside0.mk (Kd.R_below (by (with_reducible repeat (first | apply Kd.R_alloc | apply Kd.R_drewN | apply Kd.R_drew)); exact HO450.out) hb)
              have n2_ := Aside0.mk (blk_below (g := gb423) (o := .cells #[.int .i64 a0_0, .int .i64 a0_1, .int .i64 a0_2, .int .i64 a0_3, .string a0_4, .bool a0_5, .slice A0_6 l0_6.length c0_6, .bool a0_7] 41 (0, 0)) (by (with_reducible repeat (first | refine blk_drewN ?_ _ | refine blk_drew ?_ | refine blk_alloc ?_ _)); exact BK423.out) hb)
              have n3_ := Aside0.mk (blk_below (g := gb424) (o := .cells #[.int .i64 a2_0, .int .i64 a2_1, .int .i64 a2_2, .int .i64 a2_3, .string a2_4, .bool a2_5, .slice A2_6 l2_6.length c2_6, .bool a2_7] 41 (0, 0)) (by (with_reducible repeat (first | refine blk_drewN ?_ _ | refine blk_drew ?_ | refine blk_alloc ?_ _)); exact BK424.out) hb)
              have n4_ := Aside0.mk (blk_below (g := gb441) (o := .cells #[.int .i64 t430, .int .i64 t431, .int .i64 t432, .int .i64 t433, .string t434, .bool t435, .slice Ao32 t436.length co32, .bool t439] 41 (0, 0)) (by (with_reducible repeat (first | refine blk_drewN ?_ _ | refine blk_drew ?_ | refine blk_alloc ?_ _)); exact BK441.out) hb)
              have n5_ := Aside0.mk (blk_below (g := gb453) (o := .cells #[.int .i64 t442, .int .i64 t443, .int .i64 t444, .int .i64 t445, .string t446, .bool t447, .slice Ao39 t448.length co39, .bool t451] 41 (0, 0)) (by (with_reducible repeat (first | refine blk_drewN ?_ _ | refine blk_drew ?_ | refine blk_alloc ?_ _)); exact BK453.out) hb)
              have n6_ := Aside0.mk (below_step (by repeat (first | (with_reducible first | exact HB.out | apply below_alloc | apply pw_below_drewN | apply below_drew1 | refine below_set ?_ GE423.out | refine below_set ?_ GE424.out | refine below_set ?_ GE441.out | refine below_set ?_ GE453.out) | exact HB.out)) hb)
              clear HO438
              clear HO450
              clear BK423
              clear BK424
              clear BK441
              clear BK453
              clear HB
              have HO438 := n0_
              have HO450 := n1_
              have BK423 := n2_
              have BK424 := n3_
              have BK441 := n4_
              have BK453 := n5_
              have HB := n6_
              clear n0_ n1_ n2_ n3_ n4_ n5_ n6_
              (try clear hb)
              (try clear hb2)
              (try clear hk)
              (try clear hi)
              refine hK.out _ _ ⟨(blk_cell BK423.out 0).trans rfl, (blk_cell BK423.out 1).trans rfl, (blk_cell BK423.out 2).trans rfl, (blk_cell BK423.out 3).trans rfl, (blk_cell BK423.out 4).trans rfl, (blk_cell BK423.out 5).trans rfl, (blk_cell BK423.out 6).trans rfl, (blk_cell BK423.out 7).trans rfl, (blk_cell BK424.out 0).trans rfl, (blk_cell BK424.out 1).trans rfl, (blk_cell BK424.out 2).trans rfl, (blk_cell BK424.out 3).trans rfl, (blk_cell BK424.out 4).trans rfl, (blk_cell BK424.out 5).trans rfl, (blk_cell BK424.out 6).trans rfl, (blk_cell BK424.out 7).trans rfl⟩ (fun hHeld => ?_)
              clear hK K
              refine norm_ (a' := ?_) ?_ ?_
              rotate_left
              · show Act.put _ (some 66) _ = _
                simp only [Act.put, List.setIfInBounds_toArray, List.set_cons_zero, List.set_cons_succ, i64_w, i32_w]
                rfl
              refine pure_ (i := 26) (N := some 67) (v := ?_) (a' := ?_) #[true, true, true, true, true, true, true, true, true, true, true, true, true, true, true, true, true, true, true, true, true, true, true, true, true, true, true, false, false, false, false, false, false, false] rfl rfl (any_of HT_.out (by kernel_rfl)) (fun _ _ _ h => h) (Or.inl ⟨by rfl, ?_⟩) ?_ ?_
              rotate_left
              · intro w'
                go_simp
                with_reducible rfl
              rotate_left
              · simp only [Act.put, List.setIfInBounds_toArray, List.set_cons_zero, List.set_cons_succ, i64_w, i32_w]
                rfl
              refine pure_ (i := 27) (N := some 68) (v := ?_) (a' := ?_) #[true, true, true, true, true, true, true, true, true, true, true, true, true, true, true, true, true, true, true, true, true, true, true, true, true, true, true, true, false, false, false, false, false, false] rfl rfl (any_of HT_.out (by kernel_rfl)) (fun _ _ _ h => h) (Or.inl ⟨by rfl, ?_⟩) ?_ ?_
              rotate_left
              · intro w'
                go_simp
                with_reducible rfl
              rotate_left
              · simp only [Act.put, List.setIfInBounds_toArray, List.set_cons_zero, List.set_cons_succ, i64_w, i32_w]
                rfl
              refine pure_ (i := 28) (N := some 69) (v := ?_) (a' := ?_) #[true, true, true, true, true, true, true, true, true, true, true, true, true, true, true, true, true, true, true, true, true, true, true, true, true, true, true, true, true, false, false, false, false, false] rfl rfl (any_of HT_.out (by kernel_rfl)) (fun _ _ _ h => h) (Or.inl ⟨by rfl, ?_⟩) ?_ ?_
              rotate_left
              · intro w'
                go_simp
                with_reducible rfl
              rotate_left
              · simp only [Act.put, List.setIfInBounds_toArray, List.set_cons_zero, List.set_cons_succ, i64_w, i32_w]
                rfl
              refine take_ (i := 29) (N := some 70) (v := ?_) (a' := ?_) #[true, true, true, true, true, true, true, true, true, true, true, true, true, true, true, true, true, true, true, true, true, true, true, true, true, true, true, true, true, true, false, false, false, false] rfl rfl (take_ofW HT_.out HW_.out (by kernel_rfl)) (fun _ _ _ h => h) (Or.inl ⟨by rfl, ?_⟩) hHeld ?_ ?_
              rotate_left
              · rintro w' ⟨s0, s1, s2, s3, s4, s5, s6, s7, s8, s9, s10, s11, s12, s13, s14, s15⟩
                go_simp
                with_reducible rfl
              rotate_left
              · simp only [Act.put, List.setIfInBounds_toArray, List.set_cons_zero, List.set_cons_succ, i64_w, i32_w]
                rfl
              refine take_ (i := 30) (N := some 71) (v := ?_) (a' := ?_) #[true, true, true, true, true, true, true, true, true, true, true, true, true, true, true, true, true, true, true, true, true, true, true, true, true, true, true, true, true, true, true, false, false, false] rfl rfl (take_ofW HT_.out HW_.out (by kernel_rfl)) (fun _ _ _ h => h) (Or.inl ⟨by rfl, ?_⟩) hHeld ?_ ?_
              rotate_left
              · rintro w' ⟨s0, s1, s2, s3, s4, s5, s6, s7, s8, s9, s10, s11, s12, s13, s14, s15⟩
                go_simp
                with_reducible rfl
              rotate_left
              · simp only [Act.put, List.setIfInBounds_toArray, List.set_cons_zero, List.set_cons_succ, i64_w, i32_w]
                rfl
              refine one_ (i := 31) (N := some 72) #[true, true, true, true, true, true, true, true, true, true, true, true, true, true, true, true, true, true, true, true, true, true, true, true, true, true, true, true, true, true, true, true, false, false] rfl rfl (one_of HT_.out (by kernel_rfl)) (by decide) (fun K hK => ?_)
              refine goes_ Tryd.func20 (by kernel_rfl) rfl #[.agg #[.int .i64 a0_0, .int .i64 a0_1, .int .i64 a0_2, .int .i64 a0_3, .string a0_4, .bool a0_5, .slice A0_6 l0_6.length c0_6, .bool a0_7], .agg #[.int .i64 a0_0, .int .i64 a0_1, .int .i64 a0_2, .int .i64 a0_3, .string a0_4, .bool a0_5, .slice A0_6 l0_6.length c0_6, .bool a0_7]] (by rfl) rfl rfl (by (try simp only [List.map_toArray, List.map_cons, List.map_nil]); first | done | rfl | (simp only [List.length_drop, List.length_take]; rfl)) ?_
              with_reducible refine (wire_Same.calls k a0_0 a0_1 a0_2 a0_3 a0_4 a0_5 _ _ l0_6 a0_7 a0_0 a0_1 a0_2 a0_3 a0_4 a0_5 _ _ l0_6 a0_7 t457 _ ?side1 ?side2 ?side3 ?side4 A18.out).mono ?_
              (case side1 => repeat (first | exact (Kd.C_below HR0_6.out HB.out) | (with_reducible refine Kd.C_alloc ?_ _) | (with_reducible refine Kd.C_drewN ?_ _) | (with_reducible refine Kd.C_drew ?_)))
              (case side2 => exact HC0_6.out)
              (case side3 => repeat (first | exact (Kd.C_below HR0_6.out HB.out) | (with_reducible refine Kd.C_alloc ?_ _) | (with_reducible refine Kd.C_drewN ?_ _) | (with_reducible refine Kd.C_drew ?_)))
              (case side4 => exact HC0_6.out)
              rintro e w45 ⟨rfl, hb⟩
              refine ⟨_, rfl, ?_⟩
              have n0_ := Aside0.mk (Kd.R_below (by (with_reducible repeat (first | apply Kd.R_alloc | apply Kd.R_drewN | apply Kd.R_drew)); exact HO438.out) hb)
              have n1_ := Aside0.mk (Kd.R_below (by (with_reducible repeat (first | apply Kd.R_alloc | apply Kd.R_drewN | apply Kd.R_drew)); exact HO450.out) hb)
              have n2_ := Aside0.mk (blk_below (g := gb423) (o := .cells #[.int .i64 a0_0, .int .i64 a0_1, .int .i64 a0_2, .int .i64 a0_3, .string a0_4, .bool a0_5, .slice A0_6 l0_6.length c0_6, .bool a0_7] 41 (0, 0)) (by (with_reducible repeat (first | refine blk_drewN ?_ _ | refine blk_drew ?_ | refine blk_alloc ?_ _)); exact BK423.out) hb)
              have n3_ := Aside0.mk (blk_below (g := gb424) (o := .cells #[.int .i64 a2_0, .int .i64 a2_1, .int .i64 a2_2, .int .i64 a2_3, .string a2_4, .bool a2_5, .slice A2_6 l2_6.length c2_6, .bool a2_7] 41 (0, 0)) (by (with_reducible repeat (first | refine blk_drewN ?_ _ | refine blk_drew ?_ | refine blk_alloc ?_ _)); exact BK424.out) hb)
              have n4_ := Aside0.mk (blk_below (g := gb441) (o := .cells #[.int .i64 t430, .int .i64 t431, .int .i64 t432, .int .i64 t433, .string t434, .bool t435, .slice Ao32 t436.length co32, .bool t439] 41 (0, 0)) (by (with_reducible repeat (first | refine blk_drewN ?_ _ | refine blk_drew ?_ | refine blk_alloc ?_ _)); exact BK441.out) hb)
              have n5_ := Aside0.mk (blk_below (g := gb453) (o := .cells #[.int .i64 t442, .int .i64 t443, .int .i64 t444, .int .i64 t445, .string t446, .bool t447, .slice Ao39 t448.length co39, .bool t451] 41 (0, 0)) (by (with_reducible repeat (first | refine blk_drewN ?_ _ | refine blk_drew ?_ | refine blk_alloc ?_ _)); exact BK453.out) hb)
              have n6_ := Aside0.mk (below_step (by repeat (first | (with_reducible first | exact HB.out | apply below_alloc | apply pw_below_drewN | apply below_drew1 | refine below_set ?_ GE423.out | refine below_set ?_ GE424.out | refine below_set ?_ GE441.out | refine below_set ?_ GE453.out) | exact HB.out)) hb)
              clear HO438
              clear HO450
              clear BK423
              clear BK424
              clear BK441
              clear BK453
              clear HB
              have HO438 := n0_
              have HO450 := n1_
              have BK423 := n2_
              have BK424 := n3_
              have BK441 := n4_
              have BK453 := n5_
              have HB := n6_
              clear n0_ n1_ n2_ n3_ n4_ n5_ n6_
              (try clear hb)
              (try clear hb2)
              (try clear hk)
              (try clear hi)
              refine hK.out _ _ ⟨(blk_cell BK423.out 0).trans rfl, (blk_cell BK423.out 1).trans rfl, (blk_cell BK423.out 2).trans rfl, (blk_cell BK423.out 3).trans rfl, (blk_cell BK423.out 4).trans rfl, (blk_cell BK423.out 5).trans rfl, (blk_cell BK423.out 6).trans rfl, (blk_cell BK423.out 7).trans rfl, (blk_cell BK424.out 0).trans rfl, (blk_cell BK424.out 1).trans rfl, (blk_cell BK424.out 2).trans rfl, (blk_cell BK424.out 3).trans rfl, (blk_cell BK424.out 4).trans rfl, (blk_cell BK424.out 5).trans rfl, (blk_cell BK424.out 6).trans rfl, (blk_cell BK424.out 7).trans rfl⟩ (fun hHeld => ?_)
              clear hK K
              refine norm_ (a' := ?_) ?_ ?_
              rotate_left
              · show Act.put _ (some 72) _ = _
                simp only [Act.put, List.setIfInBounds_toArray, List.set_cons_zero, List.set_cons_succ, i64_w, i32_w]
                rfl
              refine pure_ (i := 32) (N := some 73) (v := ?_) (a' := ?_) #[true, true, true, true, true, true, true, true, true, true, true, true, true, true, true, true, true, true, true, true, true, true, true, true, true, true, true, true, true, true, true, true, true, false] rfl rfl (any_of HT_.out (by kernel_rfl)) (fun _ _ _ h => h) (Or.inl ⟨by rfl, ?_⟩) ?_ ?_
              rotate_left
              · intro w'
                go_simp
                with_reducible rfl
              rotate_left
              · simp only [Act.put, List.setIfInBounds_toArray, List.set_cons_zero, List.set_cons_succ, i64_w, i32_w]
                rfl
              refine pure_ (i := 33) (N := some 6) (v := ?_) (a' := ?_) #[true, true, true, true, true, true, true, true, true, true, true, true, true, true, true, true, true, true, true, true, true, true, true, true, true, true, true, true, true, true, true, true, true, true] rfl rfl (any_of HT_.out (by kernel_rfl)) (fun _ _ _ h => h) (Or.inl ⟨by rfl, ?_⟩) ?_ ?_
              rotate_left
              · intro w'
                go_simp
                with_reducible rfl
              rotate_left
              · simp only [Act.put, List.setIfInBounds_toArray, List.set_cons_zero, List.set_cons_succ, i64_w, i32_w]
                rfl
              refine done_ (done_of HT_.out (by kernel_rfl)) ?_
              try go_wp2
              go_ret
              exact ⟨by first | rfl | (simp [errW_none, errW_some] <;> rfl) | (simp [*, errW_none, errW_some] <;> rfl), by repeat (first | (with_reducible first | exact HB.out | apply below_alloc | apply pw_below_drewN | apply below_drew1 | refine below_set ?_ GE423.out | refine below_set ?_ GE424.out | refine below_set ?_ GE441.out | refine below_set ?_ GE453.out) | exact HB.out)⟩
            · rw [if_neg c17] at H
              have c17b0 : (t455 == t456) = false := by simpa using c17
              (try (have c17b1 : decide (t455 = t456) = false := by simpa using c17))
              (try (have c17b2 : (t455 == t456) = false := by simpa using c17))
              (try (have c17b3 : ¬ (t455 = t456) := by simpa using c17))
              clear c17
              obtain rfl := Option.some.inj H
              cases hr.out
          · rw [if_neg c14] at H
            have c14b0 : (t440 == t452) = false := beq_eq_false_iff_ne.mpr c14
            have c14b1 : (t440 != t452) = true := bne_iff_ne.mpr c14
            obtain rfl := Option.some.inj H
            cases hr.out
        · replace c13 := Bool.eq_false_iff.mpr c13
          subst c13
          have H1 : (some false) = some r := by rw [if_neg (show ¬ (false = true) by decide)] at H; exact H
          clear H
          have H := H1
          clear H1
          obtain rfl := Option.some.inj H
          cases hr.out
      · rw [if_neg c12] at H
        have c12b0 : (t427 == t429) = false := beq_eq_false_iff_ne.mpr c12
        have c12b1 : (t427 != t429) = true := bne_iff_ne.mpr c12
        obtain rfl := Option.some.inj H
        cases hr.out
    · rw [if_neg c11] at H
      have c11b0 : (t426.toList == t428.toList) = false := beq_eq_false_iff_ne.mpr c11
      have c11b1 : (t426.toList != t428.toList) = true := bne_iff_ne.mpr c11
      obtain rfl := Option.some.inj H
      cases hr.out
  · replace c10 := Bool.eq_false_iff.mpr c10
    subst c10
    have H1 : (some false) = some r := by rw [if_neg (show ¬ (false = true) by decide)] at H; exact H
    clear H
    have H := H1
    clear H1
    obtain rfl := Option.some.inj H
    cases hr.out
end Go.Proofs.YtlpcidjmaeicoaaDoor.QWi
namespace Go.Proofs.YtlpcidjmaeicoaaDoor.OpenRow
open Go Go.ChangeShapes Go.WideShapes Go.RowKit Go.Proofs.YtlpcidjmaeicoaaDoorW.PrintWords
theorem one_le {H : Type} (d : DataW H) : 1 ≤ Rows.uptoBulk d := by
  cases d with
  | lit l => cases l <;> simp [Rows.uptoBulk]
  | nil => simp [Rows.uptoBulk]
  | ptr d => simp [Rows.uptoBulk]
  | slice elems spare => simp [Rows.uptoBulk]
  | agg parts => simp [Rows.uptoBulk]
  | iface t d => simp [Rows.uptoBulk]
  | map entries => simp [Rows.uptoBulk]
  | held h => simp [Rows.uptoBulk]
theorem length_le {H : Type} (l : List (DataW H)) : l.length ≤ Rows.uptoBulkAll l := by
  induction l with
  | nil => simp [Rows.uptoBulkAll]
  | cons x r ih =>
    have := one_le x
    simp only [Rows.uptoBulkAll, List.length_cons]
    omega
section
variable {H : Type} {enc : TypeId × Value → H} {P : Program} {W : World} {t e : TypeId} {fuel : Nat} {A0 : Option Addr} {n0 c0 : Nat} {x : DataW H × List MemPlace}
theorem slice_value {cs : List Value} (ht : P.underlying t = some (.slice e)) (h : DataW.trod enc P W 0 (fun _ => true) true fuel t cs = some x) : ∃ A n c, cs = [.slice A n c] := by
  rcases DataW.trod_slice ht h with ⟨h0, _⟩ | ⟨a, len, cap, _, _, _, _, h0, _⟩
  · exact ⟨_, _, _, h0⟩
  · exact ⟨_, _, _, h0⟩
theorem slice_value1 {v : Value} (ht : P.underlying t = some (.slice e)) (h : DataW.trod enc P W 0 (fun _ => true) true fuel t [v] = some x) : ∃ A n c, v = .slice A n c := by
  obtain ⟨A, n, c, h⟩ := slice_value ht h
  exact ⟨A, n, c, by simpa using h⟩
end
theorem agg_bulk {H : Type} {d : DataW H} {p : List MemPlace} {xs : List (DataW H × List MemPlace)} (h : (d, p) = (.agg (xs.map (·.1)), xs.flatMap (·.2))) : Rows.uptoBulk d = Rows.uptoBulkAll (xs.map (·.1)) + 1 := by
  obtain rfl := (Prod.mk.inj h).1
  simp only [Rows.uptoBulk]
theorem str_bulk0 {H : Type} (s : ByteArray) : Rows.uptoBulk (DataW.lit (H := H) (.string s.data.toList)) = s.size + 1 := by
  simp only [Rows.uptoBulk]
  rw [Array.length_toList]
  rfl
theorem str_bulk {H : Type} {y : DataW H × List MemPlace} {s : ByteArray} (h : y = (.lit (.string s.data.toList), [])) : Rows.uptoBulk y.1 = s.size + 1 := by
  subst h
  exact str_bulk0 s
end Go.Proofs.YtlpcidjmaeicoaaDoor.OpenRow
namespace Go.Proofs.YtlpcidjmaeicoaaDoor.OpenPairs
open Go Go.ChangeShapes Go.WideShapes Go.RowKit Go.Proofs.YtlpcidjmaeicoaaDoorW.PrintWords Go.Proofs.YtlpcidjmaeicoaaDoor.QWi
theorem cellsPair : Tryd.prog.cellsOf 74 = 2 := by kernel_rfl
theorem cellsStr : Tryd.prog.cellsOf 9 = 1 := by kernel_rfl
theorem open_pairs {H : Type} {enc : TypeId × Value → H} {W : World} {fuel : Nat} {A0 : Option Addr} {n0 c0 : Nat} {x : DataW H × List MemPlace}
    (h : DataW.trod enc Tryd.prog W 0 (fun _ => true) true fuel 39 [.slice A0 n0 c0] = some x) :
    ∃ l : List S74, n0 = l.length ∧ Kd.C k74 W A0 l.length l ∧ l.length ≤ c0 ∧ l.length + 1 ≤ Rows.uptoBulk x.1 ∧ (l.length ≤ 9223372036854775807 ∧ ∀ x ∈ l, x.f0.size ≤ 9223372036854775807) := by
  rcases Deep.open_slice_pairs Tryd.underlying39 Tryd.underlying74 cellsPair rfl rfl cellsStr cellsStr h with ⟨hcs, rfl⟩ | ⟨a, len, cap, m, n, V0, V1, D0, D1, P0, P1, hcs, _, hl, hm, hmm, rfl, hx⟩
  · simp only [List.cons.injEq, and_true, Value.slice.injEq] at hcs
    obtain ⟨rfl, rfl, rfl⟩ := hcs
    exact ⟨[], rfl, Kd.C_nil _ _, Nat.zero_le _, by simp [Rows.uptoBulk], Nat.zero_le _, fun _ h => by cases h⟩
  · simp only [List.cons.injEq, and_true, Value.slice.injEq] at hcs
    obtain ⟨rfl, rfl, rfl⟩ := hcs
    rw [if_pos rfl] at hmm
    unfold maxLen at hm
    have each : ∀ i, i < m → ∃ s : S74, V0 i = .string s.f0 ∧ V1 i = .string s.f1 ∧ s.f0.size ≤ 9223372036854775807 := by
      intro i hi
      obtain ⟨_, _, g0, g1⟩ := hx i hi
      obtain ⟨s0, e0, _, z0⟩ := DataW.trod_string Tryd.underlying9 g0
      obtain ⟨s1, e1, _⟩ := DataW.trod_string Tryd.underlying9 g1
      exact ⟨⟨s0, s1⟩, by simpa using e0, by simpa using e1, z0⟩
    obtain ⟨f, hf⟩ : ∃ f : Nat → S74, ∀ i, i < m → V0 i = .string (f i).f0 ∧ V1 i = .string (f i).f1 ∧ (f i).f0.size ≤ 9223372036854775807 := by
      refine ⟨fun i => if hi : i < m then Classical.choose (each i hi) else z74, fun i hi => ?_⟩
      simp only [dif_pos hi]
      exact Classical.choose_spec (each i hi)
    have hlen : ((List.range n0).map f).length = n0 := by rw [List.length_map, List.length_range]
    refine ⟨(List.range n0).map f, hlen.symm, ⟨rfl, by omega, fun hn => ⟨a, rfl, fun j p hj => ?_⟩⟩, by omega, ?_, by omega, fun x hx => ?_⟩
    · have hj2 : j < n0 := by
        have := (List.getElem?_eq_some_iff.1 hj).1
        omega
      rw [List.getElem?_map, List.getElem?_range hj2] at hj
      obtain rfl : f j = p := by simpa using hj
      obtain ⟨c0', c1', _, _⟩ := hx j (by omega)
      obtain ⟨v0, v1, _⟩ := hf j (by omega)
      rw [v0] at c0'
      rw [v1] at c1'
      refine ⟨[.string (f j).f0, .string (f j).f1], rfl, k74_mk W (f j), fun i u hu => ?_⟩
      match i, hu with
      | 0, hu =>
        obtain rfl : Value.string (f j).f0 = u := by simpa using hu
        exact c0'
      | 1, hu =>
        obtain rfl : Value.string (f j).f1 = u := by simpa using hu
        exact c1'
      | i + 2, hu => simp at hu
    · simp only [Rows.uptoBulk]
      refine Nat.succ_le_succ (Nat.le_trans (Nat.le_trans (Nat.le_of_eq ?_) (OpenRow.length_le _)) (Nat.le_add_right ..))
      simp
    · obtain ⟨i, hi, rfl⟩ := List.mem_map.1 hx
      exact (hf i (by have := List.mem_range.1 hi; omega)).2.2
end Go.Proofs.YtlpcidjmaeicoaaDoor.OpenPairs
namespace Go.Proofs.YtlpcidjmaeicoaaDoor.Enc
open Go Go.RowKit Go.Proofs.YtlpcidjmaeicoaaDoor.DecM Go.Proofs.YtlpcidjmaeicoaaDoor.Giv Go.Proofs.YtlpcidjmaeicoaaDoor.Wire Go.Proofs.YtlpcidjmaeicoaaDoor.Reader Go.Proofs.YtlpcidjmaeicoaaDoor.QWi Go.Proofs.YtlpcidjmaeicoaaDoorW.PrintWords
theorem str_iff (a b : ByteArray) : a.toList = b.toList ↔ a = b := by
  rw [Lib.toList_data, Lib.toList_data]
  exact ⟨fun h => bytes_ext h, fun h => by rw [h]⟩
theorem str_beq (a b : ByteArray) : (a.toList == b.toList) = decide (a = b) := by
  rw [Bool.eq_iff_iff, beq_iff_eq, decide_eq_true_eq]
  exact str_iff a b
def eqT (p q : S74) : Bool := decide (p.f0 = q.f0) && decide (p.f1 = q.f1)
def eqL : List S74 → List S74 → Bool
  | [], [] => true
  | p :: l, q :: l' => eqT p q && eqL l l'
  | _, _ => false
theorem eqL_self (l : List S74) : eqL l l = true := by
  induction l with
  | nil => rfl
  | cons p l ih =>
    show (eqT p p && eqL l l) = true
    rw [ih]
    unfold eqT
    simp
theorem eqL_iff (l l' : List S74) : eqL l l' = true ↔ l = l' := by
  induction l generalizing l' with
  | nil =>
    cases l' with
    | nil => exact ⟨fun _ => rfl, fun _ => rfl⟩
    | cons => exact ⟨fun h => (by cases h), fun h => (by cases h)⟩
  | cons p l ih =>
    cases l' with
    | nil => exact ⟨fun h => (by cases h), fun h => (by cases h)⟩
    | cons q l' =>
      show (eqT p q && eqL l l') = true ↔ _
      rw [Bool.and_eq_true, ih, List.cons.injEq]
      unfold eqT
      obtain ⟨p0, p1⟩ := p
      obtain ⟨q0, q1⟩ := q
      simp
theorem eqL_len (l l' : List S74) (h : ¬ l.length = l'.length) : eqL l l' = false := by
  by_cases e : eqL l l' = true
  · exact absurd (by rw [(eqL_iff l l').1 e]) h
  · exact Bool.eq_false_iff.mpr e
theorem equal_l0 (l l' : List S74) (he : l.length = l'.length) (hn : l.length ≤ 9223372036854775807) : ∀ (d i k : Nat), l.length - i = d → i ≤ l.length → d < k → api_Pair_37.l0 k l l' (l.length : Int) (i : Int) = some (eqL (l.drop i) (l'.drop i)) := by
  intro d
  induction d with
  | zero =>
    intro i k hd hi hk
    obtain ⟨k, rfl⟩ : ∃ j, k = j + 1 := ⟨k - 1, by omega⟩
    rw [api_Pair_37.l0, if_neg (by omega), List.drop_eq_nil_of_le (by omega), List.drop_eq_nil_of_le (by omega)]
    rfl
  | succ d ih =>
    intro i k hd hi hk
    obtain ⟨k, rfl⟩ : ∃ j, k = j + 1 := ⟨k - 1, by omega⟩
    have h1 : i < l.length := by omega
    have h2 : i < l'.length := by omega
    have e := ih (i + 1) k (by omega) (by omega) (by omega)
    rw [api_Pair_37.l0, if_pos (by omega), if_pos (by omega), if_pos (by omega), if_pos (by omega), rd_at l i h1, rd_at l' i h2, w_nat i (by omega), e, str_beq, str_beq, List.drop_eq_getElem_cons h1, List.drop_eq_getElem_cons h2]
    show _ = some (eqT l[i] l'[i] && eqL (l.drop (i + 1)) (l'.drop (i + 1)))
    unfold eqT
    generalize decide ((l[i]).f0 = (l'[i]).f0) = x
    generalize decide ((l[i]).f1 = (l'[i]).f1) = y
    cases x <;> cases y <;> rfl
theorem equal_f (k : Nat) (l l' : List S74) (hn : l.length ≤ 9223372036854775807) (hk : l.length < k) : api_Pair_37.f k l l' = some (eqL l l') := by
  unfold api_Pair_37.f
  by_cases he : l.length = l'.length
  · rw [if_pos (by omega)]
    exact equal_l0 l l' he hn l.length 0 k rfl (Nat.zero_le _) hk
  · rw [if_neg (by omega), eqL_len l l' he]
def sameP (p q : S41) : Bool := decide (p.f0 = q.f0) && (decide (p.f1 = q.f1) && (decide (p.f2 = q.f2) && (decide (p.f3 = q.f3) && (decide (p.f4 = q.f4) && ((p.f5 == q.f5) && (eqL p.f6 q.f6 && (p.f7 == q.f7)))))))
theorem sameP_self (p : S41) : sameP p p = true := by
  unfold sameP
  rw [eqL_self]
  simp
theorem same_f (k : Nat) (p q : S41) (hn : p.f6.length ≤ 9223372036854775807) (hk : p.f6.length < k) :
    wire_Same.f k p.f0 p.f1 p.f2 p.f3 p.f4 p.f5 p.f6 p.f7 q.f0 q.f1 q.f2 q.f3 q.f4 q.f5 q.f6 q.f7 = some (sameP p q) := by
  unfold wire_Same.f sameP
  rw [equal_f k _ _ hn hk, bsp]
  simp only [str_iff]
  by_cases c0 : p.f0 = q.f0
  · by_cases c1 : p.f1 = q.f1
    · by_cases c2 : p.f2 = q.f2
      · by_cases c3 : p.f3 = q.f3
        · by_cases c4 : p.f4 = q.f4
          · rw [if_pos c0, if_pos c1, if_pos c2, if_pos c3, if_pos c4, decide_eq_true c0, decide_eq_true c1, decide_eq_true c2, decide_eq_true c3, decide_eq_true c4]
            generalize (p.f5 == q.f5) = x
            generalize eqL p.f6 q.f6 = y
            cases x <;> cases y <;> rfl
          · rw [if_pos c0, if_pos c1, if_pos c2, if_pos c3, if_neg c4, decide_eq_true c0, decide_eq_true c1, decide_eq_true c2, decide_eq_true c3, decide_eq_false c4]
            rfl
        · rw [if_pos c0, if_pos c1, if_pos c2, if_neg c3, decide_eq_true c0, decide_eq_true c1, decide_eq_true c2, decide_eq_false c3]
          rfl
      · rw [if_pos c0, if_pos c1, if_neg c2, decide_eq_true c0, decide_eq_true c1, decide_eq_false c2]
        rfl
    · rw [if_pos c0, if_neg c1, decide_eq_true c0, decide_eq_false c1]
      rfl
  · rw [if_neg c0, decide_eq_false c0]
    rfl
end Go.Proofs.YtlpcidjmaeicoaaDoor.Enc
namespace Go.Proofs.YtlpcidjmaeicoaaDoor.Enc
open Go Go.RowKit Go.Proofs.YtlpcidjmaeicoaaDoor.DecM Go.Proofs.YtlpcidjmaeicoaaDoor.Giv Go.Proofs.YtlpcidjmaeicoaaDoor.Wire Go.Proofs.YtlpcidjmaeicoaaDoor.Reader Go.Proofs.YtlpcidjmaeicoaaDoor.QWi
theorem nr_bad {α : Type} (s : ByteArray) (f : Int → ByteArray × Bool → α) : nr (s, false) f = f 0 (⟨#[]⟩, false) :=
  nr_of (x := (s, false)) (v := (0, ⟨#[]⟩, false)) f (if_neg (by simp))
theorem tr_bad {α : Type} (s : ByteArray) (m : Int) (f : ByteArray → ByteArray × Bool → α) : tr (s, false) m f = f ⟨#[]⟩ (⟨#[]⟩, false) :=
  tr_of (x := (s, false)) (v := (⟨#[]⟩, ⟨#[]⟩, false)) f (if_neg (by simp))
theorem nr_back {α : Type} (n : Int) (r : ByteArray) (f : Int → ByteArray × Bool → α) (hn : 0 ≤ n ∧ n ≤ 1073741824) : nr (numS n.toNat ++ r, true) f = f n (r, true) := by
  have e := take_back n.toNat (by unfold two64; omega) r
  have en : ((n.toNat : Nat) : Int) = n := by omega
  rw [en] at e
  refine nr_of (v := (n, r, true)) f ?_
  show tkR (numS n.toNat ++ r) true = _
  unfold tkR
  rw [e]
  exact if_pos ⟨rfl, rfl, hn.2⟩
theorem tr_back {α : Type} (t r : ByteArray) (m : Int) (f : ByteArray → ByteArray × Bool → α) (ht : (t.size : Int) ≤ m) (hm : m ≤ 1073741824) : tr (textS t ++ r, true) m f = f t (r, true) := by
  have e := DecPure.text_back t r m (by omega)
  rw [if_neg (by omega)] at e
  refine tr_of (v := (t, r, true)) f ?_
  show rdR (textS t ++ r) true m = _
  unfold rdR
  rw [e]
  exact if_pos ⟨rfl, rfl⟩
theorem nr_rule {s : ByteArray} {f : Int → ByteArray × Bool → Prop} (h0 : f 0 (⟨#[]⟩, false)) (h1 : ∀ (n : Int) (r : ByteArray), 0 ≤ n ∧ n ≤ 1073741824 → s = numS n.toNat ++ r → f n (r, true)) : nr (s, true) f := by
  by_cases hc : true = true ∧ (takeNum s).2.2 = 0 ∧ (takeNum s).1 ≤ 1073741824
  · rw [nr_of (x := (s, true)) (v := ((takeNum s).1, (takeNum s).2.1, true)) f (if_pos hc)]
    obtain ⟨n, e1, e2, e3⟩ := take_was (s := s) (v := (takeNum s).1) (r := (takeNum s).2.1) (by rw [← hc.2.1])
    refine h1 _ _ ⟨by omega, hc.2.2⟩ ?_
    rw [e1, Int.toNat_natCast]
    exact e3
  · rw [nr_of (x := (s, true)) (v := (0, ⟨#[]⟩, false)) f (if_neg hc)]
    exact h0
theorem tr_rule {s : ByteArray} {m : Int} {f : ByteArray → ByteArray × Bool → Prop} (h0 : f ⟨#[]⟩ (⟨#[]⟩, false)) (h1 : ∀ (t r : ByteArray), (t.size : Int) ≤ m → s = textS t ++ r → f t (r, true)) : tr (s, true) m f := by
  by_cases hc : true = true ∧ (takeText s m).2.2 = 0
  · rw [tr_of (x := (s, true)) (v := ((takeText s m).1, (takeText s m).2.1, true)) f (if_pos hc)]
    obtain ⟨e1, e2, e3⟩ := DecPure.text_was s m hc.2
    exact h1 _ _ e2 e1
  · rw [tr_of (x := (s, true)) (v := (⟨#[]⟩, ⟨#[]⟩, false)) f (if_neg hc)]
    exact h0
theorem num_r (a : Int) (h : 0 ≤ a ∧ a ≤ 1073741824) : stanchionref16_num.f a = some (numS a.toNat) := by
  unfold stanchionref16_num.f QWi.stanchionref01_Num.f
  have hw : IntKind.u64.wrap a = a := by
    unfold IntKind.wrap
    simp [IntKind.bits, IntKind.signed]
    omega
  rw [hw, DecPure.refn_some (by omega)]
  rfl
theorem text_r (t : ByteArray) (h : t.size ≤ 64) : stanchionref16_text.f t = some (textS t) := by
  unfold stanchionref16_text.f QWi.stanchionref01_Text.f QDec.stanchionref01_Text.f
  rw [if_pos (by omega)]
  rfl
end Go.Proofs.YtlpcidjmaeicoaaDoor.Enc
namespace Go.Proofs.YtlpcidjmaeicoaaDoor.Reader
open Go Go.RowKit Go.Proofs.YtlpcidjmaeicoaaDoor.DecM Go.Proofs.YtlpcidjmaeicoaaDoor.Giv Go.Proofs.YtlpcidjmaeicoaaDoor.Err Go.Proofs.YtlpcidjmaeicoaaDoorW.PrintWords Go.Proofs.YtlpcidjmaeicoaaDoorW.PrintLast
end Go.Proofs.YtlpcidjmaeicoaaDoor.Reader
namespace Go.Proofs.YtlpcidjmaeicoaaDoor.QWi
open Go Go.RowKit Go.Proofs.YtlpcidjmaeicoaaDoorW.PrintWords Go.Proofs.YtlpcidjmaeicoaaDoorW.PrintLast Go.Proofs.YtlpcidjmaeicoaaDoorW.PrintMore
theorem bsm {α β : Type} (a : α) (f : α → Option β) : (some a).bind f = f a := Eq.trans (Option.bind_some a f) (Eq.refl _)
def mayQ (a0 a1 a2 a3 : Int) (t : ByteArray) (o : Int) (y v l h : ByteArray) (m : Int) : Prop :=
  (1 ≤ a0 ∧ a0 ≤ 6) ∧ (0 ≤ a1 ∧ a1 ≤ 1073741824) ∧ (0 ≤ a2 ∧ a2 ≤ 1073741824) ∧ (0 ≤ a3 ∧ a3 ≤ 1073741824) ∧ t.size ≤ 16 ∧
  ((a0 = 5 ∧ t.size = 0 ∧ (1 ≤ o ∧ o ≤ 6) ∧ y.size ≤ 32 ∧ v.size ≤ 64 ∧ l.size ≤ 32 ∧ h.size ≤ 32 ∧ (0 ≤ m ∧ m ≤ 1073741824)) ∨
    (¬ a0 = 5 ∧ o = 0 ∧ y.size = 0 ∧ v.size = 0 ∧ l.size = 0 ∧ h.size = 0 ∧ m = 0 ∧ (t.size = 0 ∨ a0 = 4 ∨ a0 = 6)))
instance (a0 a1 a2 a3 : Int) (t : ByteArray) (o : Int) (y v l h : ByteArray) (m : Int) : Decidable (mayQ a0 a1 a2 a3 t o y v l h m) := by
  unfold mayQ
  infer_instance
theorem nil_iff (s : ByteArray) : s.toList = ([] : List UInt8) ↔ s.size = 0 := by
  have h := Go.Proofs.YtlpcidjmaeicoaaDoor.Reader.empty_iff s
  constructor
  · intro e
    rw [e] at h
    exact of_decide_eq_true h.symm
  · intro e
    rw [decide_eq_true e] at h
    exact List.isEmpty_iff.1 h
theorem small_f (x : Int) : wire_num.f x = some (decide (0 ≤ x ∧ x ≤ 1073741824)) := by
  unfold wire_num.f
  by_cases h : x ≥ 0
  · rw [if_pos h]
    congr 1
    exact decide_eq_decide.2 (by omega)
  · rw [if_neg h]
    congr 1
    exact (decide_eq_false (by omega)).symm
theorem bq (a b : Int) : (a == b) = decide (a = b) := rfl
theorem emp5 (o m : Int) (y v l h : ByteArray) : (o == 0 && (y.toList.isEmpty && (v.toList.isEmpty && (l.toList.isEmpty && (h.toList.isEmpty && (m == 0)))))) = decide (o = 0 ∧ y.size = 0 ∧ v.size = 0 ∧ l.size = 0 ∧ h.size = 0 ∧ m = 0) := by
  simp only [Go.Proofs.YtlpcidjmaeicoaaDoor.Reader.empty_iff, Bool.decide_and, bq]
theorem may_j0 (k : Nat) (x : Bool) (a0 a1 a2 a3 : Int) (t : ByteArray) (o : Int) (y v l h : ByteArray) (m : Int) :
    wire_MayReq.j0 (k + 1) x a0 a1 a2 a3 t o y v l h m = some (!x && decide ((a0 = 5 ∧ t.size = 0 ∧ (1 ≤ o ∧ o ≤ 6) ∧ y.size ≤ 32 ∧ v.size ≤ 64 ∧ l.size ≤ 32 ∧ h.size ≤ 32 ∧ (0 ≤ m ∧ m ≤ 1073741824)) ∨
    (¬ a0 = 5 ∧ o = 0 ∧ y.size = 0 ∧ v.size = 0 ∧ l.size = 0 ∧ h.size = 0 ∧ m = 0 ∧ (t.size = 0 ∨ a0 = 4 ∨ a0 = 6)))) := by
  rw [wire_MayReq.j0, small_f, bsm, emp5]
  cases x with
  | true => rfl
  | false =>
    simp only [nil_iff, Bool.false_eq_true, if_false, Bool.not_false, Bool.true_and, decide_eq_true_eq, bq]
    repeat' split
    all_goals
      congr 1
      first
        | exact (decide_eq_true (by omega)).symm
        | exact (decide_eq_false (by omega)).symm
        | exact decide_eq_decide.2 (by omega)
theorem wire_may (k : Nat) (a0 a1 a2 a3 : Int) (t : ByteArray) (o : Int) (y v l h : ByteArray) (m : Int) :
    wire_MayReq.f (k + 1) a0 a1 a2 a3 t o y v l h m = some (decide (mayQ a0 a1 a2 a3 t o y v l h m)) := by
  unfold wire_MayReq.f mayQ
  rw [small_f, small_f, small_f, bsm, bsm, bsm]
  simp only [may_j0, decide_eq_true_eq, Bool.not_true, Bool.false_and]
  repeat' split
  · exact congrArg some (decide_eq_false (by omega)).symm
  · exact congrArg some (decide_eq_false (by omega)).symm
  · rw [← decide_not, ← Bool.decide_and]
    exact congrArg some (decide_eq_decide.2 (by omega))
  · exact congrArg some (decide_eq_false (by omega)).symm
  · exact congrArg some (decide_eq_false (by omega)).symm
  · exact congrArg some (decide_eq_false (by omega)).symm
end Go.Proofs.YtlpcidjmaeicoaaDoor.QWi
namespace Go.Proofs.YtlpcidjmaeicoaaDoor.Reader
open Go Go.RowKit Go.Proofs.YtlpcidjmaeicoaaDoor.DecM Go.Proofs.YtlpcidjmaeicoaaDoor.Giv Go.Proofs.YtlpcidjmaeicoaaDoor.Err Go.Proofs.YtlpcidjmaeicoaaDoorW.PrintWords Go.Proofs.YtlpcidjmaeicoaaDoorW.PrintLast
end Go.Proofs.YtlpcidjmaeicoaaDoor.Reader
namespace Go.Proofs.YtlpcidjmaeicoaaDoor.QWi
open Go Go.RowKit Go.Proofs.YtlpcidjmaeicoaaDoor.Reader
end Go.Proofs.YtlpcidjmaeicoaaDoor.QWi
namespace Go.Proofs.YtlpcidjmaeicoaaDoor.Enc
open Go Go.RowKit Go.Proofs.YtlpcidjmaeicoaaDoor.DecM Go.Proofs.YtlpcidjmaeicoaaDoor.Giv Go.Proofs.YtlpcidjmaeicoaaDoor.Wire Go.Proofs.YtlpcidjmaeicoaaDoor.Reader Go.Proofs.YtlpcidjmaeicoaaDoor.QWi
def encQ (a0 a1 a2 a3 : Int) (t : ByteArray) (o : Int) (y v l h : ByteArray) (m : Int) : ByteArray :=
  numS a0.toNat ++ (numS a1.toNat ++ (numS a2.toNat ++ (numS a3.toNat ++ (textS t ++ (if a0 = 5 then numS o.toNat ++ (textS y ++ (textS v ++ (textS l ++ (textS h ++ numS m.toNat)))) else ⟨#[]⟩)))))
theorem encQ_size {a0 a1 a2 a3 : Int} {t : ByteArray} {o : Int} {y v l h : ByteArray} {m : Int} (hm : mayQ a0 a1 a2 a3 t o y v l h m) : 1 ≤ (encQ a0 a1 a2 a3 t o y v l h m).size ∧ (encQ a0 a1 a2 a3 t o y v l h m).size ≤ 2000 := by
  obtain ⟨p0, p1, p2, p3, p4, p5⟩ := hm
  have n0 := num_size a0 (by omega)
  have n1 := num_size a1 p1
  have n2 := num_size a2 p2
  have n3 := num_size a3 p3
  have n4 := text_size t (by omega)
  have n5 := numS_ge a0.toNat
  unfold encQ
  by_cases h5 : a0 = 5
  · rcases p5 with ⟨_, _, q2, q3, q4, q5, q6, q7⟩ | ⟨q0, _⟩
    · have m0 := num_size o (by omega)
      have m1 := num_size m q7
      have m2 := text_size y (by omega)
      have m3 := text_size v (by omega)
      have m4 := text_size l (by omega)
      have m5 := text_size h (by omega)
      simp only [if_pos h5, ByteArray.size_append]
      omega
    · exact absurd h5 q0
  · have e : (⟨#[]⟩ : ByteArray).size = 0 := rfl
    simp only [if_neg h5, ByteArray.size_append, e]
    omega
theorem req_f (k : Nat) (a0 a1 a2 a3 : Int) (t : ByteArray) (o : Int) (y v l h : ByteArray) (m : Int) :
    wire_Req.f (k + 1) a0 a1 a2 a3 t o y v l h m = some (if mayQ a0 a1 a2 a3 t o y v l h m then (encQ a0 a1 a2 a3 t o y v l h m, 0) else (⟨#[]⟩, 1)) := by
  unfold wire_Req.f
  rw [wire_may, bsm]
  by_cases hm : mayQ a0 a1 a2 a3 t o y v l h m
  · rw [if_pos hm, if_pos (decide_eq_true hm)]
    have hs := encQ_size hm
    obtain ⟨p0, p1, p2, p3, p4, p5⟩ := hm
    have e1 : numsS [a0, a1, a2, a3] ++ textsW [t] = numS a0.toNat ++ (numS a1.toNat ++ (numS a2.toNat ++ (numS a3.toNat ++ textS t))) := by
      rw [nums_cons, nums_cons, nums_cons, nums_one, texts_one, asc, asc, asc]
    have k1 : (numsS [a0, a1, a2, a3]).size + (textsW [t]).size ≤ 9223372036854775807 := by
      rw [← ByteArray.size_append, e1]
      have n0 := num_size a0 (by omega)
      have n1 := num_size a1 p1
      have n2 := num_size a2 p2
      have n3 := num_size a3 p3
      have n4 := text_size t (by omega)
      simp only [ByteArray.size_append]
      omega
    rw [nums_some [a0, a1, a2, a3] (by simp) (by
      intro x hx
      simp only [List.mem_cons, List.not_mem_nil, or_false] at hx
      rcases hx with rfl | rfl | rfl | rfl
      · omega
      · exact p1
      · exact p2
      · exact p3), bsm, texts_some [t] (by simp) (by
      intro x hx
      rw [List.mem_singleton.1 hx]
      omega), bsm, if_pos k1]
    by_cases h5 : a0 = 5
    · rcases p5 with ⟨_, _, q2, q3, q4, q5, q6, q7⟩ | ⟨q0, _⟩
      · have e2 : numsS [o] ++ textsW [y, v, l, h] = numS o.toNat ++ (textS y ++ (textS v ++ (textS l ++ textS h))) := by
          rw [nums_one, texts_cons, texts_cons, texts_cons, texts_one]
        have m0 := num_size o (by omega)
        have m1 := num_size m q7
        have m2 := text_size y (by omega)
        have m3 := text_size v (by omega)
        have m4 := text_size l (by omega)
        have m5 := text_size h (by omega)
        have e3 : (numsS [o] ++ textsW [y, v, l, h]) ++ numsS [m] = numS o.toNat ++ (textS y ++ (textS v ++ (textS l ++ (textS h ++ numS m.toNat)))) := by
          rw [e2, nums_one, asc, asc, asc, asc]
        have e4 : (numsS [a0, a1, a2, a3] ++ textsW [t]) ++ ((numsS [o] ++ textsW [y, v, l, h]) ++ numsS [m]) = encQ a0 a1 a2 a3 t o y v l h m := by
          unfold encQ
          rw [e1, e3, if_pos h5, asc, asc, asc, asc]
        rw [if_pos h5, nums_some [o] (by simp) (by
          intro x hx
          rw [List.mem_singleton.1 hx]
          omega), bsm, texts_some [y, v, l, h] (by simp) (by
          intro x hx
          simp only [List.mem_cons, List.not_mem_nil, or_false] at hx
          rcases hx with rfl | rfl | rfl | rfl
          · omega
          · omega
          · omega
          · omega), bsm, if_pos (by rw [← ByteArray.size_append, e2]; simp only [ByteArray.size_append]; omega), nums_some [m] (by simp) (by
          intro x hx
          rw [List.mem_singleton.1 hx]
          exact q7), bsm, if_pos (by rw [← ByteArray.size_append, e3]; simp only [ByteArray.size_append]; omega), if_pos (by rw [← ByteArray.size_append, e4]; omega), e4]
      · exact absurd h5 q0
    · have e4 : numsS [a0, a1, a2, a3] ++ textsW [t] = encQ a0 a1 a2 a3 t o y v l h m := by
        unfold encQ
        rw [e1, if_neg h5, app_empty]
      rw [if_neg h5, e4]
  · rw [if_neg hm, if_neg (fun h => hm (of_decide_eq_true h))]
theorem shown_f (k : Nat) : stanchionlaw16_shown.f (k + 1) = some true := by
  unfold stanchionlaw16_shown.f
  have h1 : (⟨#[116]⟩ : ByteArray).size = 1 := rfl
  have h0 : (⟨#[]⟩ : ByteArray).size = 0 := rfl
  have hm : mayQ 4 1 2 3 (⟨#[116]⟩ : ByteArray) 0 (⟨#[]⟩ : ByteArray) (⟨#[]⟩ : ByteArray) (⟨#[]⟩ : ByteArray) (⟨#[]⟩ : ByteArray) 0 := by
    unfold mayQ
    rw [h1, h0]
    decide
  rw [req_f, bsm, if_pos hm]
  have e : (encQ 4 1 2 3 (⟨#[116]⟩ : ByteArray) 0 (⟨#[]⟩ : ByteArray) (⟨#[]⟩ : ByteArray) (⟨#[]⟩ : ByteArray) (⟨#[]⟩ : ByteArray) 0).toList = ([52, 59, 49, 59, 50, 59, 51, 59, 49, 59, 116] : List UInt8) := by
    rw [Lib.toList_data]
    unfold encQ textS
    simp only [data_append, numS_data, h1]
    rw [show (4 : Int).toNat = 4 from rfl, show (1 : Int).toNat = 1 from rfl, show (2 : Int).toNat = 2 from rfl, show (3 : Int).toNat = 3 from rfl, figL_small (by omega), figL_small (by omega), figL_small (by omega), figL_small (by omega)]
    rfl
  rw [if_pos e]
  rfl
end Go.Proofs.YtlpcidjmaeicoaaDoor.Enc
namespace Go.Proofs.YtlpcidjmaeicoaaDoor.Enc
open Go Go.RowKit Go.Proofs.YtlpcidjmaeicoaaDoor.DecM Go.Proofs.YtlpcidjmaeicoaaDoor.Giv Go.Proofs.YtlpcidjmaeicoaaDoor.Wire Go.Proofs.YtlpcidjmaeicoaaDoor.Reader Go.Proofs.YtlpcidjmaeicoaaDoor.QWi Go.Proofs.YtlpcidjmaeicoaaDoorW.PrintWords
theorem refsame_l0 (l l' : List S74) (he : l.length = l'.length) (hn : l.length ≤ 9223372036854775807) : ∀ (d i k : Nat), l.length - i = d → i ≤ l.length → d < k → stanchionref05_Same.l0 k l l' (i : Int) = some (eqL (l.drop i) (l'.drop i)) := by
  intro d
  induction d with
  | zero =>
    intro i k hd hi hk
    obtain ⟨k, rfl⟩ : ∃ j, k = j + 1 := ⟨k - 1, by omega⟩
    rw [stanchionref05_Same.l0, if_neg (by omega), List.drop_eq_nil_of_le (by omega), List.drop_eq_nil_of_le (by omega)]
    rfl
  | succ d ih =>
    intro i k hd hi hk
    obtain ⟨k, rfl⟩ : ∃ j, k = j + 1 := ⟨k - 1, by omega⟩
    have h1 : i < l.length := by omega
    have h2 : i < l'.length := by omega
    have e := ih (i + 1) k (by omega) (by omega) (by omega)
    rw [stanchionref05_Same.l0, if_pos (by omega), if_pos (by omega), if_pos (by omega), rd_at l i h1, rd_at l' i h2, w_nat i (by omega), e, str_beq, str_beq, List.drop_eq_getElem_cons h1, List.drop_eq_getElem_cons h2]
    show _ = some (eqT l[i] l'[i] && eqL (l.drop (i + 1)) (l'.drop (i + 1)))
    unfold eqT
    generalize decide ((l[i]).f0 = (l'[i]).f0) = x
    generalize decide ((l[i]).f1 = (l'[i]).f1) = y
    cases x <;> cases y <;> rfl
theorem refequal_f (k : Nat) (l l' : List S74) (hn : l.length ≤ 9223372036854775807) (hk : l.length < k) : stanchionref05_Same.f k l l' = some (eqL l l') := by
  unfold stanchionref05_Same.f
  by_cases he : l.length = l'.length
  · rw [if_pos (by omega)]
    exact refsame_l0 l l' he hn l.length 0 k rfl (Nat.zero_le _) hk
  · rw [if_neg (by omega), eqL_len l l' he]
theorem refsame_f (k : Nat) (p q : S41) (hn : p.f6.length ≤ 9223372036854775807) (hk : p.f6.length < k) :
    stanchionref16_Same.f k p.f0 p.f1 p.f2 p.f3 p.f4 p.f5 p.f6 p.f7 q.f0 q.f1 q.f2 q.f3 q.f4 q.f5 q.f6 q.f7 = some (sameP p q) := by
  unfold stanchionref16_Same.f sameP
  rw [refequal_f k _ _ hn hk, bsp]
  simp only [str_iff]
  cases eqL p.f6 q.f6 with
  | false =>
    rw [if_neg (by decide)]
    simp only [Bool.false_and, Bool.and_false]
  | true =>
    rw [if_pos rfl]
    simp only [Bool.true_and]
    by_cases c0 : p.f0 = q.f0
    · by_cases c1 : p.f1 = q.f1
      · by_cases c2 : p.f2 = q.f2
        · by_cases c3 : p.f3 = q.f3
          · by_cases c4 : p.f4 = q.f4
            · rw [if_pos c0, if_pos c1, if_pos c2, if_pos c3, if_pos c4, decide_eq_true c0, decide_eq_true c1, decide_eq_true c2, decide_eq_true c3, decide_eq_true c4]
              generalize (p.f5 == q.f5) = x
              cases x <;> rfl
            · rw [if_pos c0, if_pos c1, if_pos c2, if_pos c3, if_neg c4, decide_eq_true c0, decide_eq_true c1, decide_eq_true c2, decide_eq_true c3, decide_eq_false c4]
              rfl
          · rw [if_pos c0, if_pos c1, if_pos c2, if_neg c3, decide_eq_true c0, decide_eq_true c1, decide_eq_true c2, decide_eq_false c3]
            rfl
        · rw [if_pos c0, if_pos c1, if_neg c2, decide_eq_true c0, decide_eq_true c1, decide_eq_false c2]
          rfl
      · rw [if_pos c0, if_neg c1, decide_eq_true c0, decide_eq_false c1]
        rfl
    · rw [if_neg c0, decide_eq_false c0]
      rfl
theorem mayP_R (p : S41) : mayP p = decide (mayR p.f0 p.f1 p.f2 p.f3 p.f4 p.f6) := mayB_is ..
theorem flag_r (b : Bool) : stanchionref16_flag.f b = some (numS (flagI b).toNat) := by
  unfold stanchionref16_flag.f
  cases b with
  | true =>
    rw [if_pos rfl]
    refine congrArg some (bytes_ext ?_)
    rw [numS_data, show (flagI true).toNat = 1 from rfl, figL_small (by omega)]
    rfl
  | false =>
    rw [if_neg (by decide)]
    refine congrArg some (bytes_ext ?_)
    rw [numS_data, show (flagI false).toNat = 0 from rfl, figL_small (by omega)]
    rfl
theorem refreply_l0 (p : S41) (hl : p.f6.length ≤ 16) (ha : ∀ x ∈ p.f6, x.f0.size ≤ 32 ∧ x.f1.size ≤ 64) : ∀ (d i : Nat) (x : ByteArray) (k : Nat), p.f6.length - i = d → i ≤ p.f6.length → x.size + 102 * d ≤ 100000 → d < k →
    stanchionref16_Reply.l0 k x (i : Int) p.f0 p.f1 p.f2 p.f3 p.f4 p.f5 p.f6 p.f7 = some (x ++ encRows (p.f6.drop i), 0) := by
  intro d
  induction d with
  | zero =>
    intro i x k hd hi hx hk
    obtain ⟨k, rfl⟩ : ∃ j, k = j + 1 := ⟨k - 1, by omega⟩
    rw [stanchionref16_Reply.l0, if_neg (by omega), List.drop_eq_nil_of_le (by omega)]
    show _ = some (x ++ (⟨#[]⟩ : ByteArray), 0)
    rw [app_empty]
  | succ d ih =>
    intro i x k hd hi hx hk
    obtain ⟨k, rfl⟩ : ∃ j, k = j + 1 := ⟨k - 1, by omega⟩
    have hlt : i < p.f6.length := by omega
    obtain ⟨s1, s2⟩ := ha (p.f6[i]) (List.getElem_mem hlt)
    have k1 := text_size (p.f6[i]).f0 (by omega)
    have k2 := text_size (p.f6[i]).f1 s2
    have e := ih (i + 1) (x ++ textS (p.f6[i]).f0 ++ textS (p.f6[i]).f1) k (by omega) (by omega) (by simp only [ByteArray.size_append]; omega) (by omega)
    rw [stanchionref16_Reply.l0, if_pos (by omega), if_pos (by omega), rd_at p.f6 i hlt, text_r _ (by omega), bsp, if_pos (by omega), text_r _ s2, bsp, if_pos (by simp only [ByteArray.size_append]; omega), w_nat i (by omega), e, List.drop_eq_getElem_cons hlt]
    show _ = some (x ++ (textS (p.f6[i]).f0 ++ (textS (p.f6[i]).f1 ++ encRows (p.f6.drop (i + 1)))), 0)
    rw [asc, asc]
theorem refreply_f (k : Nat) (p : S41) (hl : p.f6.length ≤ 9223372036854775807) (hz : ∀ x ∈ p.f6, x.f0.size ≤ 9223372036854775807) (hk : p.f6.length + 2 * keys p.f6 + 30 ≤ k) :
    stanchionref16_Reply.f k p.f0 p.f1 p.f2 p.f3 p.f4 p.f5 p.f6 p.f7 = some (if mayP p = true then (encP p, 0) else (⟨#[]⟩, 1)) := by
  unfold stanchionref16_Reply.f
  rw [ref_mayReply k _ _ _ _ _ _ _ _ hl hz hk, bsp, ← mayP_R]
  by_cases hm : mayP p = true
  · rw [if_pos hm, if_pos hm]
    obtain ⟨p0, p1, p2, p3, p4, p5, p6⟩ := mayP_is hm
    have n0 := num_size p.f0 p0
    have n1 := num_size p.f1 p1
    have n2 := num_size p.f2 p2
    have n3 := num_size p.f3 (by omega)
    have n4 := text_size p.f4 (by omega)
    have b5 := flagI_01 p.f5
    have b7 := flagI_01 p.f7
    have n5 := num_size (flagI p.f5) (by omega)
    have n6 := num_size (flagI p.f7) (by omega)
    have n7 := num_size (p.f6.length : Int) (by omega)
    rw [num_r _ p0, bsp, num_r _ p1, bsp, if_pos (by omega), num_r _ p2, bsp, if_pos (by simp only [ByteArray.size_append]; omega), num_r _ (by omega), bsp, if_pos (by simp only [ByteArray.size_append]; omega), text_r _ (by omega), bsp, if_pos (by simp only [ByteArray.size_append]; omega), flag_r, bsp, if_pos (by simp only [ByteArray.size_append]; omega), flag_r, bsp, if_pos (by simp only [ByteArray.size_append]; omega), num_r _ (by omega), bsp, if_pos (by simp only [ByteArray.size_append]; omega)]
    have e3 := refreply_l0 p p5 p6 p.f6.length 0 (numS p.f0.toNat ++ numS p.f1.toNat ++ numS p.f2.toNat ++ numS p.f3.toNat ++ textS p.f4 ++ numS (flagI p.f5).toNat ++ numS (flagI p.f7).toNat ++ numS (p.f6.length : Int).toNat) k (by omega) (by omega) (by simp only [ByteArray.size_append]; omega) (by omega)
    rw [show ((0 : Nat) : Int) = 0 from rfl] at e3
    rw [e3, List.drop_zero]
    unfold encP
    simp only [asc]
  · rw [if_neg hm, if_neg hm]
theorem rr_step (l : List S74) (t s : ByteArray) (b : Bool) : rrStep (l, t, s, b) = tr (s, b) 32 fun k x => tr x 64 fun v y => (l ++ [⟨k, v⟩], v, y) := rfl
theorem rr_was (l : List S74) (t s : ByteArray) : (fun z : List S74 × ByteArray × ByteArray × Bool => z.2.2.2 = true → ∃ k v, z.1 = l ++ [⟨k, v⟩] ∧ s = textS k ++ (textS v ++ z.2.2.1)) (rrStep (l, t, s, true)) := by
  rw [rr_step]
  show tr (s, true) 32 fun k x => tr x 64 fun v y => (y.2 = true → ∃ k' v', l ++ [⟨k, v⟩] = l ++ [⟨k', v'⟩] ∧ s = textS k' ++ (textS v' ++ y.1))
  refine tr_rule (by simp only [tr_bad]; intro h; cases h) fun k r b e => ?_
  refine tr_rule (by intro h; cases h) fun v r' b' e' => ?_
  intro _
  exact ⟨k, v, rfl, by rw [e, e']⟩
theorem rr_rows (x : ByteArray × Bool) (i : Nat) : (rrI x i).2.2.2 = true → x.2 = true ∧ x.1 = encRows (rrI x i).1 ++ (rrI x i).2.2.1 := by
  induction i with
  | zero =>
    intro h
    refine ⟨h, ?_⟩
    show x.1 = (⟨#[]⟩ : ByteArray) ++ x.1
    apply bytes_ext
    simp only [data_append, List.nil_append]
  | succ i ih =>
    intro h
    have h' : (rrStep (rrI x i)).2.2.2 = true := h
    show x.2 = true ∧ x.1 = encRows (rrStep (rrI x i)).1 ++ (rrStep (rrI x i)).2.2.1
    generalize rrI x i = p at ih h'
    obtain ⟨l, t, s, b⟩ := p
    cases b with
    | false =>
      rw [rr_step] at h'
      simp only [tr_bad] at h'
      cases h'
    | true =>
      obtain ⟨h1, h2⟩ := ih rfl
      obtain ⟨k, v, e1, e2⟩ := rr_was l t s h'
      refine ⟨h1, ?_⟩
      rw [h2, e1, encRows_snoc, asc, asc]
      show encRows l ++ s = _
      exact congrArg (fun z => encRows l ++ z) e2
theorem rr_back (l : List S74) (ha : ∀ x ∈ l, x.f0.size ≤ 32 ∧ x.f1.size ≤ 64) (r : ByteArray) : ∀ i, i ≤ l.length → ∃ t, rrI (encRows l ++ r, true) i = (l.take i, t, encRows (l.drop i) ++ r, true) := by
  intro i
  induction i with
  | zero => exact fun _ => ⟨_, rfl⟩
  | succ i ih =>
    intro hi
    have hlt : i < l.length := by omega
    obtain ⟨s1, s2⟩ := ha l[i] (List.getElem_mem hlt)
    obtain ⟨t, e⟩ := ih (by omega)
    refine ⟨(l[i]).f1, ?_⟩
    show rrStep (rrI (encRows l ++ r, true) i) = _
    rw [e, rr_step, List.drop_eq_getElem_cons hlt]
    show tr ((textS (l[i]).f0 ++ (textS (l[i]).f1 ++ encRows (l.drop (i + 1)))) ++ r, true) 32 _ = _
    rw [asc, tr_back _ _ _ _ (by omega) (by omega), asc, tr_back _ _ _ _ (by omega) (by omega), List.take_succ_eq_append_getElem hlt]
def parsePR {α : Type} (x : ByteArray × Bool) (f : Int → Int → Int → Int → ByteArray → Int → Int → Int → ByteArray × Bool → α) : α :=
  nr x fun a1 x1 => nr x1 fun a2 x2 => nr x2 fun a3 x3 => nr x3 fun a4 x4 => tr x4 64 fun a5 x5 => nr x5 fun a6 x6 => nr x6 fun a7 x7 => nr x7 fun a8 x8 => f a1 a2 a3 a4 a5 a6 a7 a8 x8
theorem refRep_parse (s : ByteArray) : refRepF s = parsePR (s, true) fun a1 a2 a3 a4 a5 a6 a7 a8 x8 => if x8.2 = false ∨ 1 < a6 ∨ 1 < a7 ∨ 16 < a8 ∨ 16 < a4 then (z41, 3) else refP a1 a2 a3 a4 a5 (a6 == 1) (a7 == 1) (rrI x8 a8.toNat) := rfl
theorem parsePR_at (x : ByteArray × Bool) : ∃ a1 a2 a3 a4 a5 a6 a7 a8 z, ∀ {α : Type} (f : Int → Int → Int → Int → ByteArray → Int → Int → Int → ByteArray × Bool → α), parsePR x f = f a1 a2 a3 a4 a5 a6 a7 a8 z :=
  ⟨_, _, _, _, _, _, _, _, _, fun _ => rfl⟩
theorem parsePR_was (s : ByteArray) : parsePR (s, true) fun a1 a2 a3 a4 a5 a6 a7 a8 x => x.2 = true → (0 ≤ a6 ∧ 0 ≤ a7 ∧ 0 ≤ a8) ∧
    s = numS a1.toNat ++ (numS a2.toNat ++ (numS a3.toNat ++ (numS a4.toNat ++ (textS a5 ++ (numS a6.toNat ++ (numS a7.toNat ++ (numS a8.toNat ++ x.1))))))) := by
  unfold parsePR
  refine nr_rule (by simp only [nr_bad, tr_bad]; intro h; cases h) fun a0 r0 b0 e0 => ?_
  refine nr_rule (by simp only [nr_bad, tr_bad]; intro h; cases h) fun a1 r1 b1 e1 => ?_
  refine nr_rule (by simp only [nr_bad, tr_bad]; intro h; cases h) fun a2 r2 b2 e2 => ?_
  refine nr_rule (by simp only [nr_bad, tr_bad]; intro h; cases h) fun a3 r3 b3 e3 => ?_
  refine tr_rule (by simp only [nr_bad]; intro h; cases h) fun t r4 b4 e4 => ?_
  refine nr_rule (by simp only [nr_bad]; intro h; cases h) fun a5 r5 b5 e5 => ?_
  refine nr_rule (by simp only [nr_bad]; intro h; cases h) fun a6 r6 b6 e6 => ?_
  refine nr_rule (by intro h; cases h) fun a7 r7 b7 e7 => ?_
  intro _
  exact ⟨⟨b5.1, b6.1, b7.1⟩, by rw [e0, e1, e2, e3, e4, e5, e6, e7]⟩
theorem ref_rep (s : ByteArray) : (∃ p, mayP p = true ∧ s = encP p ∧ refRepF s = (p, 0)) ∨ refRepF s = (z41, 3) := by
  rw [refRep_parse]
  obtain ⟨a1, a2, a3, a4, a5, a6, a7, a8, x, hp⟩ := parsePR_at (s, true)
  have hw := parsePR_was s
  rw [hp] at hw
  rw [hp]
  by_cases hb : x.2 = false ∨ 1 < a6 ∨ 1 < a7 ∨ 16 < a8 ∨ 16 < a4
  · exact .inr (if_pos hb)
  rw [if_neg hb]
  unfold refP
  by_cases hx : (rrI x a8.toNat).2.2.2 = false
  · exact .inr (if_pos hx)
  rw [if_neg hx]
  by_cases hz : ¬ (rrI x a8.toNat).2.2.1.size = 0
  · exact .inr (if_pos hz)
  rw [if_neg hz]
  by_cases hm : mayR a1 a2 a3 a4 a5 (rrI x a8.toNat).1
  · rw [if_pos (decide_eq_true hm)]
    obtain ⟨w1, w2⟩ := rr_rows x a8.toNat (by simpa using hx)
    obtain ⟨⟨b6, b7, b8⟩, e⟩ := hw w1
    refine .inl ⟨⟨a1, a2, a3, a4, a5, a6 == 1, (rrI x a8.toNat).1, a7 == 1⟩, ?_, ?_, rfl⟩
    · rw [mayP_R]
      exact decide_eq_true hm
    · have el : ((rrI x a8.toNat).1.length : Int).toNat = a8.toNat := by
        rw [rrI_length, Int.toNat_natCast]
      rw [size_nil (Classical.not_not.mp hz), app_empty] at w2
      unfold encP
      dsimp only
      rw [flagI_of a6 (by omega), flagI_of a7 (by omega), el, ← w2]
      exact e
  · exact .inr (if_neg (fun h => hm (of_decide_eq_true h)))
theorem ref_p {p : S41} (hm : mayP p = true) : refRepF (encP p) = (p, 0) := by
  have hR := hm
  rw [mayP_R] at hR
  obtain ⟨p0, p1, p2, p3, p4, p5, p6⟩ := mayP_is hm
  have b5 := flagI_01 p.f5
  have b7 := flagI_01 p.f7
  obtain ⟨t, e⟩ := rr_back p.f6 p6 (⟨#[]⟩ : ByteArray) p.f6.length (Nat.le_refl _)
  rw [List.take_length, List.drop_length, app_empty] at e
  have el : encRows ([] : List S74) ++ (⟨#[]⟩ : ByteArray) = (⟨#[]⟩ : ByteArray) := app_empty _
  rw [el] at e
  rw [refRep_parse]
  unfold parsePR encP
  rw [nr_back _ _ _ p0, nr_back _ _ _ p1, nr_back _ _ _ p2, nr_back _ _ _ (by omega), tr_back _ _ _ _ (by omega) (by omega), nr_back _ _ _ (by omega), nr_back _ _ _ (by omega), nr_back _ _ _ (by omega)]
  dsimp only
  rw [if_neg (by
    rintro (h | h | h | h | h)
    · cases h
    · omega
    · omega
    · omega
    · omega), Int.toNat_natCast, e, flagI_is, flagI_is]
  unfold refP
  rw [if_neg (fun h => by cases h), if_neg (fun h => h rfl), if_pos hR]
theorem both_rep (s : ByteArray) : refRepF s = takeReplyF s := by
  rcases take_rep s with ⟨p, hm, e1, e2⟩ | e
  · rw [e2, e1, ref_p hm]
  · rcases ref_rep s with ⟨p, hm, e1, e2⟩ | e'
    · rw [e2, e1, take_p hm]
    · rw [e, e']
theorem reply_len (s : ByteArray) : (takeReplyF s).1.f6.length ≤ 16 := by
  rcases take_rep s with ⟨p, hm, _, e2⟩ | e
  · rw [e2]
    exact (mayP_is hm).2.2.2.2.2.1
  · rw [e]
    exact Nat.zero_le _
theorem Replies (a0 a1 a2 a3 : Int) (a4 : ByteArray) (a5 : Bool) (a6 : List S74) (a7 : Bool) (s : ByteArray) (b0 b1 b2 b3 : Int) (b4 : ByteArray) (b5 : Bool) (b6 : List S74) (b7 : Bool)
    (hw : a6.length ≤ 9223372036854775807 ∧ ∀ x ∈ a6, x.f0.size ≤ 9223372036854775807) (hs : s.size ≤ 9223372036854775807) :
    ∃ k, stanchionlaw16_WireReplies.f k a0 a1 a2 a3 a4 a5 a6 a7 s b0 b1 b2 b3 b4 b5 b6 b7 = some true := by
  refine ⟨(a6.length + 2 * keys a6 + 60) + 18, ?_⟩
  have hl : a6.length ≤ 9223372036854775807 := hw.1
  have hz : ∀ x ∈ a6, x.f0.size ≤ 9223372036854775807 := fun x hx => by
    have := hw.2 x hx
    omega
  have r1 := reply_f (a6.length + 2 * keys a6 + 60) ⟨a0, a1, a2, a3, a4, a5, a6, a7⟩
  have r2 := refreply_f ((a6.length + 2 * keys a6 + 60) + 18) ⟨a0, a1, a2, a3, a4, a5, a6, a7⟩ hl hz (by show a6.length + 2 * keys a6 + 30 ≤ _; omega)
  have r3 := same_f ((a6.length + 2 * keys a6 + 60) + 18) ⟨a0, a1, a2, a3, a4, a5, a6, a7⟩ ⟨b0, b1, b2, b3, b4, b5, b6, b7⟩ hl (by show a6.length < _; omega)
  have r4 := refsame_f ((a6.length + 2 * keys a6 + 60) + 18) ⟨a0, a1, a2, a3, a4, a5, a6, a7⟩ ⟨b0, b1, b2, b3, b4, b5, b6, b7⟩ hl (by show a6.length < _; omega)
  have r5 := same_f ((a6.length + 2 * keys a6 + 60) + 18) ⟨a0, a1, a2, a3, a4, a5, a6, a7⟩ ⟨a0, a1, a2, a3, a4, a5, a6, a7⟩ hl (by show a6.length < _; omega)
  have r6 := refsame_f ((a6.length + 2 * keys a6 + 60) + 18) (takeReplyF s).1 (takeReplyF s).1 (by have := reply_len s; omega) (by have := reply_len s; omega)
  rw [sameP_self] at r5 r6
  dsimp only at r1 r2 r3 r4 r5
  unfold stanchionlaw16_WireReplies.f wire_TakeReply.f stanchionref16_TakeReply.f
  rw [shown_f, bsp, r1, bsp, r2, bsp, if_pos (by omega), bsp, if_pos (by omega), bsp, both_rep]
  generalize takeReplyF s = R at r6
  unfold flatP
  dsimp only
  rw [r6, bsp, if_pos rfl, if_pos rfl, if_pos rfl, if_pos rfl, if_pos rfl, r3, bsp, r4, bsp, if_pos (beq_self_eq_true _), r5, bsp]
end Go.Proofs.YtlpcidjmaeicoaaDoor.Enc
namespace Go.Proofs.YtlpcidjmaeicoaaDoor.Laid
open Go Go.RowKit Go.ChangeShapes Go.WideShapes Go.ChangeAt
def list : List (String × DataW Unit) := [("errors.errorType", Rows.laid_errors_errorType)]
theorem et : Tryd.prog.globalNamed "errors.errorType" = some 0 := by kernel_rfl
theorem rt : (Tryd.prog.cutTypes.find? (·.1 == "internal/reflectlite.rtype")).map (·.2) = some 129 := by kernel_rfl
theorem oneRow : ((List.range 172).filter fun t => Tryd.prog.rowNamed t [101, 114, 114, 111, 114]) = [58] := by kernel_rfl
theorem size : Tryd.prog.types.size = 172 := by kernel_rfl
theorem handle_of_laid {W : World} (h : laidMetH Tryd.prog list W) : Reader.Handle W := by
  have h' : laidMet Tryd.prog [] W ∧ handlesMet Tryd.prog list W := h
  obtain ⟨name, u, ty, e1, e2, e3, e4, e5⟩ := h'.2 _ (List.mem_singleton.2 rfl)
  have en : name = [101, 114, 114, 111, 114] := (Option.some.inj e1).symm
  subst en
  obtain rfl := Option.some.inj (rt.symm.trans e2)
  have hm : ty ∈ (List.range 172).filter fun t => Tryd.prog.rowNamed t [101, 114, 114, 111, 114] := List.mem_filter.2 ⟨List.mem_range.2 (by rw [← size]; exact e3), e4⟩
  rw [oneRow] at hm
  obtain rfl := List.mem_singleton.1 hm
  have hh : typeHandle Tryd.prog 58 = .pointer (some ⟨1, 58, none⟩) := by kernel_rfl
  rw [hh] at e5
  unfold Reader.Handle
  simpa using World.var?_cell et e5 0
noncomputable def world (os : Os) : World :=
  { World.holding Tryd.prog os ⟨#[], #[], []⟩ with heap := (World.holding Tryd.prog os ⟨#[], #[], []⟩).heap.modify 0 fun
      | .cells _ t frozen => .cells #[.iface 129 (.agg #[.pointer (some ⟨1, 58, none⟩)])] t frozen
      | o => o }
theorem world_met (os : Os) (args : Array Value) : laidMetH Tryd.prog list ((world os).forCall (fun _ _ => 0) ⟨#[], args, []⟩).memory :=
  laidMetH_of_parts (laidMet_nil _ _) (by kernel_rfl)
end Go.Proofs.YtlpcidjmaeicoaaDoor.Laid
namespace Go.Proofs.YtlpcidjmaeicoaaDoor.wireReplies
open Go.ChangeShapes Go.WideShapes Go.ChangeAt Go.RowKit
open Go.ChangeMaps (open_string shut_string)
set_option linter.unusedVariables false
theorem len8 {α : Type} {l : List α} (h : l.length = 8) : ∃ a0 a1 a2 a3 a4 a5 a6 a7, l = [a0, a1, a2, a3, a4, a5, a6, a7] :=
  match l, h with
  | [a0, a1, a2, a3, a4, a5, a6, a7], _ => ⟨a0, a1, a2, a3, a4, a5, a6, a7, rfl⟩
theorem own : ownKnob Tryd.prog.godebug = none := by kernel_rfl
theorem laidOut : laidOutB Tryd.prog = true := by kernel_rfl
theorem c3 : Tryd.prog.cellsOf 3 = 1 := by kernel_rfl
theorem c4 : Tryd.prog.cellsOf 4 = 1 := by kernel_rfl
theorem c9 : Tryd.prog.cellsOf 9 = 1 := by kernel_rfl
theorem c27 : Tryd.prog.cellsOf 27 = 1 := by kernel_rfl
theorem c39 : Tryd.prog.cellsOf 39 = 1 := by kernel_rfl
theorem c41 : Tryd.prog.cellsOf 41 = 8 := by kernel_rfl
set_option maxRecDepth 100000 in
theorem contract (H : Type) (enc : TypeId × Value → H) (W : World) (base : Nat) (args : Array Value) (ds gs : List (DataW H)) (before : List MemPlace)
    (hval0 : ∀ (j : Nat) t v, Tryd.f5.params[j]? = some t → args[j]? = some v → Value.okWide Tryd.prog W .any base t v)
    (hW : DataW.Whole enc Tryd.prog Tryd.f5.params.toList Rows.wireRepliesSpec.vars false W args.toList ds gs before) (hL : laidMetH Tryd.prog Rows.wireRepliesRow.laid W) :
    Calls Tryd.prog 5 args W fun e W' => ∃ v, e = .returned v ∧ Rows.wireRepliesSpec.post enc Tryd.prog Tryd.f5 false true false false W args v W' := by
  have hval : ∀ (j : Nat) t v, Tryd.f5.params[j]? = some t → args[j]? = some v → Value.okWide Tryd.prog W .any base t v := hval0
  have hW' := hW
  obtain ⟨p, q, hA0, hV, rfl, hfz, hnd⟩ := hW
  have hA : DataW.TrodAll enc Tryd.prog W 0 (fun _ => true) true Tryd.f5.params.toList args.toList ds p := hA0
  rw [Tryd.params5] at hA hval
  obtain ⟨v0, vs0, d0, ds0, p0, q0, hargs, rfl, rfl, h0, r0⟩ := trodAll_cons hA
  obtain ⟨v1, vs1, d1, ds1, p1, q1, rfl, rfl, rfl, h1, r1⟩ := trodAll_cons r0
  obtain ⟨v2, vs2, d2, ds2, p2, q2, rfl, rfl, rfl, h2, r2⟩ := trodAll_cons r1
  obtain ⟨rfl, rfl, rfl⟩ := trodAll_nil r2
  obtain rfl : args = #[v0, v1, v2] := by cases args; simp_all
  obtain ⟨rfl, rfl⟩ := trodVars_none hV
  have h0k := h0
  obtain ⟨cs0, rfl, hs0⟩ := okWide_struct Tryd.underlying41 (hval 0 41 v0 rfl rfl)
  obtain ⟨lx0⟩ := cs0
  rw [c41] at hs0
  obtain ⟨c0_0c, c0_1c, c0_2c, c0_3c, c0_4c, c0_5c, c0_6c, c0_7c, rfl⟩ := len8 hs0
  obtain ⟨n0, f0⟩ := h0
  have f0x : DataW.trod enc Tryd.prog W 0 (fun _ => true) true n0 41 [c0_0c, c0_1c, c0_2c, c0_3c, c0_4c, c0_5c, c0_6c, c0_7c] = some (d0, p0) := f0
  obtain ⟨xs0, n0, _, ex0, _, hl0, hg0⟩ := DataW.trod_struct Tryd.underlying41 f0x
  obtain ⟨y0_0, y0_1, y0_2, y0_3, y0_4, y0_5, y0_6, y0_7, rfl⟩ := len8 hl0
  have eb0 := OpenRow.agg_bulk ex0
  simp only [Rows.uptoBulkAll, List.map_cons, List.map_nil] at eb0
  have g0_0 : DataW.trod enc Tryd.prog W 0 (fun _ => true) true n0 3 [c0_0c] = some y0_0 := by
    have z : DataW.trod enc Tryd.prog W 0 (fun _ => true) true n0 3 (([c0_0c, c0_1c, c0_2c, c0_3c, c0_4c, c0_5c, c0_6c, c0_7c].drop 0).take (Tryd.prog.cellsOf 3)) = [y0_0, y0_1, y0_2, y0_3, y0_4, y0_5, y0_6, y0_7][0]? := hg0 0 _ rfl
    rw [c3] at z
    exact z
  have g0_1 : DataW.trod enc Tryd.prog W 0 (fun _ => true) true n0 3 [c0_1c] = some y0_1 := by
    have z : DataW.trod enc Tryd.prog W 0 (fun _ => true) true n0 3 (([c0_0c, c0_1c, c0_2c, c0_3c, c0_4c, c0_5c, c0_6c, c0_7c].drop 1).take (Tryd.prog.cellsOf 3)) = [y0_0, y0_1, y0_2, y0_3, y0_4, y0_5, y0_6, y0_7][1]? := hg0 1 _ rfl
    rw [c3] at z
    exact z
  have g0_2 : DataW.trod enc Tryd.prog W 0 (fun _ => true) true n0 3 [c0_2c] = some y0_2 := by
    have z : DataW.trod enc Tryd.prog W 0 (fun _ => true) true n0 3 (([c0_0c, c0_1c, c0_2c, c0_3c, c0_4c, c0_5c, c0_6c, c0_7c].drop 2).take (Tryd.prog.cellsOf 3)) = [y0_0, y0_1, y0_2, y0_3, y0_4, y0_5, y0_6, y0_7][2]? := hg0 2 _ rfl
    rw [c3] at z
    exact z
  have g0_3 : DataW.trod enc Tryd.prog W 0 (fun _ => true) true n0 27 [c0_3c] = some y0_3 := by
    have z : DataW.trod enc Tryd.prog W 0 (fun _ => true) true n0 27 (([c0_0c, c0_1c, c0_2c, c0_3c, c0_4c, c0_5c, c0_6c, c0_7c].drop 3).take (Tryd.prog.cellsOf 27)) = [y0_0, y0_1, y0_2, y0_3, y0_4, y0_5, y0_6, y0_7][3]? := hg0 3 _ rfl
    rw [c27] at z
    exact z
  have g0_4 : DataW.trod enc Tryd.prog W 0 (fun _ => true) true n0 9 [c0_4c] = some y0_4 := by
    have z : DataW.trod enc Tryd.prog W 0 (fun _ => true) true n0 9 (([c0_0c, c0_1c, c0_2c, c0_3c, c0_4c, c0_5c, c0_6c, c0_7c].drop 4).take (Tryd.prog.cellsOf 9)) = [y0_0, y0_1, y0_2, y0_3, y0_4, y0_5, y0_6, y0_7][4]? := hg0 4 _ rfl
    rw [c9] at z
    exact z
  have g0_5 : DataW.trod enc Tryd.prog W 0 (fun _ => true) true n0 4 [c0_5c] = some y0_5 := by
    have z : DataW.trod enc Tryd.prog W 0 (fun _ => true) true n0 4 (([c0_0c, c0_1c, c0_2c, c0_3c, c0_4c, c0_5c, c0_6c, c0_7c].drop 5).take (Tryd.prog.cellsOf 4)) = [y0_0, y0_1, y0_2, y0_3, y0_4, y0_5, y0_6, y0_7][5]? := hg0 5 _ rfl
    rw [c4] at z
    exact z
  have g0_6 : DataW.trod enc Tryd.prog W 0 (fun _ => true) true n0 39 [c0_6c] = some y0_6 := by
    have z : DataW.trod enc Tryd.prog W 0 (fun _ => true) true n0 39 (([c0_0c, c0_1c, c0_2c, c0_3c, c0_4c, c0_5c, c0_6c, c0_7c].drop 6).take (Tryd.prog.cellsOf 39)) = [y0_0, y0_1, y0_2, y0_3, y0_4, y0_5, y0_6, y0_7][6]? := hg0 6 _ rfl
    rw [c39] at z
    exact z
  have g0_7 : DataW.trod enc Tryd.prog W 0 (fun _ => true) true n0 4 [c0_7c] = some y0_7 := by
    have z : DataW.trod enc Tryd.prog W 0 (fun _ => true) true n0 4 (([c0_0c, c0_1c, c0_2c, c0_3c, c0_4c, c0_5c, c0_6c, c0_7c].drop 7).take (Tryd.prog.cellsOf 4)) = [y0_0, y0_1, y0_2, y0_3, y0_4, y0_5, y0_6, y0_7][7]? := hg0 7 _ rfl
    rw [c4] at z
    exact z
  obtain ⟨a0_0, e0_0, q0_0, w0_0⟩ := DataW.trod_int Tryd.underlying3 g0_0
  simp only [List.cons.injEq, and_true] at e0_0
  subst e0_0
  obtain ⟨a0_1, e0_1, q0_1, w0_1⟩ := DataW.trod_int Tryd.underlying3 g0_1
  simp only [List.cons.injEq, and_true] at e0_1
  subst e0_1
  obtain ⟨a0_2, e0_2, q0_2, w0_2⟩ := DataW.trod_int Tryd.underlying3 g0_2
  simp only [List.cons.injEq, and_true] at e0_2
  subst e0_2
  obtain ⟨a0_3, e0_3, q0_3, w0_3⟩ := DataW.trod_int Tryd.underlying27 g0_3
  simp only [List.cons.injEq, and_true] at e0_3
  subst e0_3
  obtain ⟨a0_4, e0_4, q0_4, w0_4⟩ := DataW.trod_string Tryd.underlying9 g0_4
  simp only [List.cons.injEq, and_true] at e0_4
  subst e0_4
  have b0_4 := OpenRow.str_bulk q0_4
  obtain ⟨a0_5, e0_5, q0_5⟩ := DataW.trod_bool Tryd.underlying4 g0_5
  simp only [List.cons.injEq, and_true] at e0_5
  subst e0_5
  obtain ⟨A0_6, n0_6q, c0_6, es0_6⟩ := OpenRow.slice_value1 Tryd.underlying39 g0_6
  subst es0_6
  obtain ⟨l0_6, en0_6, hr0_6, hc0_6, b0_6, w0_6⟩ := OpenPairs.open_pairs g0_6
  subst en0_6
  obtain ⟨a0_7, e0_7, q0_7⟩ := DataW.trod_bool Tryd.underlying4 g0_7
  simp only [List.cons.injEq, and_true] at e0_7
  subst e0_7
  have h1k := h1
  obtain ⟨a1, rfl, rfl, rfl, y1⟩ := open_string Tryd.underlying9 (hval 1 9 v1 rfl rfl) h1
  have b1 := OpenRow.str_bulk0 (H := H) a1
  have h2k := h2
  obtain ⟨cs2, rfl, hs2⟩ := okWide_struct Tryd.underlying41 (hval 2 41 v2 rfl rfl)
  obtain ⟨lx2⟩ := cs2
  rw [c41] at hs2
  obtain ⟨c2_0c, c2_1c, c2_2c, c2_3c, c2_4c, c2_5c, c2_6c, c2_7c, rfl⟩ := len8 hs2
  obtain ⟨n2, f2⟩ := h2
  have f2x : DataW.trod enc Tryd.prog W 0 (fun _ => true) true n2 41 [c2_0c, c2_1c, c2_2c, c2_3c, c2_4c, c2_5c, c2_6c, c2_7c] = some (d2, p2) := f2
  obtain ⟨xs2, n2, _, ex2, _, hl2, hg2⟩ := DataW.trod_struct Tryd.underlying41 f2x
  obtain ⟨y2_0, y2_1, y2_2, y2_3, y2_4, y2_5, y2_6, y2_7, rfl⟩ := len8 hl2
  have eb2 := OpenRow.agg_bulk ex2
  simp only [Rows.uptoBulkAll, List.map_cons, List.map_nil] at eb2
  have g2_0 : DataW.trod enc Tryd.prog W 0 (fun _ => true) true n2 3 [c2_0c] = some y2_0 := by
    have z : DataW.trod enc Tryd.prog W 0 (fun _ => true) true n2 3 (([c2_0c, c2_1c, c2_2c, c2_3c, c2_4c, c2_5c, c2_6c, c2_7c].drop 0).take (Tryd.prog.cellsOf 3)) = [y2_0, y2_1, y2_2, y2_3, y2_4, y2_5, y2_6, y2_7][0]? := hg2 0 _ rfl
    rw [c3] at z
    exact z
  have g2_1 : DataW.trod enc Tryd.prog W 0 (fun _ => true) true n2 3 [c2_1c] = some y2_1 := by
    have z : DataW.trod enc Tryd.prog W 0 (fun _ => true) true n2 3 (([c2_0c, c2_1c, c2_2c, c2_3c, c2_4c, c2_5c, c2_6c, c2_7c].drop 1).take (Tryd.prog.cellsOf 3)) = [y2_0, y2_1, y2_2, y2_3, y2_4, y2_5, y2_6, y2_7][1]? := hg2 1 _ rfl
    rw [c3] at z
    exact z
  have g2_2 : DataW.trod enc Tryd.prog W 0 (fun _ => true) true n2 3 [c2_2c] = some y2_2 := by
    have z : DataW.trod enc Tryd.prog W 0 (fun _ => true) true n2 3 (([c2_0c, c2_1c, c2_2c, c2_3c, c2_4c, c2_5c, c2_6c, c2_7c].drop 2).take (Tryd.prog.cellsOf 3)) = [y2_0, y2_1, y2_2, y2_3, y2_4, y2_5, y2_6, y2_7][2]? := hg2 2 _ rfl
    rw [c3] at z
    exact z
  have g2_3 : DataW.trod enc Tryd.prog W 0 (fun _ => true) true n2 27 [c2_3c] = some y2_3 := by
    have z : DataW.trod enc Tryd.prog W 0 (fun _ => true) true n2 27 (([c2_0c, c2_1c, c2_2c, c2_3c, c2_4c, c2_5c, c2_6c, c2_7c].drop 3).take (Tryd.prog.cellsOf 27)) = [y2_0, y2_1, y2_2, y2_3, y2_4, y2_5, y2_6, y2_7][3]? := hg2 3 _ rfl
    rw [c27] at z
    exact z
  have g2_4 : DataW.trod enc Tryd.prog W 0 (fun _ => true) true n2 9 [c2_4c] = some y2_4 := by
    have z : DataW.trod enc Tryd.prog W 0 (fun _ => true) true n2 9 (([c2_0c, c2_1c, c2_2c, c2_3c, c2_4c, c2_5c, c2_6c, c2_7c].drop 4).take (Tryd.prog.cellsOf 9)) = [y2_0, y2_1, y2_2, y2_3, y2_4, y2_5, y2_6, y2_7][4]? := hg2 4 _ rfl
    rw [c9] at z
    exact z
  have g2_5 : DataW.trod enc Tryd.prog W 0 (fun _ => true) true n2 4 [c2_5c] = some y2_5 := by
    have z : DataW.trod enc Tryd.prog W 0 (fun _ => true) true n2 4 (([c2_0c, c2_1c, c2_2c, c2_3c, c2_4c, c2_5c, c2_6c, c2_7c].drop 5).take (Tryd.prog.cellsOf 4)) = [y2_0, y2_1, y2_2, y2_3, y2_4, y2_5, y2_6, y2_7][5]? := hg2 5 _ rfl
    rw [c4] at z
    exact z
  have g2_6 : DataW.trod enc Tryd.prog W 0 (fun _ => true) true n2 39 [c2_6c] = some y2_6 := by
    have z : DataW.trod enc Tryd.prog W 0 (fun _ => true) true n2 39 (([c2_0c, c2_1c, c2_2c, c2_3c, c2_4c, c2_5c, c2_6c, c2_7c].drop 6).take (Tryd.prog.cellsOf 39)) = [y2_0, y2_1, y2_2, y2_3, y2_4, y2_5, y2_6, y2_7][6]? := hg2 6 _ rfl
    rw [c39] at z
    exact z
  have g2_7 : DataW.trod enc Tryd.prog W 0 (fun _ => true) true n2 4 [c2_7c] = some y2_7 := by
    have z : DataW.trod enc Tryd.prog W 0 (fun _ => true) true n2 4 (([c2_0c, c2_1c, c2_2c, c2_3c, c2_4c, c2_5c, c2_6c, c2_7c].drop 7).take (Tryd.prog.cellsOf 4)) = [y2_0, y2_1, y2_2, y2_3, y2_4, y2_5, y2_6, y2_7][7]? := hg2 7 _ rfl
    rw [c4] at z
    exact z
  obtain ⟨a2_0, e2_0, q2_0, w2_0⟩ := DataW.trod_int Tryd.underlying3 g2_0
  simp only [List.cons.injEq, and_true] at e2_0
  subst e2_0
  obtain ⟨a2_1, e2_1, q2_1, w2_1⟩ := DataW.trod_int Tryd.underlying3 g2_1
  simp only [List.cons.injEq, and_true] at e2_1
  subst e2_1
  obtain ⟨a2_2, e2_2, q2_2, w2_2⟩ := DataW.trod_int Tryd.underlying3 g2_2
  simp only [List.cons.injEq, and_true] at e2_2
  subst e2_2
  obtain ⟨a2_3, e2_3, q2_3, w2_3⟩ := DataW.trod_int Tryd.underlying27 g2_3
  simp only [List.cons.injEq, and_true] at e2_3
  subst e2_3
  obtain ⟨a2_4, e2_4, q2_4, w2_4⟩ := DataW.trod_string Tryd.underlying9 g2_4
  simp only [List.cons.injEq, and_true] at e2_4
  subst e2_4
  have b2_4 := OpenRow.str_bulk q2_4
  obtain ⟨a2_5, e2_5, q2_5⟩ := DataW.trod_bool Tryd.underlying4 g2_5
  simp only [List.cons.injEq, and_true] at e2_5
  subst e2_5
  obtain ⟨A2_6, n2_6q, c2_6, es2_6⟩ := OpenRow.slice_value1 Tryd.underlying39 g2_6
  subst es2_6
  obtain ⟨l2_6, en2_6, hr2_6, hc2_6, b2_6, w2_6⟩ := OpenPairs.open_pairs g2_6
  subst en2_6
  obtain ⟨a2_7, e2_7, q2_7⟩ := DataW.trod_bool Tryd.underlying4 g2_7
  simp only [List.cons.injEq, and_true] at e2_7
  subst e2_7
  clear hA0 hval0
  have hlt0 : ∀ x ∈ p0, x.block < W.heap.size := by
    obtain ⟨m0, hm0⟩ := h0k
    exact DataW.trod_lt m0 _ _ _ hm0
  have hlt2 : ∀ x ∈ p2, x.block < W.heap.size := by
    obtain ⟨m2, hm2⟩ := h2k
    exact DataW.trod_lt m2 _ _ _ hm2
  obtain ⟨k, hk⟩ := Enc.Replies a0_0 a0_1 a0_2 a0_3 a0_4 a0_5 l0_6 a0_7 a1 a2_0 a2_1 a2_2 a2_3 a2_4 a2_5 l2_6 a2_7 w0_6 y1
  refine (QWi.stanchionlaw16_WireReplies.calls k a0_0 a0_1 a0_2 a0_3 a0_4 a0_5 A0_6 c0_6 l0_6 a0_7 a1 a2_0 a2_1 a2_2 a2_3 a2_4 a2_5 A2_6 c2_6 l2_6 a2_7 true W hr0_6 hc0_6 hr2_6 hc2_6 hk rfl (Laid.handle_of_laid hL)).mono fun e W' ⟨he, bel⟩ => ?_
  subst he
  exact ⟨_, rfl, _, _, _, [], _, [], hW', trodAll_mk1 (shut_bool Tryd.underlying4 _), (trodAll_cons_mk (Below.trod laidOut (by kernel_rfl) (of_decide_eq_true (by kernel_rfl)) h0k bel hlt0) (trodAll_cons_mk (shut_string Tryd.underlying9 y1) (trodAll_cons_mk (Below.trod laidOut (by kernel_rfl) (of_decide_eq_true (by kernel_rfl)) h2k bel hlt2) trodAll_mk0))), rfl, bel.frame _, fun h => by cases h⟩
theorem reads (os : Os) {H : Type} (enc : TypeId × Value → H) : ∃ places, DataW.whole enc Tryd.prog ((Laid.world os).forCall (fun _ _ => 0) ⟨#[], #[.agg #[.int .i64 0, .int .i64 0, .int .i64 0, .int .i64 0, .string ByteArray.empty, .bool false, .slice none 0 0, .bool false], .string ByteArray.empty, .agg #[.int .i64 0, .int .i64 0, .int .i64 0, .int .i64 0, .string ByteArray.empty, .bool false, .slice none 0 0, .bool false]], []⟩).memory Tryd.f5.params.toList Rows.wireRepliesSpec.vars false (#[.agg #[.int .i64 0, .int .i64 0, .int .i64 0, .int .i64 0, .string ByteArray.empty, .bool false, .slice none 0 0, .bool false], .string ByteArray.empty, .agg #[.int .i64 0, .int .i64 0, .int .i64 0, .int .i64 0, .string ByteArray.empty, .bool false, .slice none 0 0, .bool false]] : Array Value).toList 8 = some ([.agg [.lit (.int .i64 0), .lit (.int .i64 0), .lit (.int .i64 0), .lit (.int .i64 0), .lit (.string []), .lit (.bool false), .nil, .lit (.bool false)], .lit (.string []), .agg [.lit (.int .i64 0), .lit (.int .i64 0), .lit (.int .i64 0), .lit (.int .i64 0), .lit (.string []), .lit (.bool false), .nil, .lit (.bool false)]], [], places) :=
  ⟨[], by kernel_rfl⟩
set_option maxRecDepth 100000 in
theorem lifted (os : Os) (started : os.Started) (H : Type) (enc : TypeId × Value → H) (F : Stop.Interp) :
    ReturnsInHanded {} Tryd.checked os 5 .any ((OpenSpec.ofChange Rows.wireRepliesSpec).preRow enc Tryd.prog Tryd.f5 Rows.wireRepliesRow.domain false Rows.wireRepliesRow.laid) (((OpenSpec.ofChange Rows.wireRepliesSpec).at F).post enc Tryd.prog Tryd.f5 false true false false) := by
  obtain ⟨places, hx⟩ := reads os enc
  refine returnsInHanded_of_row (C := Tryd.checked) (s := OpenSpec.ofChange Rows.wireRepliesSpec) own started (by kernel_rfl) Tryd.func5
    (witness_row_at (enc := enc) (C := Tryd.checked) false (Laid.world os) #[.agg #[.int .i64 0, .int .i64 0, .int .i64 0, .int .i64 0, .string ByteArray.empty, .bool false, .slice none 0 0, .bool false], .string ByteArray.empty, .agg #[.int .i64 0, .int .i64 0, .int .i64 0, .int .i64 0, .string ByteArray.empty, .bool false, .slice none 0 0, .bool false]] rfl (by kernel_rfl) (by kernel_rfl) (by kernel_rfl)
      (OpenSpec.preRow_of_cond 8 hx (by kernel_rfl) (fun k hk => by cases hk) (by kernel_rfl) (Laid.world_met os _))) ?_
  intro W base args ds gs before hval hW _ _ _ hL _ _
  exact contract H enc W base args ds gs before hval hW hL
theorem said : Rows.WireRepliesSaid :=
  OpenClaim.holds_of_cond 5 Tryd.f5 rfl rfl rfl rfl rfl rfl rfl ⟨rfl, rfl, rfl, rfl, rfl⟩ rfl rfl rfl rfl rfl (by kernel_rfl) Tryd.func5 (by kernel_rfl)
    (of_decide_eq_true (by kernel_rfl)) (by unfold Func.isWrapper; first | (rw [if_pos (by decide +kernel)]; kernel_rfl) | (rw [if_neg (by decide +kernel)]; exact ⟨rfl, rfl⟩))
    (fun os started H enc _ F => by rw [OpenClaim.pre_eq_preRow]; exact lifted os started H enc F)
theorem plain (f : FuncId) (fn : Func) (hf : Tryd.pinned.checked.prog.funcNamed "stanchion/stanchionlaw16.WireReplies" = some f) (hfn : Tryd.pinned.checked.prog.funcs[f]? = some fn) :
    true = Tryd.pinned.checked.prog.looks [] ∧ ∀ (j : Nat) t, fn.params[j]? = some t → Tryd.pinned.checked.prog.wantsStandIn t = false := by
  obtain rfl : f = 5 := Option.some.inj ((show Tryd.prog.funcNamed "stanchion/stanchionlaw16.WireReplies" = some 5 by kernel_rfl).symm.trans hf) |>.symm
  obtain rfl : fn = Tryd.f5 := (Option.some.inj (Tryd.func5.symm.trans hfn)).symm
  refine ⟨by kernel_rfl, fun j t ht => ?_⟩
  rw [Tryd.params5] at ht
  have hm := Array.mem_of_getElem? ht
  simp only [List.mem_toArray, List.mem_cons, List.not_mem_nil, or_false] at hm
  rcases hm with rfl | rfl | rfl
  · exact (show Tryd.prog.wantsStandIn 41 = false by kernel_rfl)
  · exact (show Tryd.prog.wantsStandIn 9 = false by kernel_rfl)
  · exact (show Tryd.prog.wantsStandIn 41 = false by kernel_rfl)
theorem proved : Rows.WireRepliesCardSaid :=
  Claim7.holds_tied_plain_at .later [] _ _ _ _ said (fun _ h => by cases h) (by kernel_rfl) (fun _ h => by cases h) wireReplies_row_tie rfl ⟨rfl, rfl⟩ (by kernel_rfl) rfl plain (by kernel_rfl)
#print axioms proved
end Go.Proofs.YtlpcidjmaeicoaaDoor.wireReplies
namespace Go.Proofs.YtlpcidjmaeicoaaDoor
theorem wireReplies_card : Rows.WireRepliesCardSaid := wireReplies.proved
end Go.Proofs.YtlpcidjmaeicoaaDoor
