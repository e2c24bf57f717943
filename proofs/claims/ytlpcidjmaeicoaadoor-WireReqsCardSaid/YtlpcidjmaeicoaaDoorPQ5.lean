/- Which requests may be, their bytes, and the request of bytes, are as the document says, for every input (the statement WireReqs, as a card). Condition: the package variable errors.errorType holds what the program's text lays there (the given tie) (texts QWix11, QWixQ, Was, Enc, ReqP, EncR, ReqsP, OpenRow, Laid, UpWireReqs) -/
import Derived.Test.YtlpcidjmaeicoaaDoorRows
import Derived.SliceStrings
import Derived.ChangeSlices
import Derived.Test.YtlpcidjmaeicoaaDoorCards
import Derived.Test.YtlpcidjmaeicoaaDoorTie
import Derived.RowKit
import Derived.LaidLaws
import Derived.LaidHandle
import Derived.Deep.DeepHandedRow
import Derived.Lib.LaidTab
import Derived.WalkKit
import Derived.ProofKit
import Derived.OpenShut
import Derived.ShutString
import Derived.ChangeOld
import Derived.Below
import Derived.Carry
import Derived.SevenTiedAt
import Derived.Test.YtlpcidjmaeicoaaDoorPQ4
/-! QWix11 -/
namespace Go.Proofs.YtlpcidjmaeicoaaDoor.QWi
open Go.RowKit Go.Proofs.YtlpcidjmaeicoaaDoorW.PrintWords Go.Proofs.YtlpcidjmaeicoaaDoorW.PrintLast Go.Proofs.YtlpcidjmaeicoaaDoorW.PrintMore
attribute [local go_sem] max2_int min2_int max_two min_two max_three min_three max_four min_four   -- for this text's walks alone
set_option linter.unusedVariables false
set_option linter.unusedSimpArgs false

/-! ### stanchionref16_Req: function 10 -/
def stanchionref16_Req.f (k : Nat) (a0_0 : Int) (a0_1 : Int) (a0_2 : Int) (a0_3 : Int) (a0_4 : ByteArray) (a0_5 : Int) (a0_6 : ByteArray) (a0_7 : ByteArray) (a0_8 : ByteArray) (a0_9 : ByteArray) (a0_10 : Int) : Option (ByteArray × Int) := (stanchionref16_MayReq.f k a0_0 a0_1 a0_2 a0_3 a0_4 a0_5 a0_6 a0_7 a0_8 a0_9 a0_10).bind fun t168 => (if t168 = true then ((stanchionref16_num.f a0_0).bind fun t169 => ((stanchionref16_num.f a0_1).bind fun t170 => (if t169.size + t170.size ≤ 9223372036854775807 then ((stanchionref16_num.f a0_2).bind fun t171 => (if (t169 ++ t170).size + t171.size ≤ 9223372036854775807 then ((stanchionref16_num.f a0_3).bind fun t172 => (if ((t169 ++ t170) ++ t171).size + t172.size ≤ 9223372036854775807 then ((stanchionref16_text.f a0_4).bind fun t173 => (if (((t169 ++ t170) ++ t171) ++ t172).size + t173.size ≤ 9223372036854775807 then (if a0_0 = 5 then ((stanchionref16_num.f a0_5).bind fun t174 => (if ((((t169 ++ t170) ++ t171) ++ t172) ++ t173).size + t174.size ≤ 9223372036854775807 then ((stanchionref16_text.f a0_6).bind fun t175 => (if (((((t169 ++ t170) ++ t171) ++ t172) ++ t173) ++ t174).size + t175.size ≤ 9223372036854775807 then ((stanchionref16_text.f a0_7).bind fun t176 => (if ((((((t169 ++ t170) ++ t171) ++ t172) ++ t173) ++ t174) ++ t175).size + t176.size ≤ 9223372036854775807 then ((stanchionref16_text.f a0_8).bind fun t177 => (if (((((((t169 ++ t170) ++ t171) ++ t172) ++ t173) ++ t174) ++ t175) ++ t176).size + t177.size ≤ 9223372036854775807 then ((stanchionref16_text.f a0_9).bind fun t178 => (if ((((((((t169 ++ t170) ++ t171) ++ t172) ++ t173) ++ t174) ++ t175) ++ t176) ++ t177).size + t178.size ≤ 9223372036854775807 then ((stanchionref16_num.f a0_10).bind fun t179 => (if (((((((((t169 ++ t170) ++ t171) ++ t172) ++ t173) ++ t174) ++ t175) ++ t176) ++ t177) ++ t178).size + t179.size ≤ 9223372036854775807 then (some ((((((((((t169 ++ t170) ++ t171) ++ t172) ++ t173) ++ t174) ++ t175) ++ t176) ++ t177) ++ t178) ++ t179, 0)) else (none))) else (none))) else (none))) else (none))) else (none))) else (none))) else (some ((((t169 ++ t170) ++ t171) ++ t172) ++ t173, 0))) else (none))) else (none))) else (none))) else (none)))) else (some ((⟨#[]⟩ : ByteArray), 1)))
def stanchionref16_Req.T4 : Bool × List (List Nat × List Nat) := (true, [([], []), ([0], [0]), ([1], [1]), ([], []), ([3], [3]), ([4, 2], [4]), ([2, 5], [2, 5]), ([], []), ([7], [7]), ([8, 5], [8]), ([6, 9], [6, 9]), ([], []), ([11], [11]), ([12, 9], [12]), ([10, 13], [10, 13]), ([], []), ([15], [15]), ([16, 13], [16]), ([14, 17], [14, 17]), ([18, 17, 0, 1, 2, 3, 4, 5, 6, 7, 8, 9, 10, 11, 12, 13, 14, 15, 16, 17, 18], [18])])
def stanchionref16_Req.B4 : List Nat := [0, 1, 3, 0, 8, 31, 63, 0, 128, 447, 1023, 0, 2048, 7103, 16383, 0, 32768, 113599, 262143, 524287]
theorem stanchionref16_Req.tab4 : rtab .any (opsOf Tryd.f10 4) = stanchionref16_Req.T4 := by kernel_rfl
theorem stanchionref16_Req.bits4 : waitsOk stanchionref16_Req.T4.2 stanchionref16_Req.B4 = true := by kernel_rfl
def stanchionref16_Req.T6 : Bool × List (List Nat × List Nat) := (true, [([], []), ([], []), ([1], [1]), ([2], [2]), ([3], [3]), ([0, 4], [0, 4]), ([], []), ([6], [6]), ([7], [7]), ([8, 4], [8]), ([5, 9], [5, 9]), ([], []), ([11], [11]), ([12], [12]), ([13, 9], [13]), ([10, 14], [10, 14]), ([], []), ([16], [16]), ([17], [17]), ([18, 14], [18]), ([15, 19], [15, 19]), ([], []), ([21], [21]), ([22], [22]), ([23, 19], [23]), ([20, 24], [20, 24]), ([], []), ([26], [26]), ([27], [27]), ([28, 24], [28]), ([25, 29], [25, 29]), ([30, 29, 0, 1, 2, 3, 4, 5, 6, 7, 8, 9, 10, 11, 12, 13, 14, 15, 16, 17, 18, 19, 20, 21, 22, 23, 24, 25, 26, 27, 28, 29, 30], [0, 30])])
def stanchionref16_Req.B6 : List Nat := [0, 0, 2, 6, 14, 31, 0, 64, 192, 478, 1023, 0, 2048, 6144, 15326, 32767, 0, 65536, 196608, 490462, 1048575, 0, 2097152, 6291456, 15694814, 33554431, 0, 67108864, 201326592, 502234078, 1073741823, 2147483647]
theorem stanchionref16_Req.tab6 : rtab .any (opsOf Tryd.f10 6) = stanchionref16_Req.T6 := by kernel_rfl
theorem stanchionref16_Req.bits6 : waitsOk stanchionref16_Req.T6.2 stanchionref16_Req.B6 = true := by kernel_rfl
set_option maxHeartbeats 8000000 in
set_option maxRecDepth 100000 in
theorem stanchionref16_Req.calls (k : Nat) (a0_0 : Int) (a0_1 : Int) (a0_2 : Int) (a0_3 : Int) (a0_4 : ByteArray) (a0_5 : Int) (a0_6 : ByteArray) (a0_7 : ByteArray) (a0_8 : ByteArray) (a0_9 : ByteArray) (a0_10 : Int) (r1 : ByteArray) (r2 : Int) (w : World) (h : stanchionref16_Req.f k a0_0 a0_1 a0_2 a0_3 a0_4 a0_5 a0_6 a0_7 a0_8 a0_9 a0_10 = some (r1, r2)) :
    Calls Tryd.prog 10 #[.agg #[.int .i64 a0_0, .int .i64 a0_1, .int .i64 a0_2, .int .i64 a0_3, .string a0_4, .int .i64 a0_5, .string a0_6, .string a0_7, .string a0_8, .string a0_9, .int .i64 a0_10]] w fun e w' => e = .returned (.tuple #[.string r1, .int .i64 r2]) ∧ Below w.heap.size w w' := by
  have hu25 := Tryd.underlying25
  have HB := Aside0.mk (Below.refl w.heap.size w)
  have H : ((stanchionref16_MayReq.f k a0_0 a0_1 a0_2 a0_3 a0_4 a0_5 a0_6 a0_7 a0_8 a0_9 a0_10).bind fun t168 => (if t168 = true then ((stanchionref16_num.f a0_0).bind fun t169 => ((stanchionref16_num.f a0_1).bind fun t170 => (if t169.size + t170.size ≤ 9223372036854775807 then ((stanchionref16_num.f a0_2).bind fun t171 => (if (t169 ++ t170).size + t171.size ≤ 9223372036854775807 then ((stanchionref16_num.f a0_3).bind fun t172 => (if ((t169 ++ t170) ++ t171).size + t172.size ≤ 9223372036854775807 then ((stanchionref16_text.f a0_4).bind fun t173 => (if (((t169 ++ t170) ++ t171) ++ t172).size + t173.size ≤ 9223372036854775807 then (if a0_0 = 5 then ((stanchionref16_num.f a0_5).bind fun t174 => (if ((((t169 ++ t170) ++ t171) ++ t172) ++ t173).size + t174.size ≤ 9223372036854775807 then ((stanchionref16_text.f a0_6).bind fun t175 => (if (((((t169 ++ t170) ++ t171) ++ t172) ++ t173) ++ t174).size + t175.size ≤ 9223372036854775807 then ((stanchionref16_text.f a0_7).bind fun t176 => (if ((((((t169 ++ t170) ++ t171) ++ t172) ++ t173) ++ t174) ++ t175).size + t176.size ≤ 9223372036854775807 then ((stanchionref16_text.f a0_8).bind fun t177 => (if (((((((t169 ++ t170) ++ t171) ++ t172) ++ t173) ++ t174) ++ t175) ++ t176).size + t177.size ≤ 9223372036854775807 then ((stanchionref16_text.f a0_9).bind fun t178 => (if ((((((((t169 ++ t170) ++ t171) ++ t172) ++ t173) ++ t174) ++ t175) ++ t176) ++ t177).size + t178.size ≤ 9223372036854775807 then ((stanchionref16_num.f a0_10).bind fun t179 => (if (((((((((t169 ++ t170) ++ t171) ++ t172) ++ t173) ++ t174) ++ t175) ++ t176) ++ t177) ++ t178).size + t179.size ≤ 9223372036854775807 then (some ((((((((((t169 ++ t170) ++ t171) ++ t172) ++ t173) ++ t174) ++ t175) ++ t176) ++ t177) ++ t178) ++ t179, 0)) else (none))) else (none))) else (none))) else (none))) else (none))) else (none))) else (some ((((t169 ++ t170) ++ t171) ++ t172) ++ t173, 0))) else (none))) else (none))) else (none))) else (none)))) else (some ((⟨#[]⟩ : ByteArray), 1)))) = some (r1, r2) := h
  clear h
  replace H := Option.bind_eq_some_iff.mp H
  obtain ⟨t168, A20, H⟩ := H
  replace H : (if t168 = true then ((stanchionref16_num.f a0_0).bind fun t169 => ((stanchionref16_num.f a0_1).bind fun t170 => (if t169.size + t170.size ≤ 9223372036854775807 then ((stanchionref16_num.f a0_2).bind fun t171 => (if (t169 ++ t170).size + t171.size ≤ 9223372036854775807 then ((stanchionref16_num.f a0_3).bind fun t172 => (if ((t169 ++ t170) ++ t171).size + t172.size ≤ 9223372036854775807 then ((stanchionref16_text.f a0_4).bind fun t173 => (if (((t169 ++ t170) ++ t171) ++ t172).size + t173.size ≤ 9223372036854775807 then (if a0_0 = 5 then ((stanchionref16_num.f a0_5).bind fun t174 => (if ((((t169 ++ t170) ++ t171) ++ t172) ++ t173).size + t174.size ≤ 9223372036854775807 then ((stanchionref16_text.f a0_6).bind fun t175 => (if (((((t169 ++ t170) ++ t171) ++ t172) ++ t173) ++ t174).size + t175.size ≤ 9223372036854775807 then ((stanchionref16_text.f a0_7).bind fun t176 => (if ((((((t169 ++ t170) ++ t171) ++ t172) ++ t173) ++ t174) ++ t175).size + t176.size ≤ 9223372036854775807 then ((stanchionref16_text.f a0_8).bind fun t177 => (if (((((((t169 ++ t170) ++ t171) ++ t172) ++ t173) ++ t174) ++ t175) ++ t176).size + t177.size ≤ 9223372036854775807 then ((stanchionref16_text.f a0_9).bind fun t178 => (if ((((((((t169 ++ t170) ++ t171) ++ t172) ++ t173) ++ t174) ++ t175) ++ t176) ++ t177).size + t178.size ≤ 9223372036854775807 then ((stanchionref16_num.f a0_10).bind fun t179 => (if (((((((((t169 ++ t170) ++ t171) ++ t172) ++ t173) ++ t174) ++ t175) ++ t176) ++ t177) ++ t178).size + t179.size ≤ 9223372036854775807 then (some ((((((((((t169 ++ t170) ++ t171) ++ t172) ++ t173) ++ t174) ++ t175) ++ t176) ++ t177) ++ t178) ++ t179, 0)) else (none))) else (none))) else (none))) else (none))) else (none))) else (none))) else (some ((((t169 ++ t170) ++ t171) ++ t172) ++ t173, 0))) else (none))) else (none))) else (none))) else (none)))) else (some ((⟨#[]⟩ : ByteArray), 1))) = some (r1, r2) := H
  have A2 := Aside0.mk A20
  clear A20
  by_cases c3 : t168 = true
  · subst c3
    have H1 : ((stanchionref16_num.f a0_0).bind fun t169 => ((stanchionref16_num.f a0_1).bind fun t170 => (if t169.size + t170.size ≤ 9223372036854775807 then ((stanchionref16_num.f a0_2).bind fun t171 => (if (t169 ++ t170).size + t171.size ≤ 9223372036854775807 then ((stanchionref16_num.f a0_3).bind fun t172 => (if ((t169 ++ t170) ++ t171).size + t172.size ≤ 9223372036854775807 then ((stanchionref16_text.f a0_4).bind fun t173 => (if (((t169 ++ t170) ++ t171) ++ t172).size + t173.size ≤ 9223372036854775807 then (if a0_0 = 5 then ((stanchionref16_num.f a0_5).bind fun t174 => (if ((((t169 ++ t170) ++ t171) ++ t172) ++ t173).size + t174.size ≤ 9223372036854775807 then ((stanchionref16_text.f a0_6).bind fun t175 => (if (((((t169 ++ t170) ++ t171) ++ t172) ++ t173) ++ t174).size + t175.size ≤ 9223372036854775807 then ((stanchionref16_text.f a0_7).bind fun t176 => (if ((((((t169 ++ t170) ++ t171) ++ t172) ++ t173) ++ t174) ++ t175).size + t176.size ≤ 9223372036854775807 then ((stanchionref16_text.f a0_8).bind fun t177 => (if (((((((t169 ++ t170) ++ t171) ++ t172) ++ t173) ++ t174) ++ t175) ++ t176).size + t177.size ≤ 9223372036854775807 then ((stanchionref16_text.f a0_9).bind fun t178 => (if ((((((((t169 ++ t170) ++ t171) ++ t172) ++ t173) ++ t174) ++ t175) ++ t176) ++ t177).size + t178.size ≤ 9223372036854775807 then ((stanchionref16_num.f a0_10).bind fun t179 => (if (((((((((t169 ++ t170) ++ t171) ++ t172) ++ t173) ++ t174) ++ t175) ++ t176) ++ t177) ++ t178).size + t179.size ≤ 9223372036854775807 then (some ((((((((((t169 ++ t170) ++ t171) ++ t172) ++ t173) ++ t174) ++ t175) ++ t176) ++ t177) ++ t178) ++ t179, 0)) else (none))) else (none))) else (none))) else (none))) else (none))) else (none))) else (some ((((t169 ++ t170) ++ t171) ++ t172) ++ t173, 0))) else (none))) else (none))) else (none))) else (none)))) = some (r1, r2) := by rw [if_pos rfl] at H; exact H
    clear H
    have H := H1
    clear H1
    replace H := Option.bind_eq_some_iff.mp H
    obtain ⟨t169, A40, H⟩ := H
    replace H : ((stanchionref16_num.f a0_1).bind fun t170 => (if t169.size + t170.size ≤ 9223372036854775807 then ((stanchionref16_num.f a0_2).bind fun t171 => (if (t169 ++ t170).size + t171.size ≤ 9223372036854775807 then ((stanchionref16_num.f a0_3).bind fun t172 => (if ((t169 ++ t170) ++ t171).size + t172.size ≤ 9223372036854775807 then ((stanchionref16_text.f a0_4).bind fun t173 => (if (((t169 ++ t170) ++ t171) ++ t172).size + t173.size ≤ 9223372036854775807 then (if a0_0 = 5 then ((stanchionref16_num.f a0_5).bind fun t174 => (if ((((t169 ++ t170) ++ t171) ++ t172) ++ t173).size + t174.size ≤ 9223372036854775807 then ((stanchionref16_text.f a0_6).bind fun t175 => (if (((((t169 ++ t170) ++ t171) ++ t172) ++ t173) ++ t174).size + t175.size ≤ 9223372036854775807 then ((stanchionref16_text.f a0_7).bind fun t176 => (if ((((((t169 ++ t170) ++ t171) ++ t172) ++ t173) ++ t174) ++ t175).size + t176.size ≤ 9223372036854775807 then ((stanchionref16_text.f a0_8).bind fun t177 => (if (((((((t169 ++ t170) ++ t171) ++ t172) ++ t173) ++ t174) ++ t175) ++ t176).size + t177.size ≤ 9223372036854775807 then ((stanchionref16_text.f a0_9).bind fun t178 => (if ((((((((t169 ++ t170) ++ t171) ++ t172) ++ t173) ++ t174) ++ t175) ++ t176) ++ t177).size + t178.size ≤ 9223372036854775807 then ((stanchionref16_num.f a0_10).bind fun t179 => (if (((((((((t169 ++ t170) ++ t171) ++ t172) ++ t173) ++ t174) ++ t175) ++ t176) ++ t177) ++ t178).size + t179.size ≤ 9223372036854775807 then (some ((((((((((t169 ++ t170) ++ t171) ++ t172) ++ t173) ++ t174) ++ t175) ++ t176) ++ t177) ++ t178) ++ t179, 0)) else (none))) else (none))) else (none))) else (none))) else (none))) else (none))) else (some ((((t169 ++ t170) ++ t171) ++ t172) ++ t173, 0))) else (none))) else (none))) else (none))) else (none))) = some (r1, r2) := H
    have A4 := Aside0.mk A40
    clear A40
    replace H := Option.bind_eq_some_iff.mp H
    obtain ⟨t170, A50, H⟩ := H
    replace H : (if t169.size + t170.size ≤ 9223372036854775807 then ((stanchionref16_num.f a0_2).bind fun t171 => (if (t169 ++ t170).size + t171.size ≤ 9223372036854775807 then ((stanchionref16_num.f a0_3).bind fun t172 => (if ((t169 ++ t170) ++ t171).size + t172.size ≤ 9223372036854775807 then ((stanchionref16_text.f a0_4).bind fun t173 => (if (((t169 ++ t170) ++ t171) ++ t172).size + t173.size ≤ 9223372036854775807 then (if a0_0 = 5 then ((stanchionref16_num.f a0_5).bind fun t174 => (if ((((t169 ++ t170) ++ t171) ++ t172) ++ t173).size + t174.size ≤ 9223372036854775807 then ((stanchionref16_text.f a0_6).bind fun t175 => (if (((((t169 ++ t170) ++ t171) ++ t172) ++ t173) ++ t174).size + t175.size ≤ 9223372036854775807 then ((stanchionref16_text.f a0_7).bind fun t176 => (if ((((((t169 ++ t170) ++ t171) ++ t172) ++ t173) ++ t174) ++ t175).size + t176.size ≤ 9223372036854775807 then ((stanchionref16_text.f a0_8).bind fun t177 => (if (((((((t169 ++ t170) ++ t171) ++ t172) ++ t173) ++ t174) ++ t175) ++ t176).size + t177.size ≤ 9223372036854775807 then ((stanchionref16_text.f a0_9).bind fun t178 => (if ((((((((t169 ++ t170) ++ t171) ++ t172) ++ t173) ++ t174) ++ t175) ++ t176) ++ t177).size + t178.size ≤ 9223372036854775807 then ((stanchionref16_num.f a0_10).bind fun t179 => (if (((((((((t169 ++ t170) ++ t171) ++ t172) ++ t173) ++ t174) ++ t175) ++ t176) ++ t177) ++ t178).size + t179.size ≤ 9223372036854775807 then (some ((((((((((t169 ++ t170) ++ t171) ++ t172) ++ t173) ++ t174) ++ t175) ++ t176) ++ t177) ++ t178) ++ t179, 0)) else (none))) else (none))) else (none))) else (none))) else (none))) else (none))) else (some ((((t169 ++ t170) ++ t171) ++ t172) ++ t173, 0))) else (none))) else (none))) else (none))) else (none)) = some (r1, r2) := H
    have A5 := Aside0.mk A50
    clear A50
    by_cases c6 : t169.size + t170.size ≤ 9223372036854775807
    · rw [if_pos c6] at H
      have c6b0 := eq_true c6
      have c6b1 : decide (t169.size + t170.size ≤ 9223372036854775807) = true := decide_eq_true c6
      try have c6b2 : (9223372036854775807 < t169.size + t170.size) = False := eq_false (Nat.not_lt.2 c6)
      replace H := Option.bind_eq_some_iff.mp H
      obtain ⟨t171, A70, H⟩ := H
      replace H : (if (t169 ++ t170).size + t171.size ≤ 9223372036854775807 then ((stanchionref16_num.f a0_3).bind fun t172 => (if ((t169 ++ t170) ++ t171).size + t172.size ≤ 9223372036854775807 then ((stanchionref16_text.f a0_4).bind fun t173 => (if (((t169 ++ t170) ++ t171) ++ t172).size + t173.size ≤ 9223372036854775807 then (if a0_0 = 5 then ((stanchionref16_num.f a0_5).bind fun t174 => (if ((((t169 ++ t170) ++ t171) ++ t172) ++ t173).size + t174.size ≤ 9223372036854775807 then ((stanchionref16_text.f a0_6).bind fun t175 => (if (((((t169 ++ t170) ++ t171) ++ t172) ++ t173) ++ t174).size + t175.size ≤ 9223372036854775807 then ((stanchionref16_text.f a0_7).bind fun t176 => (if ((((((t169 ++ t170) ++ t171) ++ t172) ++ t173) ++ t174) ++ t175).size + t176.size ≤ 9223372036854775807 then ((stanchionref16_text.f a0_8).bind fun t177 => (if (((((((t169 ++ t170) ++ t171) ++ t172) ++ t173) ++ t174) ++ t175) ++ t176).size + t177.size ≤ 9223372036854775807 then ((stanchionref16_text.f a0_9).bind fun t178 => (if ((((((((t169 ++ t170) ++ t171) ++ t172) ++ t173) ++ t174) ++ t175) ++ t176) ++ t177).size + t178.size ≤ 9223372036854775807 then ((stanchionref16_num.f a0_10).bind fun t179 => (if (((((((((t169 ++ t170) ++ t171) ++ t172) ++ t173) ++ t174) ++ t175) ++ t176) ++ t177) ++ t178).size + t179.size ≤ 9223372036854775807 then (some ((((((((((t169 ++ t170) ++ t171) ++ t172) ++ t173) ++ t174) ++ t175) ++ t176) ++ t177) ++ t178) ++ t179, 0)) else (none))) else (none))) else (none))) else (none))) else (none))) else (none))) else (some ((((t169 ++ t170) ++ t171) ++ t172) ++ t173, 0))) else (none))) else (none))) else (none)) = some (r1, r2) := H
      have A7 := Aside0.mk A70
      clear A70
      by_cases c8 : (t169 ++ t170).size + t171.size ≤ 9223372036854775807
      · rw [if_pos c8] at H
        have c8b0 := eq_true c8
        have c8b1 : decide ((t169 ++ t170).size + t171.size ≤ 9223372036854775807) = true := decide_eq_true c8
        try have c8b2 : (9223372036854775807 < (t169 ++ t170).size + t171.size) = False := eq_false (Nat.not_lt.2 c8)
        try have c8b9 : (9223372036854775807 < t169.size + t170.size + t171.size) = False := by first | (rw [← ByteArray.size_append]; exact c8b2) | (have h9 := c8b2; simp only [ByteArray.size_append] at h9 ⊢; exact h9)
        replace H := Option.bind_eq_some_iff.mp H
        obtain ⟨t172, A90, H⟩ := H
        replace H : (if ((t169 ++ t170) ++ t171).size + t172.size ≤ 9223372036854775807 then ((stanchionref16_text.f a0_4).bind fun t173 => (if (((t169 ++ t170) ++ t171) ++ t172).size + t173.size ≤ 9223372036854775807 then (if a0_0 = 5 then ((stanchionref16_num.f a0_5).bind fun t174 => (if ((((t169 ++ t170) ++ t171) ++ t172) ++ t173).size + t174.size ≤ 9223372036854775807 then ((stanchionref16_text.f a0_6).bind fun t175 => (if (((((t169 ++ t170) ++ t171) ++ t172) ++ t173) ++ t174).size + t175.size ≤ 9223372036854775807 then ((stanchionref16_text.f a0_7).bind fun t176 => (if ((((((t169 ++ t170) ++ t171) ++ t172) ++ t173) ++ t174) ++ t175).size + t176.size ≤ 9223372036854775807 then ((stanchionref16_text.f a0_8).bind fun t177 => (if (((((((t169 ++ t170) ++ t171) ++ t172) ++ t173) ++ t174) ++ t175) ++ t176).size + t177.size ≤ 9223372036854775807 then ((stanchionref16_text.f a0_9).bind fun t178 => (if ((((((((t169 ++ t170) ++ t171) ++ t172) ++ t173) ++ t174) ++ t175) ++ t176) ++ t177).size + t178.size ≤ 9223372036854775807 then ((stanchionref16_num.f a0_10).bind fun t179 => (if (((((((((t169 ++ t170) ++ t171) ++ t172) ++ t173) ++ t174) ++ t175) ++ t176) ++ t177) ++ t178).size + t179.size ≤ 9223372036854775807 then (some ((((((((((t169 ++ t170) ++ t171) ++ t172) ++ t173) ++ t174) ++ t175) ++ t176) ++ t177) ++ t178) ++ t179, 0)) else (none))) else (none))) else (none))) else (none))) else (none))) else (none))) else (some ((((t169 ++ t170) ++ t171) ++ t172) ++ t173, 0))) else (none))) else (none)) = some (r1, r2) := H
        have A9 := Aside0.mk A90
        clear A90
        by_cases c10 : ((t169 ++ t170) ++ t171).size + t172.size ≤ 9223372036854775807
        · rw [if_pos c10] at H
          have c10b0 := eq_true c10
          have c10b1 : decide (((t169 ++ t170) ++ t171).size + t172.size ≤ 9223372036854775807) = true := decide_eq_true c10
          try have c10b2 : (9223372036854775807 < ((t169 ++ t170) ++ t171).size + t172.size) = False := eq_false (Nat.not_lt.2 c10)
          try have c10b9 : (9223372036854775807 < t169.size + t170.size + t171.size + t172.size) = False := by first | (rw [← ByteArray.size_append]; exact c10b2) | (have h9 := c10b2; simp only [ByteArray.size_append] at h9 ⊢; exact h9)
          replace H := Option.bind_eq_some_iff.mp H
          obtain ⟨t173, A110, H⟩ := H
          replace H : (if (((t169 ++ t170) ++ t171) ++ t172).size + t173.size ≤ 9223372036854775807 then (if a0_0 = 5 then ((stanchionref16_num.f a0_5).bind fun t174 => (if ((((t169 ++ t170) ++ t171) ++ t172) ++ t173).size + t174.size ≤ 9223372036854775807 then ((stanchionref16_text.f a0_6).bind fun t175 => (if (((((t169 ++ t170) ++ t171) ++ t172) ++ t173) ++ t174).size + t175.size ≤ 9223372036854775807 then ((stanchionref16_text.f a0_7).bind fun t176 => (if ((((((t169 ++ t170) ++ t171) ++ t172) ++ t173) ++ t174) ++ t175).size + t176.size ≤ 9223372036854775807 then ((stanchionref16_text.f a0_8).bind fun t177 => (if (((((((t169 ++ t170) ++ t171) ++ t172) ++ t173) ++ t174) ++ t175) ++ t176).size + t177.size ≤ 9223372036854775807 then ((stanchionref16_text.f a0_9).bind fun t178 => (if ((((((((t169 ++ t170) ++ t171) ++ t172) ++ t173) ++ t174) ++ t175) ++ t176) ++ t177).size + t178.size ≤ 9223372036854775807 then ((stanchionref16_num.f a0_10).bind fun t179 => (if (((((((((t169 ++ t170) ++ t171) ++ t172) ++ t173) ++ t174) ++ t175) ++ t176) ++ t177) ++ t178).size + t179.size ≤ 9223372036854775807 then (some ((((((((((t169 ++ t170) ++ t171) ++ t172) ++ t173) ++ t174) ++ t175) ++ t176) ++ t177) ++ t178) ++ t179, 0)) else (none))) else (none))) else (none))) else (none))) else (none))) else (none))) else (some ((((t169 ++ t170) ++ t171) ++ t172) ++ t173, 0))) else (none)) = some (r1, r2) := H
          have A11 := Aside0.mk A110
          clear A110
          by_cases c12 : (((t169 ++ t170) ++ t171) ++ t172).size + t173.size ≤ 9223372036854775807
          · rw [if_pos c12] at H
            have c12b0 := eq_true c12
            have c12b1 : decide ((((t169 ++ t170) ++ t171) ++ t172).size + t173.size ≤ 9223372036854775807) = true := decide_eq_true c12
            try have c12b2 : (9223372036854775807 < (((t169 ++ t170) ++ t171) ++ t172).size + t173.size) = False := eq_false (Nat.not_lt.2 c12)
            try have c12b9 : (9223372036854775807 < t169.size + t170.size + t171.size + t172.size + t173.size) = False := by first | (rw [← ByteArray.size_append]; exact c12b2) | (have h9 := c12b2; simp only [ByteArray.size_append] at h9 ⊢; exact h9)
            by_cases c13 : a0_0 = 5
            · rw [if_pos c13] at H
              have c13b0 : (a0_0 == 5) = true := beq_iff_eq.mpr c13
              have c13b1 : (a0_0 != 5) = false := bne_eq_false_iff_eq.mpr c13
              clear c13
              replace H := Option.bind_eq_some_iff.mp H
              obtain ⟨t174, A140, H⟩ := H
              replace H : (if ((((t169 ++ t170) ++ t171) ++ t172) ++ t173).size + t174.size ≤ 9223372036854775807 then ((stanchionref16_text.f a0_6).bind fun t175 => (if (((((t169 ++ t170) ++ t171) ++ t172) ++ t173) ++ t174).size + t175.size ≤ 9223372036854775807 then ((stanchionref16_text.f a0_7).bind fun t176 => (if ((((((t169 ++ t170) ++ t171) ++ t172) ++ t173) ++ t174) ++ t175).size + t176.size ≤ 9223372036854775807 then ((stanchionref16_text.f a0_8).bind fun t177 => (if (((((((t169 ++ t170) ++ t171) ++ t172) ++ t173) ++ t174) ++ t175) ++ t176).size + t177.size ≤ 9223372036854775807 then ((stanchionref16_text.f a0_9).bind fun t178 => (if ((((((((t169 ++ t170) ++ t171) ++ t172) ++ t173) ++ t174) ++ t175) ++ t176) ++ t177).size + t178.size ≤ 9223372036854775807 then ((stanchionref16_num.f a0_10).bind fun t179 => (if (((((((((t169 ++ t170) ++ t171) ++ t172) ++ t173) ++ t174) ++ t175) ++ t176) ++ t177) ++ t178).size + t179.size ≤ 9223372036854775807 then (some ((((((((((t169 ++ t170) ++ t171) ++ t172) ++ t173) ++ t174) ++ t175) ++ t176) ++ t177) ++ t178) ++ t179, 0)) else (none))) else (none))) else (none))) else (none))) else (none))) else (none)) = some (r1, r2) := H
              have A14 := Aside0.mk A140
              clear A140
              by_cases c15 : ((((t169 ++ t170) ++ t171) ++ t172) ++ t173).size + t174.size ≤ 9223372036854775807
              · rw [if_pos c15] at H
                have c15b0 := eq_true c15
                have c15b1 : decide (((((t169 ++ t170) ++ t171) ++ t172) ++ t173).size + t174.size ≤ 9223372036854775807) = true := decide_eq_true c15
                try have c15b2 : (9223372036854775807 < ((((t169 ++ t170) ++ t171) ++ t172) ++ t173).size + t174.size) = False := eq_false (Nat.not_lt.2 c15)
                try have c15b9 : (9223372036854775807 < t169.size + t170.size + t171.size + t172.size + t173.size + t174.size) = False := by first | (rw [← ByteArray.size_append]; exact c15b2) | (have h9 := c15b2; simp only [ByteArray.size_append] at h9 ⊢; exact h9)
                replace H := Option.bind_eq_some_iff.mp H
                obtain ⟨t175, A160, H⟩ := H
                replace H : (if (((((t169 ++ t170) ++ t171) ++ t172) ++ t173) ++ t174).size + t175.size ≤ 9223372036854775807 then ((stanchionref16_text.f a0_7).bind fun t176 => (if ((((((t169 ++ t170) ++ t171) ++ t172) ++ t173) ++ t174) ++ t175).size + t176.size ≤ 9223372036854775807 then ((stanchionref16_text.f a0_8).bind fun t177 => (if (((((((t169 ++ t170) ++ t171) ++ t172) ++ t173) ++ t174) ++ t175) ++ t176).size + t177.size ≤ 9223372036854775807 then ((stanchionref16_text.f a0_9).bind fun t178 => (if ((((((((t169 ++ t170) ++ t171) ++ t172) ++ t173) ++ t174) ++ t175) ++ t176) ++ t177).size + t178.size ≤ 9223372036854775807 then ((stanchionref16_num.f a0_10).bind fun t179 => (if (((((((((t169 ++ t170) ++ t171) ++ t172) ++ t173) ++ t174) ++ t175) ++ t176) ++ t177) ++ t178).size + t179.size ≤ 9223372036854775807 then (some ((((((((((t169 ++ t170) ++ t171) ++ t172) ++ t173) ++ t174) ++ t175) ++ t176) ++ t177) ++ t178) ++ t179, 0)) else (none))) else (none))) else (none))) else (none))) else (none)) = some (r1, r2) := H
                have A16 := Aside0.mk A160
                clear A160
                by_cases c17 : (((((t169 ++ t170) ++ t171) ++ t172) ++ t173) ++ t174).size + t175.size ≤ 9223372036854775807
                · rw [if_pos c17] at H
                  have c17b0 := eq_true c17
                  have c17b1 : decide ((((((t169 ++ t170) ++ t171) ++ t172) ++ t173) ++ t174).size + t175.size ≤ 9223372036854775807) = true := decide_eq_true c17
                  try have c17b2 : (9223372036854775807 < (((((t169 ++ t170) ++ t171) ++ t172) ++ t173) ++ t174).size + t175.size) = False := eq_false (Nat.not_lt.2 c17)
                  try have c17b9 : (9223372036854775807 < t169.size + t170.size + t171.size + t172.size + t173.size + t174.size + t175.size) = False := by first | (rw [← ByteArray.size_append]; exact c17b2) | (have h9 := c17b2; simp only [ByteArray.size_append] at h9 ⊢; exact h9)
                  replace H := Option.bind_eq_some_iff.mp H
                  obtain ⟨t176, A180, H⟩ := H
                  replace H : (if ((((((t169 ++ t170) ++ t171) ++ t172) ++ t173) ++ t174) ++ t175).size + t176.size ≤ 9223372036854775807 then ((stanchionref16_text.f a0_8).bind fun t177 => (if (((((((t169 ++ t170) ++ t171) ++ t172) ++ t173) ++ t174) ++ t175) ++ t176).size + t177.size ≤ 9223372036854775807 then ((stanchionref16_text.f a0_9).bind fun t178 => (if ((((((((t169 ++ t170) ++ t171) ++ t172) ++ t173) ++ t174) ++ t175) ++ t176) ++ t177).size + t178.size ≤ 9223372036854775807 then ((stanchionref16_num.f a0_10).bind fun t179 => (if (((((((((t169 ++ t170) ++ t171) ++ t172) ++ t173) ++ t174) ++ t175) ++ t176) ++ t177) ++ t178).size + t179.size ≤ 9223372036854775807 then (some ((((((((((t169 ++ t170) ++ t171) ++ t172) ++ t173) ++ t174) ++ t175) ++ t176) ++ t177) ++ t178) ++ t179, 0)) else (none))) else (none))) else (none))) else (none)) = some (r1, r2) := H
                  have A18 := Aside0.mk A180
                  clear A180
                  by_cases c19 : ((((((t169 ++ t170) ++ t171) ++ t172) ++ t173) ++ t174) ++ t175).size + t176.size ≤ 9223372036854775807
                  · rw [if_pos c19] at H
                    have c19b0 := eq_true c19
                    have c19b1 : decide (((((((t169 ++ t170) ++ t171) ++ t172) ++ t173) ++ t174) ++ t175).size + t176.size ≤ 9223372036854775807) = true := decide_eq_true c19
                    try have c19b2 : (9223372036854775807 < ((((((t169 ++ t170) ++ t171) ++ t172) ++ t173) ++ t174) ++ t175).size + t176.size) = False := eq_false (Nat.not_lt.2 c19)
                    try have c19b9 : (9223372036854775807 < t169.size + t170.size + t171.size + t172.size + t173.size + t174.size + t175.size + t176.size) = False := by first | (rw [← ByteArray.size_append]; exact c19b2) | (have h9 := c19b2; simp only [ByteArray.size_append] at h9 ⊢; exact h9)
                    replace H := Option.bind_eq_some_iff.mp H
                    obtain ⟨t177, A200, H⟩ := H
                    replace H : (if (((((((t169 ++ t170) ++ t171) ++ t172) ++ t173) ++ t174) ++ t175) ++ t176).size + t177.size ≤ 9223372036854775807 then ((stanchionref16_text.f a0_9).bind fun t178 => (if ((((((((t169 ++ t170) ++ t171) ++ t172) ++ t173) ++ t174) ++ t175) ++ t176) ++ t177).size + t178.size ≤ 9223372036854775807 then ((stanchionref16_num.f a0_10).bind fun t179 => (if (((((((((t169 ++ t170) ++ t171) ++ t172) ++ t173) ++ t174) ++ t175) ++ t176) ++ t177) ++ t178).size + t179.size ≤ 9223372036854775807 then (some ((((((((((t169 ++ t170) ++ t171) ++ t172) ++ t173) ++ t174) ++ t175) ++ t176) ++ t177) ++ t178) ++ t179, 0)) else (none))) else (none))) else (none)) = some (r1, r2) := H
                    have A20 := Aside0.mk A200
                    clear A200
                    by_cases c21 : (((((((t169 ++ t170) ++ t171) ++ t172) ++ t173) ++ t174) ++ t175) ++ t176).size + t177.size ≤ 9223372036854775807
                    · rw [if_pos c21] at H
                      have c21b0 := eq_true c21
                      have c21b1 : decide ((((((((t169 ++ t170) ++ t171) ++ t172) ++ t173) ++ t174) ++ t175) ++ t176).size + t177.size ≤ 9223372036854775807) = true := decide_eq_true c21
                      try have c21b2 : (9223372036854775807 < (((((((t169 ++ t170) ++ t171) ++ t172) ++ t173) ++ t174) ++ t175) ++ t176).size + t177.size) = False := eq_false (Nat.not_lt.2 c21)
                      try have c21b9 : (9223372036854775807 < t169.size + t170.size + t171.size + t172.size + t173.size + t174.size + t175.size + t176.size + t177.size) = False := by first | (rw [← ByteArray.size_append]; exact c21b2) | (have h9 := c21b2; simp only [ByteArray.size_append] at h9 ⊢; exact h9)
                      replace H := Option.bind_eq_some_iff.mp H
                      obtain ⟨t178, A220, H⟩ := H
                      replace H : (if ((((((((t169 ++ t170) ++ t171) ++ t172) ++ t173) ++ t174) ++ t175) ++ t176) ++ t177).size + t178.size ≤ 9223372036854775807 then ((stanchionref16_num.f a0_10).bind fun t179 => (if (((((((((t169 ++ t170) ++ t171) ++ t172) ++ t173) ++ t174) ++ t175) ++ t176) ++ t177) ++ t178).size + t179.size ≤ 9223372036854775807 then (some ((((((((((t169 ++ t170) ++ t171) ++ t172) ++ t173) ++ t174) ++ t175) ++ t176) ++ t177) ++ t178) ++ t179, 0)) else (none))) else (none)) = some (r1, r2) := H
                      have A22 := Aside0.mk A220
                      clear A220
                      by_cases c23 : ((((((((t169 ++ t170) ++ t171) ++ t172) ++ t173) ++ t174) ++ t175) ++ t176) ++ t177).size + t178.size ≤ 9223372036854775807
                      · rw [if_pos c23] at H
                        have c23b0 := eq_true c23
                        have c23b1 : decide (((((((((t169 ++ t170) ++ t171) ++ t172) ++ t173) ++ t174) ++ t175) ++ t176) ++ t177).size + t178.size ≤ 9223372036854775807) = true := decide_eq_true c23
                        try have c23b2 : (9223372036854775807 < ((((((((t169 ++ t170) ++ t171) ++ t172) ++ t173) ++ t174) ++ t175) ++ t176) ++ t177).size + t178.size) = False := eq_false (Nat.not_lt.2 c23)
                        try have c23b9 : (9223372036854775807 < t169.size + t170.size + t171.size + t172.size + t173.size + t174.size + t175.size + t176.size + t177.size + t178.size) = False := by first | (rw [← ByteArray.size_append]; exact c23b2) | (have h9 := c23b2; simp only [ByteArray.size_append] at h9 ⊢; exact h9)
                        replace H := Option.bind_eq_some_iff.mp H
                        obtain ⟨t179, A240, H⟩ := H
                        replace H : (if (((((((((t169 ++ t170) ++ t171) ++ t172) ++ t173) ++ t174) ++ t175) ++ t176) ++ t177) ++ t178).size + t179.size ≤ 9223372036854775807 then (some ((((((((((t169 ++ t170) ++ t171) ++ t172) ++ t173) ++ t174) ++ t175) ++ t176) ++ t177) ++ t178) ++ t179, 0)) else (none)) = some (r1, r2) := H
                        have A24 := Aside0.mk A240
                        clear A240
                        by_cases c25 : (((((((((t169 ++ t170) ++ t171) ++ t172) ++ t173) ++ t174) ++ t175) ++ t176) ++ t177) ++ t178).size + t179.size ≤ 9223372036854775807
                        · rw [if_pos c25] at H
                          have c25b0 := eq_true c25
                          have c25b1 : decide ((((((((((t169 ++ t170) ++ t171) ++ t172) ++ t173) ++ t174) ++ t175) ++ t176) ++ t177) ++ t178).size + t179.size ≤ 9223372036854775807) = true := decide_eq_true c25
                          try have c25b2 : (9223372036854775807 < (((((((((t169 ++ t170) ++ t171) ++ t172) ++ t173) ++ t174) ++ t175) ++ t176) ++ t177) ++ t178).size + t179.size) = False := eq_false (Nat.not_lt.2 c25)
                          try have c25b9 : (9223372036854775807 < t169.size + t170.size + t171.size + t172.size + t173.size + t174.size + t175.size + t176.size + t177.size + t178.size + t179.size) = False := by first | (rw [← ByteArray.size_append]; exact c25b2) | (have h9 := c25b2; simp only [ByteArray.size_append] at h9 ⊢; exact h9)
                          simp only [Option.some.injEq, Prod.mk.injEq] at H
                          obtain ⟨rfl, rfl⟩ := H
                          go_enter Tryd.func10, Tryd.ntmps10
                          try go_wp2_with (first | ((with_reducible refine gate_dst (N := 1) rfl ?_); refine box_event ?hg (N := 1) ?hd (cs := #[.int .i64 a0_0, .int .i64 a0_1, .int .i64 a0_2, .int .i64 a0_3, .string a0_4, .int .i64 a0_5, .string a0_6, .string a0_7, .string a0_8, .string a0_9, .int .i64 a0_10]) (t := 25) ?hr ?_; (case hd => rfl); (case hg => rfl); (case hr => first | (go_simp; done) | (go_simp; rfl)); intro gb167 hg w26 hbox hb; have n0_ := Aside0.mk (below_step (by repeat (first | (with_reducible first | exact HB.out | apply below_alloc | apply pw_below_drewN | apply below_drew1) | exact HB.out)) hb); have n1_ := Aside0.mk (hbox); have n2_ := Aside0.mk ((by rw [hg]; exact (below_size (by repeat (first | (with_reducible first | exact HB.out | apply below_alloc | apply pw_below_drewN | apply below_drew1) | exact HB.out))) : w.heap.size ≤ gb167)); have n3_ := Aside0.mk ((by rw [hg]; exact (below_size (by repeat (first | (with_reducible first | exact HB.out | apply below_alloc | apply pw_below_drewN | apply below_drew1) | exact HB.out))) : w.heap.size ≤ gb167)); clear HB; have HB := n0_; have BK167 := n1_; have GW167 := n2_; have GE167 := n3_; clear n0_ n1_ n2_ n3_; clear hb hbox hg; have hcz27_0 : w26.cell? ⟨gb167, 0, none⟩ = some (.int .i64 a0_0) := (blk_cell BK167.out 0).trans rfl; have hcz27_1 : w26.cell? ⟨gb167, 1, none⟩ = some (.int .i64 a0_1) := (blk_cell BK167.out 1).trans rfl; have hcz27_2 : w26.cell? ⟨gb167, 2, none⟩ = some (.int .i64 a0_2) := (blk_cell BK167.out 2).trans rfl; have hcz27_3 : w26.cell? ⟨gb167, 3, none⟩ = some (.int .i64 a0_3) := (blk_cell BK167.out 3).trans rfl; have hcz27_4 : w26.cell? ⟨gb167, 4, none⟩ = some (.string a0_4) := (blk_cell BK167.out 4).trans rfl; have hcz27_5 : w26.cell? ⟨gb167, 5, none⟩ = some (.int .i64 a0_5) := (blk_cell BK167.out 5).trans rfl; have hcz27_6 : w26.cell? ⟨gb167, 6, none⟩ = some (.string a0_6) := (blk_cell BK167.out 6).trans rfl; have hcz27_7 : w26.cell? ⟨gb167, 7, none⟩ = some (.string a0_7) := (blk_cell BK167.out 7).trans rfl; have hcz27_8 : w26.cell? ⟨gb167, 8, none⟩ = some (.string a0_8) := (blk_cell BK167.out 8).trans rfl; have hcz27_9 : w26.cell? ⟨gb167, 9, none⟩ = some (.string a0_9) := (blk_cell BK167.out 9).trans rfl; have hcz27_10 : w26.cell? ⟨gb167, 10, none⟩ = some (.int .i64 a0_10) := (blk_cell BK167.out 10).trans rfl; have hfz27_0 := blk_frozen BK167.out 0; have hfz27_1 := blk_frozen BK167.out 1; have hfz27_2 := blk_frozen BK167.out 2; have hfz27_3 := blk_frozen BK167.out 3; have hfz27_4 := blk_frozen BK167.out 4; have hfz27_5 := blk_frozen BK167.out 5; have hfz27_6 := blk_frozen BK167.out 6; have hfz27_7 := blk_frozen BK167.out 7; have hfz27_8 := blk_frozen BK167.out 8; have hfz27_9 := blk_frozen BK167.out 9; have hfz27_10 := blk_frozen BK167.out 10) | ((with_reducible refine gate_callee (f := 14) rfl ?_); refine goesL_ (some 7) rfl rfl Tryd.func14 (by kernel_rfl) rfl #[.agg #[.int .i64 a0_0, .int .i64 a0_1, .int .i64 a0_2, .int .i64 a0_3, .string a0_4, .int .i64 a0_5, .string a0_6, .string a0_7, .string a0_8, .string a0_9, .int .i64 a0_10]] rfl (by (try simp only [List.map_toArray, List.map_cons, List.map_nil]); first | done | rfl | (simp only [List.length_drop, List.length_take]; rfl)) ?_; (with_reducible refine (stanchionref16_MayReq.calls k a0_0 a0_1 a0_2 a0_3 a0_4 a0_5 a0_6 a0_7 a0_8 a0_9 a0_10 true _ A2.out).mono ?_); rintro e w28 ⟨rfl, hb⟩; refine ⟨_, rfl, ?_⟩; have n0_ := Aside0.mk (blk_below (g := gb167) (o := .cells #[.int .i64 a0_0, .int .i64 a0_1, .int .i64 a0_2, .int .i64 a0_3, .string a0_4, .int .i64 a0_5, .string a0_6, .string a0_7, .string a0_8, .string a0_9, .int .i64 a0_10] 25 (0, 0)) (by (with_reducible repeat (first | refine blk_drewN ?_ _ | refine blk_drew ?_ | refine blk_alloc ?_ _)); exact BK167.out) hb); have n1_ := Aside0.mk (below_step (by repeat (first | (with_reducible first | exact HB.out | apply below_alloc | apply pw_below_drewN | apply below_drew1 | refine below_set ?_ GE167.out) | exact HB.out)) hb); clear BK167; clear HB; have BK167 := n0_; have HB := n1_; clear n0_ n1_; (try clear hb); (try clear hb2); (try clear hk); (try clear hi)))
                          have n0_ := Aside0.mk (blk_drew BK167.out)
                          have n1_ := Aside0.mk (below_drew1 HB.out)
                          clear BK167
                          clear HB
                          have BK167 := n0_
                          have HB := n1_
                          clear n0_ n1_
                          refine start_ (n := 20) (S := fun w' => w'.cell? ⟨gb167, 0, none⟩ = some (.int .i64 a0_0) ∧ w'.cell? ⟨gb167, 1, none⟩ = some (.int .i64 a0_1) ∧ w'.cell? ⟨gb167, 2, none⟩ = some (.int .i64 a0_2) ∧ w'.cell? ⟨gb167, 3, none⟩ = some (.int .i64 a0_3) ∧ w'.cell? ⟨gb167, 4, none⟩ = some (.string a0_4) ∧ w'.cell? ⟨gb167, 5, none⟩ = some (.int .i64 a0_5) ∧ w'.cell? ⟨gb167, 6, none⟩ = some (.string a0_6) ∧ w'.cell? ⟨gb167, 7, none⟩ = some (.string a0_7) ∧ w'.cell? ⟨gb167, 8, none⟩ = some (.string a0_8) ∧ w'.cell? ⟨gb167, 9, none⟩ = some (.string a0_9) ∧ w'.cell? ⟨gb167, 10, none⟩ = some (.int .i64 a0_10)) (ds := []) #[false, false, false, false, false, false, false, false, false, false, false, false, false, false, false, false, false, false, false, false] (by kernel_rfl) rfl rfl ⟨(blk_cell BK167.out 0).trans rfl, (blk_cell BK167.out 1).trans rfl, (blk_cell BK167.out 2).trans rfl, (blk_cell BK167.out 3).trans rfl, (blk_cell BK167.out 4).trans rfl, (blk_cell BK167.out 5).trans rfl, (blk_cell BK167.out 6).trans rfl, (blk_cell BK167.out 7).trans rfl, (blk_cell BK167.out 8).trans rfl, (blk_cell BK167.out 9).trans rfl, (blk_cell BK167.out 10).trans rfl⟩ (fun hHeld => ?_); refine with_tabW stanchionref16_Req.tab4 stanchionref16_Req.bits4 (fun HT_ HW_ => ?_)
                          generalize w28.drew = w29 at BK167 HB hHeld ⊢
                          refine pure_ (i := 0) (N := some 10) (v := ?_) (a' := ?_) #[true, false, false, false, false, false, false, false, false, false, false, false, false, false, false, false, false, false, false, false] rfl rfl (any_of HT_.out (by kernel_rfl)) (fun _ _ _ h => h) (Or.inl ⟨by rfl, ?_⟩) ?_ ?_
                          rotate_left
                          · intro w'
                            go_simp
                            with_reducible rfl
                          rotate_left
                          · simp only [Act.put, List.setIfInBounds_toArray, List.set_cons_zero, List.set_cons_succ, i64_w, i32_w]
                            rfl
                          refine pure_ (i := 3) (N := some 13) (v := ?_) (a' := ?_) #[true, false, false, true, false, false, false, false, false, false, false, false, false, false, false, false, false, false, false, false] rfl rfl (any_of HT_.out (by kernel_rfl)) (fun _ _ _ h => h) (Or.inl ⟨by rfl, ?_⟩) ?_ ?_
                          rotate_left
                          · intro w'
                            go_simp
                            with_reducible rfl
                          rotate_left
                          · simp only [Act.put, List.setIfInBounds_toArray, List.set_cons_zero, List.set_cons_succ, i64_w, i32_w]
                            rfl
                          refine pure_ (i := 7) (N := some 17) (v := ?_) (a' := ?_) #[true, false, false, true, false, false, false, true, false, false, false, false, false, false, false, false, false, false, false, false] rfl rfl (any_of HT_.out (by kernel_rfl)) (fun _ _ _ h => h) (Or.inl ⟨by rfl, ?_⟩) ?_ ?_
                          rotate_left
                          · intro w'
                            go_simp
                            with_reducible rfl
                          rotate_left
                          · simp only [Act.put, List.setIfInBounds_toArray, List.set_cons_zero, List.set_cons_succ, i64_w, i32_w]
                            rfl
                          refine pure_ (i := 11) (N := some 21) (v := ?_) (a' := ?_) #[true, false, false, true, false, false, false, true, false, false, false, true, false, false, false, false, false, false, false, false] rfl rfl (any_of HT_.out (by kernel_rfl)) (fun _ _ _ h => h) (Or.inl ⟨by rfl, ?_⟩) ?_ ?_
                          rotate_left
                          · intro w'
                            go_simp
                            with_reducible rfl
                          rotate_left
                          · simp only [Act.put, List.setIfInBounds_toArray, List.set_cons_zero, List.set_cons_succ, i64_w, i32_w]
                            rfl
                          refine pure_ (i := 15) (N := some 25) (v := ?_) (a' := ?_) #[true, false, false, true, false, false, false, true, false, false, false, true, false, false, false, true, false, false, false, false] rfl rfl (any_of HT_.out (by kernel_rfl)) (fun _ _ _ h => h) (Or.inl ⟨by rfl, ?_⟩) ?_ ?_
                          rotate_left
                          · intro w'
                            go_simp
                            with_reducible rfl
                          rotate_left
                          · simp only [Act.put, List.setIfInBounds_toArray, List.set_cons_zero, List.set_cons_succ, i64_w, i32_w]
                            rfl
                          refine take_ (i := 1) (N := some 11) (v := ?_) (a' := ?_) #[true, true, false, true, false, false, false, true, false, false, false, true, false, false, false, true, false, false, false, false] rfl rfl (take_ofW HT_.out HW_.out (by kernel_rfl)) (fun _ _ _ h => h) (Or.inl ⟨by rfl, ?_⟩) hHeld ?_ ?_
                          rotate_left
                          · rintro w' ⟨s0, s1, s2, s3, s4, s5, s6, s7, s8, s9, s10⟩
                            go_simp
                            with_reducible rfl
                          rotate_left
                          · simp only [Act.put, List.setIfInBounds_toArray, List.set_cons_zero, List.set_cons_succ, i64_w, i32_w]
                            rfl
                          refine take_ (i := 4) (N := some 14) (v := ?_) (a' := ?_) #[true, true, false, true, true, false, false, true, false, false, false, true, false, false, false, true, false, false, false, false] rfl rfl (take_ofW HT_.out HW_.out (by kernel_rfl)) (fun _ _ _ h => h) (Or.inl ⟨by rfl, ?_⟩) hHeld ?_ ?_
                          rotate_left
                          · rintro w' ⟨s0, s1, s2, s3, s4, s5, s6, s7, s8, s9, s10⟩
                            go_simp
                            with_reducible rfl
                          rotate_left
                          · simp only [Act.put, List.setIfInBounds_toArray, List.set_cons_zero, List.set_cons_succ, i64_w, i32_w]
                            rfl
                          refine take_ (i := 8) (N := some 18) (v := ?_) (a' := ?_) #[true, true, false, true, true, false, false, true, true, false, false, true, false, false, false, true, false, false, false, false] rfl rfl (take_ofW HT_.out HW_.out (by kernel_rfl)) (fun _ _ _ h => h) (Or.inl ⟨by rfl, ?_⟩) hHeld ?_ ?_
                          rotate_left
                          · rintro w' ⟨s0, s1, s2, s3, s4, s5, s6, s7, s8, s9, s10⟩
                            go_simp
                            with_reducible rfl
                          rotate_left
                          · simp only [Act.put, List.setIfInBounds_toArray, List.set_cons_zero, List.set_cons_succ, i64_w, i32_w]
                            rfl
                          refine take_ (i := 12) (N := some 22) (v := ?_) (a' := ?_) #[true, true, false, true, true, false, false, true, true, false, false, true, true, false, false, true, false, false, false, false] rfl rfl (take_ofW HT_.out HW_.out (by kernel_rfl)) (fun _ _ _ h => h) (Or.inl ⟨by rfl, ?_⟩) hHeld ?_ ?_
                          rotate_left
                          · rintro w' ⟨s0, s1, s2, s3, s4, s5, s6, s7, s8, s9, s10⟩
                            go_simp
                            with_reducible rfl
                          rotate_left
                          · simp only [Act.put, List.setIfInBounds_toArray, List.set_cons_zero, List.set_cons_succ, i64_w, i32_w]
                            rfl
                          refine take_ (i := 16) (N := some 26) (v := ?_) (a' := ?_) #[true, true, false, true, true, false, false, true, true, false, false, true, true, false, false, true, true, false, false, false] rfl rfl (take_ofW HT_.out HW_.out (by kernel_rfl)) (fun _ _ _ h => h) (Or.inl ⟨by rfl, ?_⟩) hHeld ?_ ?_
                          rotate_left
                          · rintro w' ⟨s0, s1, s2, s3, s4, s5, s6, s7, s8, s9, s10⟩
                            go_simp
                            with_reducible rfl
                          rotate_left
                          · simp only [Act.put, List.setIfInBounds_toArray, List.set_cons_zero, List.set_cons_succ, i64_w, i32_w]
                            rfl
                          refine one_ (i := 2) (N := some 12) #[true, true, true, true, true, false, false, true, true, false, false, true, true, false, false, true, true, false, false, false] rfl rfl (one_of HT_.out (by kernel_rfl)) (by decide) (fun K hK => ?_)
                          refine goes_ Tryd.func23 (by kernel_rfl) rfl #[.int .i64 a0_0] (by rfl) rfl rfl (by (try simp only [List.map_toArray, List.map_cons, List.map_nil]); first | done | rfl | (simp only [List.length_drop, List.length_take]; rfl)) ?_
                          with_reducible refine (stanchionref16_num.calls a0_0 t169 _ A4.out).mono ?_
                          rintro e w30 ⟨rfl, hb⟩
                          refine ⟨_, rfl, ?_⟩
                          have n0_ := Aside0.mk (blk_below (g := gb167) (o := .cells #[.int .i64 a0_0, .int .i64 a0_1, .int .i64 a0_2, .int .i64 a0_3, .string a0_4, .int .i64 a0_5, .string a0_6, .string a0_7, .string a0_8, .string a0_9, .int .i64 a0_10] 25 (0, 0)) (by (with_reducible repeat (first | refine blk_drewN ?_ _ | refine blk_drew ?_ | refine blk_alloc ?_ _)); exact BK167.out) hb)
                          have n1_ := Aside0.mk (below_step (by repeat (first | (with_reducible first | exact HB.out | apply below_alloc | apply pw_below_drewN | apply below_drew1 | refine below_set ?_ GE167.out) | exact HB.out)) hb)
                          clear BK167
                          clear HB
                          have BK167 := n0_
                          have HB := n1_
                          clear n0_ n1_
                          (try clear hb)
                          (try clear hb2)
                          (try clear hk)
                          (try clear hi)
                          refine hK.out _ _ ⟨(blk_cell BK167.out 0).trans rfl, (blk_cell BK167.out 1).trans rfl, (blk_cell BK167.out 2).trans rfl, (blk_cell BK167.out 3).trans rfl, (blk_cell BK167.out 4).trans rfl, (blk_cell BK167.out 5).trans rfl, (blk_cell BK167.out 6).trans rfl, (blk_cell BK167.out 7).trans rfl, (blk_cell BK167.out 8).trans rfl, (blk_cell BK167.out 9).trans rfl, (blk_cell BK167.out 10).trans rfl⟩ (fun hHeld => ?_)
                          clear hK K
                          refine norm_ (a' := ?_) ?_ ?_
                          rotate_left
                          · show Act.put _ (some 12) _ = _
                            simp only [Act.put, List.setIfInBounds_toArray, List.set_cons_zero, List.set_cons_succ, i64_w, i32_w]
                            rfl
                          refine one_ (i := 5) (N := some 15) #[true, true, true, true, true, true, false, true, true, false, false, true, true, false, false, true, true, false, false, false] rfl rfl (one_of HT_.out (by kernel_rfl)) (by decide) (fun K hK => ?_)
                          refine goes_ Tryd.func23 (by kernel_rfl) rfl #[.int .i64 a0_1] (by rfl) rfl rfl (by (try simp only [List.map_toArray, List.map_cons, List.map_nil]); first | done | rfl | (simp only [List.length_drop, List.length_take]; rfl)) ?_
                          with_reducible refine (stanchionref16_num.calls a0_1 t170 _ A5.out).mono ?_
                          rintro e w31 ⟨rfl, hb⟩
                          refine ⟨_, rfl, ?_⟩
                          have n0_ := Aside0.mk (blk_below (g := gb167) (o := .cells #[.int .i64 a0_0, .int .i64 a0_1, .int .i64 a0_2, .int .i64 a0_3, .string a0_4, .int .i64 a0_5, .string a0_6, .string a0_7, .string a0_8, .string a0_9, .int .i64 a0_10] 25 (0, 0)) (by (with_reducible repeat (first | refine blk_drewN ?_ _ | refine blk_drew ?_ | refine blk_alloc ?_ _)); exact BK167.out) hb)
                          have n1_ := Aside0.mk (below_step (by repeat (first | (with_reducible first | exact HB.out | apply below_alloc | apply pw_below_drewN | apply below_drew1 | refine below_set ?_ GE167.out) | exact HB.out)) hb)
                          clear BK167
                          clear HB
                          have BK167 := n0_
                          have HB := n1_
                          clear n0_ n1_
                          (try clear hb)
                          (try clear hb2)
                          (try clear hk)
                          (try clear hi)
                          refine hK.out _ _ ⟨(blk_cell BK167.out 0).trans rfl, (blk_cell BK167.out 1).trans rfl, (blk_cell BK167.out 2).trans rfl, (blk_cell BK167.out 3).trans rfl, (blk_cell BK167.out 4).trans rfl, (blk_cell BK167.out 5).trans rfl, (blk_cell BK167.out 6).trans rfl, (blk_cell BK167.out 7).trans rfl, (blk_cell BK167.out 8).trans rfl, (blk_cell BK167.out 9).trans rfl, (blk_cell BK167.out 10).trans rfl⟩ (fun hHeld => ?_)
                          clear hK K
                          refine norm_ (a' := ?_) ?_ ?_
                          rotate_left
                          · show Act.put _ (some 15) _ = _
                            simp only [Act.put, List.setIfInBounds_toArray, List.set_cons_zero, List.set_cons_succ, i64_w, i32_w]
                            rfl
                          refine pure_ (i := 6) (N := some 16) (v := ?_) (a' := ?_) #[true, true, true, true, true, true, true, true, true, false, false, true, true, false, false, true, true, false, false, false] rfl rfl (any_of HT_.out (by kernel_rfl)) (fun _ _ _ h => h) (Or.inl ⟨by rfl, ?_⟩) ?_ ?_
                          rotate_left
                          · intro w'
                            go_simp
                            with_reducible rfl
                          rotate_left
                          · simp only [Act.put, List.setIfInBounds_toArray, List.set_cons_zero, List.set_cons_succ, i64_w, i32_w]
                            rfl
                          refine one_ (i := 9) (N := some 19) #[true, true, true, true, true, true, true, true, true, true, false, true, true, false, false, true, true, false, false, false] rfl rfl (one_of HT_.out (by kernel_rfl)) (by decide) (fun K hK => ?_)
                          refine goes_ Tryd.func23 (by kernel_rfl) rfl #[.int .i64 a0_2] (by rfl) rfl rfl (by (try simp only [List.map_toArray, List.map_cons, List.map_nil]); first | done | rfl | (simp only [List.length_drop, List.length_take]; rfl)) ?_
                          with_reducible refine (stanchionref16_num.calls a0_2 t171 _ A7.out).mono ?_
                          rintro e w32 ⟨rfl, hb⟩
                          refine ⟨_, rfl, ?_⟩
                          have n0_ := Aside0.mk (blk_below (g := gb167) (o := .cells #[.int .i64 a0_0, .int .i64 a0_1, .int .i64 a0_2, .int .i64 a0_3, .string a0_4, .int .i64 a0_5, .string a0_6, .string a0_7, .string a0_8, .string a0_9, .int .i64 a0_10] 25 (0, 0)) (by (with_reducible repeat (first | refine blk_drewN ?_ _ | refine blk_drew ?_ | refine blk_alloc ?_ _)); exact BK167.out) hb)
                          have n1_ := Aside0.mk (below_step (by repeat (first | (with_reducible first | exact HB.out | apply below_alloc | apply pw_below_drewN | apply below_drew1 | refine below_set ?_ GE167.out) | exact HB.out)) hb)
                          clear BK167
                          clear HB
                          have BK167 := n0_
                          have HB := n1_
                          clear n0_ n1_
                          (try clear hb)
                          (try clear hb2)
                          (try clear hk)
                          (try clear hi)
                          refine hK.out _ _ ⟨(blk_cell BK167.out 0).trans rfl, (blk_cell BK167.out 1).trans rfl, (blk_cell BK167.out 2).trans rfl, (blk_cell BK167.out 3).trans rfl, (blk_cell BK167.out 4).trans rfl, (blk_cell BK167.out 5).trans rfl, (blk_cell BK167.out 6).trans rfl, (blk_cell BK167.out 7).trans rfl, (blk_cell BK167.out 8).trans rfl, (blk_cell BK167.out 9).trans rfl, (blk_cell BK167.out 10).trans rfl⟩ (fun hHeld => ?_)
                          clear hK K
                          refine norm_ (a' := ?_) ?_ ?_
                          rotate_left
                          · show Act.put _ (some 19) _ = _
                            simp only [Act.put, List.setIfInBounds_toArray, List.set_cons_zero, List.set_cons_succ, i64_w, i32_w]
                            rfl
                          refine pure_ (i := 10) (N := some 20) (v := ?_) (a' := ?_) #[true, true, true, true, true, true, true, true, true, true, true, true, true, false, false, true, true, false, false, false] rfl rfl (any_of HT_.out (by kernel_rfl)) (fun _ _ _ h => h) (Or.inl ⟨by rfl, ?_⟩) ?_ ?_
                          rotate_left
                          · intro w'
                            go_simp
                            with_reducible rfl
                          rotate_left
                          · simp only [Act.put, List.setIfInBounds_toArray, List.set_cons_zero, List.set_cons_succ, i64_w, i32_w]
                            rfl
                          refine one_ (i := 13) (N := some 23) #[true, true, true, true, true, true, true, true, true, true, true, true, true, true, false, true, true, false, false, false] rfl rfl (one_of HT_.out (by kernel_rfl)) (by decide) (fun K hK => ?_)
                          refine goes_ Tryd.func23 (by kernel_rfl) rfl #[.int .i64 a0_3] (by rfl) rfl rfl (by (try simp only [List.map_toArray, List.map_cons, List.map_nil]); first | done | rfl | (simp only [List.length_drop, List.length_take]; rfl)) ?_
                          with_reducible refine (stanchionref16_num.calls a0_3 t172 _ A9.out).mono ?_
                          rintro e w33 ⟨rfl, hb⟩
                          refine ⟨_, rfl, ?_⟩
                          have n0_ := Aside0.mk (blk_below (g := gb167) (o := .cells #[.int .i64 a0_0, .int .i64 a0_1, .int .i64 a0_2, .int .i64 a0_3, .string a0_4, .int .i64 a0_5, .string a0_6, .string a0_7, .string a0_8, .string a0_9, .int .i64 a0_10] 25 (0, 0)) (by (with_reducible repeat (first | refine blk_drewN ?_ _ | refine blk_drew ?_ | refine blk_alloc ?_ _)); exact BK167.out) hb)
                          have n1_ := Aside0.mk (below_step (by repeat (first | (with_reducible first | exact HB.out | apply below_alloc | apply pw_below_drewN | apply below_drew1 | refine below_set ?_ GE167.out) | exact HB.out)) hb)
                          clear BK167
                          clear HB
                          have BK167 := n0_
                          have HB := n1_
                          clear n0_ n1_
                          (try clear hb)
                          (try clear hb2)
                          (try clear hk)
                          (try clear hi)
                          refine hK.out _ _ ⟨(blk_cell BK167.out 0).trans rfl, (blk_cell BK167.out 1).trans rfl, (blk_cell BK167.out 2).trans rfl, (blk_cell BK167.out 3).trans rfl, (blk_cell BK167.out 4).trans rfl, (blk_cell BK167.out 5).trans rfl, (blk_cell BK167.out 6).trans rfl, (blk_cell BK167.out 7).trans rfl, (blk_cell BK167.out 8).trans rfl, (blk_cell BK167.out 9).trans rfl, (blk_cell BK167.out 10).trans rfl⟩ (fun hHeld => ?_)
                          clear hK K
                          refine norm_ (a' := ?_) ?_ ?_
                          rotate_left
                          · show Act.put _ (some 23) _ = _
                            simp only [Act.put, List.setIfInBounds_toArray, List.set_cons_zero, List.set_cons_succ, i64_w, i32_w]
                            rfl
                          refine pure_ (i := 14) (N := some 24) (v := ?_) (a' := ?_) #[true, true, true, true, true, true, true, true, true, true, true, true, true, true, true, true, true, false, false, false] rfl rfl (any_of HT_.out (by kernel_rfl)) (fun _ _ _ h => h) (Or.inl ⟨by rfl, ?_⟩) ?_ ?_
                          rotate_left
                          · intro w'
                            go_simp
                            with_reducible rfl
                          rotate_left
                          · simp only [Act.put, List.setIfInBounds_toArray, List.set_cons_zero, List.set_cons_succ, i64_w, i32_w]
                            rfl
                          refine one_ (i := 17) (N := some 27) #[true, true, true, true, true, true, true, true, true, true, true, true, true, true, true, true, true, true, false, false] rfl rfl (one_of HT_.out (by kernel_rfl)) (by decide) (fun K hK => ?_)
                          refine goes_ Tryd.func24 (by kernel_rfl) rfl #[.string a0_4] (by rfl) rfl rfl (by (try simp only [List.map_toArray, List.map_cons, List.map_nil]); first | done | rfl | (simp only [List.length_drop, List.length_take]; rfl)) ?_
                          with_reducible refine (stanchionref16_text.calls a0_4 t173 _ A11.out).mono ?_
                          rintro e w34 ⟨rfl, hb⟩
                          refine ⟨_, rfl, ?_⟩
                          have n0_ := Aside0.mk (blk_below (g := gb167) (o := .cells #[.int .i64 a0_0, .int .i64 a0_1, .int .i64 a0_2, .int .i64 a0_3, .string a0_4, .int .i64 a0_5, .string a0_6, .string a0_7, .string a0_8, .string a0_9, .int .i64 a0_10] 25 (0, 0)) (by (with_reducible repeat (first | refine blk_drewN ?_ _ | refine blk_drew ?_ | refine blk_alloc ?_ _)); exact BK167.out) hb)
                          have n1_ := Aside0.mk (below_step (by repeat (first | (with_reducible first | exact HB.out | apply below_alloc | apply pw_below_drewN | apply below_drew1 | refine below_set ?_ GE167.out) | exact HB.out)) hb)
                          clear BK167
                          clear HB
                          have BK167 := n0_
                          have HB := n1_
                          clear n0_ n1_
                          (try clear hb)
                          (try clear hb2)
                          (try clear hk)
                          (try clear hi)
                          refine hK.out _ _ ⟨(blk_cell BK167.out 0).trans rfl, (blk_cell BK167.out 1).trans rfl, (blk_cell BK167.out 2).trans rfl, (blk_cell BK167.out 3).trans rfl, (blk_cell BK167.out 4).trans rfl, (blk_cell BK167.out 5).trans rfl, (blk_cell BK167.out 6).trans rfl, (blk_cell BK167.out 7).trans rfl, (blk_cell BK167.out 8).trans rfl, (blk_cell BK167.out 9).trans rfl, (blk_cell BK167.out 10).trans rfl⟩ (fun hHeld => ?_)
                          clear hK K
                          refine norm_ (a' := ?_) ?_ ?_
                          rotate_left
                          · show Act.put _ (some 27) _ = _
                            simp only [Act.put, List.setIfInBounds_toArray, List.set_cons_zero, List.set_cons_succ, i64_w, i32_w]
                            rfl
                          refine pure_ (i := 18) (N := some 28) (v := ?_) (a' := ?_) #[true, true, true, true, true, true, true, true, true, true, true, true, true, true, true, true, true, true, true, false] rfl rfl (any_of HT_.out (by kernel_rfl)) (fun _ _ _ h => h) (Or.inl ⟨by rfl, ?_⟩) ?_ ?_
                          rotate_left
                          · intro w'
                            go_simp
                            with_reducible rfl
                          rotate_left
                          · simp only [Act.put, List.setIfInBounds_toArray, List.set_cons_zero, List.set_cons_succ, i64_w, i32_w]
                            rfl
                          refine pure_ (i := 19) (N := some 5) (v := ?_) (a' := ?_) #[true, true, true, true, true, true, true, true, true, true, true, true, true, true, true, true, true, true, true, true] rfl rfl (any_of HT_.out (by kernel_rfl)) (fun _ _ _ h => h) (Or.inl ⟨by rfl, ?_⟩) ?_ ?_
                          rotate_left
                          · intro w'
                            go_simp
                            with_reducible rfl
                          rotate_left
                          · simp only [Act.put, List.setIfInBounds_toArray, List.set_cons_zero, List.set_cons_succ, i64_w, i32_w]
                            rfl
                          refine done_ (done_of HT_.out (by kernel_rfl)) ?_
                          have hcz35_0 : w34.cell? ⟨gb167, 0, none⟩ = some (.int .i64 a0_0) := (blk_cell BK167.out 0).trans rfl
                          have hcz35_1 : w34.cell? ⟨gb167, 1, none⟩ = some (.int .i64 a0_1) := (blk_cell BK167.out 1).trans rfl
                          have hcz35_2 : w34.cell? ⟨gb167, 2, none⟩ = some (.int .i64 a0_2) := (blk_cell BK167.out 2).trans rfl
                          have hcz35_3 : w34.cell? ⟨gb167, 3, none⟩ = some (.int .i64 a0_3) := (blk_cell BK167.out 3).trans rfl
                          have hcz35_4 : w34.cell? ⟨gb167, 4, none⟩ = some (.string a0_4) := (blk_cell BK167.out 4).trans rfl
                          have hcz35_5 : w34.cell? ⟨gb167, 5, none⟩ = some (.int .i64 a0_5) := (blk_cell BK167.out 5).trans rfl
                          have hcz35_6 : w34.cell? ⟨gb167, 6, none⟩ = some (.string a0_6) := (blk_cell BK167.out 6).trans rfl
                          have hcz35_7 : w34.cell? ⟨gb167, 7, none⟩ = some (.string a0_7) := (blk_cell BK167.out 7).trans rfl
                          have hcz35_8 : w34.cell? ⟨gb167, 8, none⟩ = some (.string a0_8) := (blk_cell BK167.out 8).trans rfl
                          have hcz35_9 : w34.cell? ⟨gb167, 9, none⟩ = some (.string a0_9) := (blk_cell BK167.out 9).trans rfl
                          have hcz35_10 : w34.cell? ⟨gb167, 10, none⟩ = some (.int .i64 a0_10) := (blk_cell BK167.out 10).trans rfl
                          have hfz35_0 := blk_frozen BK167.out 0
                          have hfz35_1 := blk_frozen BK167.out 1
                          have hfz35_2 := blk_frozen BK167.out 2
                          have hfz35_3 := blk_frozen BK167.out 3
                          have hfz35_4 := blk_frozen BK167.out 4
                          have hfz35_5 := blk_frozen BK167.out 5
                          have hfz35_6 := blk_frozen BK167.out 6
                          have hfz35_7 := blk_frozen BK167.out 7
                          have hfz35_8 := blk_frozen BK167.out 8
                          have hfz35_9 := blk_frozen BK167.out 9
                          have hfz35_10 := blk_frozen BK167.out 10
                          try go_wp2
                          have n0_ := Aside0.mk (blk_drew BK167.out)
                          have n1_ := Aside0.mk (below_drew1 HB.out)
                          clear BK167
                          clear HB
                          have BK167 := n0_
                          have HB := n1_
                          clear n0_ n1_
                          refine start_ (n := 32) (S := fun w' => w'.cell? ⟨gb167, 0, none⟩ = some (.int .i64 a0_0) ∧ w'.cell? ⟨gb167, 1, none⟩ = some (.int .i64 a0_1) ∧ w'.cell? ⟨gb167, 2, none⟩ = some (.int .i64 a0_2) ∧ w'.cell? ⟨gb167, 3, none⟩ = some (.int .i64 a0_3) ∧ w'.cell? ⟨gb167, 4, none⟩ = some (.string a0_4) ∧ w'.cell? ⟨gb167, 5, none⟩ = some (.int .i64 a0_5) ∧ w'.cell? ⟨gb167, 6, none⟩ = some (.string a0_6) ∧ w'.cell? ⟨gb167, 7, none⟩ = some (.string a0_7) ∧ w'.cell? ⟨gb167, 8, none⟩ = some (.string a0_8) ∧ w'.cell? ⟨gb167, 9, none⟩ = some (.string a0_9) ∧ w'.cell? ⟨gb167, 10, none⟩ = some (.int .i64 a0_10)) (ds := []) #[false, false, false, false, false, false, false, false, false, false, false, false, false, false, false, false, false, false, false, false, false, false, false, false, false, false, false, false, false, false, false, false] (by kernel_rfl) rfl rfl ⟨(blk_cell BK167.out 0).trans rfl, (blk_cell BK167.out 1).trans rfl, (blk_cell BK167.out 2).trans rfl, (blk_cell BK167.out 3).trans rfl, (blk_cell BK167.out 4).trans rfl, (blk_cell BK167.out 5).trans rfl, (blk_cell BK167.out 6).trans rfl, (blk_cell BK167.out 7).trans rfl, (blk_cell BK167.out 8).trans rfl, (blk_cell BK167.out 9).trans rfl, (blk_cell BK167.out 10).trans rfl⟩ (fun hHeld => ?_); refine with_tabW stanchionref16_Req.tab6 stanchionref16_Req.bits6 (fun HT_ HW_ => ?_)
                          generalize w34.drew = w36 at BK167 HB hHeld ⊢
                          refine pure_ (i := 0) (N := some 32) (v := ?_) (a' := ?_) #[true, false, false, false, false, false, false, false, false, false, false, false, false, false, false, false, false, false, false, false, false, false, false, false, false, false, false, false, false, false, false, false] rfl rfl (any_of HT_.out (by kernel_rfl)) (fun _ _ _ h => h) (Or.inl ⟨by rfl, ?_⟩) ?_ ?_
                          rotate_left
                          · intro w'
                            go_simp
                            with_reducible rfl
                          rotate_left
                          · simp only [Act.put, List.setIfInBounds_toArray, List.set_cons_zero, List.set_cons_succ, i64_w, i32_w]
                            rfl
                          refine pure_ (i := 1) (N := some 33) (v := ?_) (a' := ?_) #[true, true, false, false, false, false, false, false, false, false, false, false, false, false, false, false, false, false, false, false, false, false, false, false, false, false, false, false, false, false, false, false] rfl rfl (any_of HT_.out (by kernel_rfl)) (fun _ _ _ h => h) (Or.inl ⟨by rfl, ?_⟩) ?_ ?_
                          rotate_left
                          · intro w'
                            go_simp
                            with_reducible rfl
                          rotate_left
                          · simp only [Act.put, List.setIfInBounds_toArray, List.set_cons_zero, List.set_cons_succ, i64_w, i32_w]
                            rfl
                          refine pure_ (i := 2) (N := some 34) (v := ?_) (a' := ?_) #[true, true, true, false, false, false, false, false, false, false, false, false, false, false, false, false, false, false, false, false, false, false, false, false, false, false, false, false, false, false, false, false] rfl rfl (any_of HT_.out (by kernel_rfl)) (fun _ _ _ h => h) (Or.inl ⟨by rfl, ?_⟩) ?_ ?_
                          rotate_left
                          · intro w'
                            go_simp
                            with_reducible rfl
                          rotate_left
                          · simp only [Act.put, List.setIfInBounds_toArray, List.set_cons_zero, List.set_cons_succ, i64_w, i32_w]
                            rfl
                          refine pure_ (i := 6) (N := some 38) (v := ?_) (a' := ?_) #[true, true, true, false, false, false, true, false, false, false, false, false, false, false, false, false, false, false, false, false, false, false, false, false, false, false, false, false, false, false, false, false] rfl rfl (any_of HT_.out (by kernel_rfl)) (fun _ _ _ h => h) (Or.inl ⟨by rfl, ?_⟩) ?_ ?_
                          rotate_left
                          · intro w'
                            go_simp
                            with_reducible rfl
                          rotate_left
                          · simp only [Act.put, List.setIfInBounds_toArray, List.set_cons_zero, List.set_cons_succ, i64_w, i32_w]
                            rfl
                          refine pure_ (i := 7) (N := some 39) (v := ?_) (a' := ?_) #[true, true, true, false, false, false, true, true, false, false, false, false, false, false, false, false, false, false, false, false, false, false, false, false, false, false, false, false, false, false, false, false] rfl rfl (any_of HT_.out (by kernel_rfl)) (fun _ _ _ h => h) (Or.inl ⟨by rfl, ?_⟩) ?_ ?_
                          rotate_left
                          · intro w'
                            go_simp
                            with_reducible rfl
                          rotate_left
                          · simp only [Act.put, List.setIfInBounds_toArray, List.set_cons_zero, List.set_cons_succ, i64_w, i32_w]
                            rfl
                          refine pure_ (i := 11) (N := some 43) (v := ?_) (a' := ?_) #[true, true, true, false, false, false, true, true, false, false, false, true, false, false, false, false, false, false, false, false, false, false, false, false, false, false, false, false, false, false, false, false] rfl rfl (any_of HT_.out (by kernel_rfl)) (fun _ _ _ h => h) (Or.inl ⟨by rfl, ?_⟩) ?_ ?_
                          rotate_left
                          · intro w'
                            go_simp
                            with_reducible rfl
                          rotate_left
                          · simp only [Act.put, List.setIfInBounds_toArray, List.set_cons_zero, List.set_cons_succ, i64_w, i32_w]
                            rfl
                          refine pure_ (i := 12) (N := some 44) (v := ?_) (a' := ?_) #[true, true, true, false, false, false, true, true, false, false, false, true, true, false, false, false, false, false, false, false, false, false, false, false, false, false, false, false, false, false, false, false] rfl rfl (any_of HT_.out (by kernel_rfl)) (fun _ _ _ h => h) (Or.inl ⟨by rfl, ?_⟩) ?_ ?_
                          rotate_left
                          · intro w'
                            go_simp
                            with_reducible rfl
                          rotate_left
                          · simp only [Act.put, List.setIfInBounds_toArray, List.set_cons_zero, List.set_cons_succ, i64_w, i32_w]
                            rfl
                          refine pure_ (i := 16) (N := some 48) (v := ?_) (a' := ?_) #[true, true, true, false, false, false, true, true, false, false, false, true, true, false, false, false, true, false, false, false, false, false, false, false, false, false, false, false, false, false, false, false] rfl rfl (any_of HT_.out (by kernel_rfl)) (fun _ _ _ h => h) (Or.inl ⟨by rfl, ?_⟩) ?_ ?_
                          rotate_left
                          · intro w'
                            go_simp
                            with_reducible rfl
                          rotate_left
                          · simp only [Act.put, List.setIfInBounds_toArray, List.set_cons_zero, List.set_cons_succ, i64_w, i32_w]
                            rfl
                          refine pure_ (i := 17) (N := some 49) (v := ?_) (a' := ?_) #[true, true, true, false, false, false, true, true, false, false, false, true, true, false, false, false, true, true, false, false, false, false, false, false, false, false, false, false, false, false, false, false] rfl rfl (any_of HT_.out (by kernel_rfl)) (fun _ _ _ h => h) (Or.inl ⟨by rfl, ?_⟩) ?_ ?_
                          rotate_left
                          · intro w'
                            go_simp
                            with_reducible rfl
                          rotate_left
                          · simp only [Act.put, List.setIfInBounds_toArray, List.set_cons_zero, List.set_cons_succ, i64_w, i32_w]
                            rfl
                          refine pure_ (i := 21) (N := some 53) (v := ?_) (a' := ?_) #[true, true, true, false, false, false, true, true, false, false, false, true, true, false, false, false, true, true, false, false, false, true, false, false, false, false, false, false, false, false, false, false] rfl rfl (any_of HT_.out (by kernel_rfl)) (fun _ _ _ h => h) (Or.inl ⟨by rfl, ?_⟩) ?_ ?_
                          rotate_left
                          · intro w'
                            go_simp
                            with_reducible rfl
                          rotate_left
                          · simp only [Act.put, List.setIfInBounds_toArray, List.set_cons_zero, List.set_cons_succ, i64_w, i32_w]
                            rfl
                          refine pure_ (i := 22) (N := some 54) (v := ?_) (a' := ?_) #[true, true, true, false, false, false, true, true, false, false, false, true, true, false, false, false, true, true, false, false, false, true, true, false, false, false, false, false, false, false, false, false] rfl rfl (any_of HT_.out (by kernel_rfl)) (fun _ _ _ h => h) (Or.inl ⟨by rfl, ?_⟩) ?_ ?_
                          rotate_left
                          · intro w'
                            go_simp
                            with_reducible rfl
                          rotate_left
                          · simp only [Act.put, List.setIfInBounds_toArray, List.set_cons_zero, List.set_cons_succ, i64_w, i32_w]
                            rfl
                          refine pure_ (i := 26) (N := some 58) (v := ?_) (a' := ?_) #[true, true, true, false, false, false, true, true, false, false, false, true, true, false, false, false, true, true, false, false, false, true, true, false, false, false, true, false, false, false, false, false] rfl rfl (any_of HT_.out (by kernel_rfl)) (fun _ _ _ h => h) (Or.inl ⟨by rfl, ?_⟩) ?_ ?_
                          rotate_left
                          · intro w'
                            go_simp
                            with_reducible rfl
                          rotate_left
                          · simp only [Act.put, List.setIfInBounds_toArray, List.set_cons_zero, List.set_cons_succ, i64_w, i32_w]
                            rfl
                          refine pure_ (i := 27) (N := some 59) (v := ?_) (a' := ?_) #[true, true, true, false, false, false, true, true, false, false, false, true, true, false, false, false, true, true, false, false, false, true, true, false, false, false, true, true, false, false, false, false] rfl rfl (any_of HT_.out (by kernel_rfl)) (fun _ _ _ h => h) (Or.inl ⟨by rfl, ?_⟩) ?_ ?_
                          rotate_left
                          · intro w'
                            go_simp
                            with_reducible rfl
                          rotate_left
                          · simp only [Act.put, List.setIfInBounds_toArray, List.set_cons_zero, List.set_cons_succ, i64_w, i32_w]
                            rfl
                          refine take_ (i := 3) (N := some 35) (v := ?_) (a' := ?_) #[true, true, true, true, false, false, true, true, false, false, false, true, true, false, false, false, true, true, false, false, false, true, true, false, false, false, true, true, false, false, false, false] rfl rfl (take_ofW HT_.out HW_.out (by kernel_rfl)) (fun _ _ _ h => h) (Or.inl ⟨by rfl, ?_⟩) hHeld ?_ ?_
                          rotate_left
                          · rintro w' ⟨s0, s1, s2, s3, s4, s5, s6, s7, s8, s9, s10⟩
                            go_simp
                            with_reducible rfl
                          rotate_left
                          · simp only [Act.put, List.setIfInBounds_toArray, List.set_cons_zero, List.set_cons_succ, i64_w, i32_w]
                            rfl
                          refine take_ (i := 8) (N := some 40) (v := ?_) (a' := ?_) #[true, true, true, true, false, false, true, true, true, false, false, true, true, false, false, false, true, true, false, false, false, true, true, false, false, false, true, true, false, false, false, false] rfl rfl (take_ofW HT_.out HW_.out (by kernel_rfl)) (fun _ _ _ h => h) (Or.inl ⟨by rfl, ?_⟩) hHeld ?_ ?_
                          rotate_left
                          · rintro w' ⟨s0, s1, s2, s3, s4, s5, s6, s7, s8, s9, s10⟩
                            go_simp
                            with_reducible rfl
                          rotate_left
                          · simp only [Act.put, List.setIfInBounds_toArray, List.set_cons_zero, List.set_cons_succ, i64_w, i32_w]
                            rfl
                          refine take_ (i := 13) (N := some 45) (v := ?_) (a' := ?_) #[true, true, true, true, false, false, true, true, true, false, false, true, true, true, false, false, true, true, false, false, false, true, true, false, false, false, true, true, false, false, false, false] rfl rfl (take_ofW HT_.out HW_.out (by kernel_rfl)) (fun _ _ _ h => h) (Or.inl ⟨by rfl, ?_⟩) hHeld ?_ ?_
                          rotate_left
                          · rintro w' ⟨s0, s1, s2, s3, s4, s5, s6, s7, s8, s9, s10⟩
                            go_simp
                            with_reducible rfl
                          rotate_left
                          · simp only [Act.put, List.setIfInBounds_toArray, List.set_cons_zero, List.set_cons_succ, i64_w, i32_w]
                            rfl
                          refine take_ (i := 18) (N := some 50) (v := ?_) (a' := ?_) #[true, true, true, true, false, false, true, true, true, false, false, true, true, true, false, false, true, true, true, false, false, true, true, false, false, false, true, true, false, false, false, false] rfl rfl (take_ofW HT_.out HW_.out (by kernel_rfl)) (fun _ _ _ h => h) (Or.inl ⟨by rfl, ?_⟩) hHeld ?_ ?_
                          rotate_left
                          · rintro w' ⟨s0, s1, s2, s3, s4, s5, s6, s7, s8, s9, s10⟩
                            go_simp
                            with_reducible rfl
                          rotate_left
                          · simp only [Act.put, List.setIfInBounds_toArray, List.set_cons_zero, List.set_cons_succ, i64_w, i32_w]
                            rfl
                          refine take_ (i := 23) (N := some 55) (v := ?_) (a' := ?_) #[true, true, true, true, false, false, true, true, true, false, false, true, true, true, false, false, true, true, true, false, false, true, true, true, false, false, true, true, false, false, false, false] rfl rfl (take_ofW HT_.out HW_.out (by kernel_rfl)) (fun _ _ _ h => h) (Or.inl ⟨by rfl, ?_⟩) hHeld ?_ ?_
                          rotate_left
                          · rintro w' ⟨s0, s1, s2, s3, s4, s5, s6, s7, s8, s9, s10⟩
                            go_simp
                            with_reducible rfl
                          rotate_left
                          · simp only [Act.put, List.setIfInBounds_toArray, List.set_cons_zero, List.set_cons_succ, i64_w, i32_w]
                            rfl
                          refine take_ (i := 28) (N := some 60) (v := ?_) (a' := ?_) #[true, true, true, true, false, false, true, true, true, false, false, true, true, true, false, false, true, true, true, false, false, true, true, true, false, false, true, true, true, false, false, false] rfl rfl (take_ofW HT_.out HW_.out (by kernel_rfl)) (fun _ _ _ h => h) (Or.inl ⟨by rfl, ?_⟩) hHeld ?_ ?_
                          rotate_left
                          · rintro w' ⟨s0, s1, s2, s3, s4, s5, s6, s7, s8, s9, s10⟩
                            go_simp
                            with_reducible rfl
                          rotate_left
                          · simp only [Act.put, List.setIfInBounds_toArray, List.set_cons_zero, List.set_cons_succ, i64_w, i32_w]
                            rfl
                          refine one_ (i := 4) (N := some 36) #[true, true, true, true, true, false, true, true, true, false, false, true, true, true, false, false, true, true, true, false, false, true, true, true, false, false, true, true, true, false, false, false] rfl rfl (one_of HT_.out (by kernel_rfl)) (by decide) (fun K hK => ?_)
                          refine goes_ Tryd.func23 (by kernel_rfl) rfl #[.int .i64 a0_5] (by rfl) rfl rfl (by (try simp only [List.map_toArray, List.map_cons, List.map_nil]); first | done | rfl | (simp only [List.length_drop, List.length_take]; rfl)) ?_
                          with_reducible refine (stanchionref16_num.calls a0_5 t174 _ A14.out).mono ?_
                          rintro e w37 ⟨rfl, hb⟩
                          refine ⟨_, rfl, ?_⟩
                          have n0_ := Aside0.mk (blk_below (g := gb167) (o := .cells #[.int .i64 a0_0, .int .i64 a0_1, .int .i64 a0_2, .int .i64 a0_3, .string a0_4, .int .i64 a0_5, .string a0_6, .string a0_7, .string a0_8, .string a0_9, .int .i64 a0_10] 25 (0, 0)) (by (with_reducible repeat (first | refine blk_drewN ?_ _ | refine blk_drew ?_ | refine blk_alloc ?_ _)); exact BK167.out) hb)
                          have n1_ := Aside0.mk (below_step (by repeat (first | (with_reducible first | exact HB.out | apply below_alloc | apply pw_below_drewN | apply below_drew1 | refine below_set ?_ GE167.out) | exact HB.out)) hb)
                          clear BK167
                          clear HB
                          have BK167 := n0_
                          have HB := n1_
                          clear n0_ n1_
                          (try clear hb)
                          (try clear hb2)
                          (try clear hk)
                          (try clear hi)
                          refine hK.out _ _ ⟨(blk_cell BK167.out 0).trans rfl, (blk_cell BK167.out 1).trans rfl, (blk_cell BK167.out 2).trans rfl, (blk_cell BK167.out 3).trans rfl, (blk_cell BK167.out 4).trans rfl, (blk_cell BK167.out 5).trans rfl, (blk_cell BK167.out 6).trans rfl, (blk_cell BK167.out 7).trans rfl, (blk_cell BK167.out 8).trans rfl, (blk_cell BK167.out 9).trans rfl, (blk_cell BK167.out 10).trans rfl⟩ (fun hHeld => ?_)
                          clear hK K
                          refine norm_ (a' := ?_) ?_ ?_
                          rotate_left
                          · show Act.put _ (some 36) _ = _
                            simp only [Act.put, List.setIfInBounds_toArray, List.set_cons_zero, List.set_cons_succ, i64_w, i32_w]
                            rfl
                          refine pure_ (i := 5) (N := some 37) (v := ?_) (a' := ?_) #[true, true, true, true, true, true, true, true, true, false, false, true, true, true, false, false, true, true, true, false, false, true, true, true, false, false, true, true, true, false, false, false] rfl rfl (any_of HT_.out (by kernel_rfl)) (fun _ _ _ h => h) (Or.inl ⟨by rfl, ?_⟩) ?_ ?_
                          rotate_left
                          · intro w'
                            go_simp
                            with_reducible rfl
                          rotate_left
                          · simp only [Act.put, List.setIfInBounds_toArray, List.set_cons_zero, List.set_cons_succ, i64_w, i32_w]
                            rfl
                          refine one_ (i := 9) (N := some 41) #[true, true, true, true, true, true, true, true, true, true, false, true, true, true, false, false, true, true, true, false, false, true, true, true, false, false, true, true, true, false, false, false] rfl rfl (one_of HT_.out (by kernel_rfl)) (by decide) (fun K hK => ?_)
                          refine goes_ Tryd.func24 (by kernel_rfl) rfl #[.string a0_6] (by rfl) rfl rfl (by (try simp only [List.map_toArray, List.map_cons, List.map_nil]); first | done | rfl | (simp only [List.length_drop, List.length_take]; rfl)) ?_
                          with_reducible refine (stanchionref16_text.calls a0_6 t175 _ A16.out).mono ?_
                          rintro e w38 ⟨rfl, hb⟩
                          refine ⟨_, rfl, ?_⟩
                          have n0_ := Aside0.mk (blk_below (g := gb167) (o := .cells #[.int .i64 a0_0, .int .i64 a0_1, .int .i64 a0_2, .int .i64 a0_3, .string a0_4, .int .i64 a0_5, .string a0_6, .string a0_7, .string a0_8, .string a0_9, .int .i64 a0_10] 25 (0, 0)) (by (with_reducible repeat (first | refine blk_drewN ?_ _ | refine blk_drew ?_ | refine blk_alloc ?_ _)); exact BK167.out) hb)
                          have n1_ := Aside0.mk (below_step (by repeat (first | (with_reducible first | exact HB.out | apply below_alloc | apply pw_below_drewN | apply below_drew1 | refine below_set ?_ GE167.out) | exact HB.out)) hb)
                          clear BK167
                          clear HB
                          have BK167 := n0_
                          have HB := n1_
                          clear n0_ n1_
                          (try clear hb)
                          (try clear hb2)
                          (try clear hk)
                          (try clear hi)
                          refine hK.out _ _ ⟨(blk_cell BK167.out 0).trans rfl, (blk_cell BK167.out 1).trans rfl, (blk_cell BK167.out 2).trans rfl, (blk_cell BK167.out 3).trans rfl, (blk_cell BK167.out 4).trans rfl, (blk_cell BK167.out 5).trans rfl, (blk_cell BK167.out 6).trans rfl, (blk_cell BK167.out 7).trans rfl, (blk_cell BK167.out 8).trans rfl, (blk_cell BK167.out 9).trans rfl, (blk_cell BK167.out 10).trans rfl⟩ (fun hHeld => ?_)
                          clear hK K
                          refine norm_ (a' := ?_) ?_ ?_
                          rotate_left
                          · show Act.put _ (some 41) _ = _
                            simp only [Act.put, List.setIfInBounds_toArray, List.set_cons_zero, List.set_cons_succ, i64_w, i32_w]
                            rfl
                          refine pure_ (i := 10) (N := some 42) (v := ?_) (a' := ?_) #[true, true, true, true, true, true, true, true, true, true, true, true, true, true, false, false, true, true, true, false, false, true, true, true, false, false, true, true, true, false, false, false] rfl rfl (any_of HT_.out (by kernel_rfl)) (fun _ _ _ h => h) (Or.inl ⟨by rfl, ?_⟩) ?_ ?_
                          rotate_left
                          · intro w'
                            go_simp
                            with_reducible rfl
                          rotate_left
                          · simp only [Act.put, List.setIfInBounds_toArray, List.set_cons_zero, List.set_cons_succ, i64_w, i32_w]
                            rfl
                          refine one_ (i := 14) (N := some 46) #[true, true, true, true, true, true, true, true, true, true, true, true, true, true, true, false, true, true, true, false, false, true, true, true, false, false, true, true, true, false, false, false] rfl rfl (one_of HT_.out (by kernel_rfl)) (by decide) (fun K hK => ?_)
                          refine goes_ Tryd.func24 (by kernel_rfl) rfl #[.string a0_7] (by rfl) rfl rfl (by (try simp only [List.map_toArray, List.map_cons, List.map_nil]); first | done | rfl | (simp only [List.length_drop, List.length_take]; rfl)) ?_
                          with_reducible refine (stanchionref16_text.calls a0_7 t176 _ A18.out).mono ?_
                          rintro e w39 ⟨rfl, hb⟩
                          refine ⟨_, rfl, ?_⟩
                          have n0_ := Aside0.mk (blk_below (g := gb167) (o := .cells #[.int .i64 a0_0, .int .i64 a0_1, .int .i64 a0_2, .int .i64 a0_3, .string a0_4, .int .i64 a0_5, .string a0_6, .string a0_7, .string a0_8, .string a0_9, .int .i64 a0_10] 25 (0, 0)) (by (with_reducible repeat (first | refine blk_drewN ?_ _ | refine blk_drew ?_ | refine blk_alloc ?_ _)); exact BK167.out) hb)
                          have n1_ := Aside0.mk (below_step (by repeat (first | (with_reducible first | exact HB.out | apply below_alloc | apply pw_below_drewN | apply below_drew1 | refine below_set ?_ GE167.out) | exact HB.out)) hb)
                          clear BK167
                          clear HB
                          have BK167 := n0_
                          have HB := n1_
                          clear n0_ n1_
                          (try clear hb)
                          (try clear hb2)
                          (try clear hk)
                          (try clear hi)
                          refine hK.out _ _ ⟨(blk_cell BK167.out 0).trans rfl, (blk_cell BK167.out 1).trans rfl, (blk_cell BK167.out 2).trans rfl, (blk_cell BK167.out 3).trans rfl, (blk_cell BK167.out 4).trans rfl, (blk_cell BK167.out 5).trans rfl, (blk_cell BK167.out 6).trans rfl, (blk_cell BK167.out 7).trans rfl, (blk_cell BK167.out 8).trans rfl, (blk_cell BK167.out 9).trans rfl, (blk_cell BK167.out 10).trans rfl⟩ (fun hHeld => ?_)
                          clear hK K
                          refine norm_ (a' := ?_) ?_ ?_
                          rotate_left
                          · show Act.put _ (some 46) _ = _
                            simp only [Act.put, List.setIfInBounds_toArray, List.set_cons_zero, List.set_cons_succ, i64_w, i32_w]
                            rfl
                          refine pure_ (i := 15) (N := some 47) (v := ?_) (a' := ?_) #[true, true, true, true, true, true, true, true, true, true, true, true, true, true, true, true, true, true, true, false, false, true, true, true, false, false, true, true, true, false, false, false] rfl rfl (any_of HT_.out (by kernel_rfl)) (fun _ _ _ h => h) (Or.inl ⟨by rfl, ?_⟩) ?_ ?_
                          rotate_left
                          · intro w'
                            go_simp
                            with_reducible rfl
                          rotate_left
                          · simp only [Act.put, List.setIfInBounds_toArray, List.set_cons_zero, List.set_cons_succ, i64_w, i32_w]
                            rfl
                          refine one_ (i := 19) (N := some 51) #[true, true, true, true, true, true, true, true, true, true, true, true, true, true, true, true, true, true, true, true, false, true, true, true, false, false, true, true, true, false, false, false] rfl rfl (one_of HT_.out (by kernel_rfl)) (by decide) (fun K hK => ?_)
                          refine goes_ Tryd.func24 (by kernel_rfl) rfl #[.string a0_8] (by rfl) rfl rfl (by (try simp only [List.map_toArray, List.map_cons, List.map_nil]); first | done | rfl | (simp only [List.length_drop, List.length_take]; rfl)) ?_
                          with_reducible refine (stanchionref16_text.calls a0_8 t177 _ A20.out).mono ?_
                          rintro e w40 ⟨rfl, hb⟩
                          refine ⟨_, rfl, ?_⟩
                          have n0_ := Aside0.mk (blk_below (g := gb167) (o := .cells #[.int .i64 a0_0, .int .i64 a0_1, .int .i64 a0_2, .int .i64 a0_3, .string a0_4, .int .i64 a0_5, .string a0_6, .string a0_7, .string a0_8, .string a0_9, .int .i64 a0_10] 25 (0, 0)) (by (with_reducible repeat (first | refine blk_drewN ?_ _ | refine blk_drew ?_ | refine blk_alloc ?_ _)); exact BK167.out) hb)
                          have n1_ := Aside0.mk (below_step (by repeat (first | (with_reducible first | exact HB.out | apply below_alloc | apply pw_below_drewN | apply below_drew1 | refine below_set ?_ GE167.out) | exact HB.out)) hb)
                          clear BK167
                          clear HB
                          have BK167 := n0_
                          have HB := n1_
                          clear n0_ n1_
                          (try clear hb)
                          (try clear hb2)
                          (try clear hk)
                          (try clear hi)
                          refine hK.out _ _ ⟨(blk_cell BK167.out 0).trans rfl, (blk_cell BK167.out 1).trans rfl, (blk_cell BK167.out 2).trans rfl, (blk_cell BK167.out 3).trans rfl, (blk_cell BK167.out 4).trans rfl, (blk_cell BK167.out 5).trans rfl, (blk_cell BK167.out 6).trans rfl, (blk_cell BK167.out 7).trans rfl, (blk_cell BK167.out 8).trans rfl, (blk_cell BK167.out 9).trans rfl, (blk_cell BK167.out 10).trans rfl⟩ (fun hHeld => ?_)
                          clear hK K
                          refine norm_ (a' := ?_) ?_ ?_
                          rotate_left
                          · show Act.put _ (some 51) _ = _
                            simp only [Act.put, List.setIfInBounds_toArray, List.set_cons_zero, List.set_cons_succ, i64_w, i32_w]
                            rfl
                          refine pure_ (i := 20) (N := some 52) (v := ?_) (a' := ?_) #[true, true, true, true, true, true, true, true, true, true, true, true, true, true, true, true, true, true, true, true, true, true, true, true, false, false, true, true, true, false, false, false] rfl rfl (any_of HT_.out (by kernel_rfl)) (fun _ _ _ h => h) (Or.inl ⟨by rfl, ?_⟩) ?_ ?_
                          rotate_left
                          · intro w'
                            go_simp
                            with_reducible rfl
                          rotate_left
                          · simp only [Act.put, List.setIfInBounds_toArray, List.set_cons_zero, List.set_cons_succ, i64_w, i32_w]
                            rfl
                          refine one_ (i := 24) (N := some 56) #[true, true, true, true, true, true, true, true, true, true, true, true, true, true, true, true, true, true, true, true, true, true, true, true, true, false, true, true, true, false, false, false] rfl rfl (one_of HT_.out (by kernel_rfl)) (by decide) (fun K hK => ?_)
                          refine goes_ Tryd.func24 (by kernel_rfl) rfl #[.string a0_9] (by rfl) rfl rfl (by (try simp only [List.map_toArray, List.map_cons, List.map_nil]); first | done | rfl | (simp only [List.length_drop, List.length_take]; rfl)) ?_
                          with_reducible refine (stanchionref16_text.calls a0_9 t178 _ A22.out).mono ?_
                          rintro e w41 ⟨rfl, hb⟩
                          refine ⟨_, rfl, ?_⟩
                          have n0_ := Aside0.mk (blk_below (g := gb167) (o := .cells #[.int .i64 a0_0, .int .i64 a0_1, .int .i64 a0_2, .int .i64 a0_3, .string a0_4, .int .i64 a0_5, .string a0_6, .string a0_7, .string a0_8, .string a0_9, .int .i64 a0_10] 25 (0, 0)) (by (with_reducible repeat (first | refine blk_drewN ?_ _ | refine blk_drew ?_ | refine blk_alloc ?_ _)); exact BK167.out) hb)
                          have n1_ := Aside0.mk (below_step (by repeat (first | (with_reducible first | exact HB.out | apply below_alloc | apply pw_below_drewN | apply below_drew1 | refine below_set ?_ GE167.out) | exact HB.out)) hb)
                          clear BK167
                          clear HB
                          have BK167 := n0_
                          have HB := n1_
                          clear n0_ n1_
                          (try clear hb)
                          (try clear hb2)
                          (try clear hk)
                          (try clear hi)
                          refine hK.out _ _ ⟨(blk_cell BK167.out 0).trans rfl, (blk_cell BK167.out 1).trans rfl, (blk_cell BK167.out 2).trans rfl, (blk_cell BK167.out 3).trans rfl, (blk_cell BK167.out 4).trans rfl, (blk_cell BK167.out 5).trans rfl, (blk_cell BK167.out 6).trans rfl, (blk_cell BK167.out 7).trans rfl, (blk_cell BK167.out 8).trans rfl, (blk_cell BK167.out 9).trans rfl, (blk_cell BK167.out 10).trans rfl⟩ (fun hHeld => ?_)
                          clear hK K
                          refine norm_ (a' := ?_) ?_ ?_
                          rotate_left
                          · show Act.put _ (some 56) _ = _
                            simp only [Act.put, List.setIfInBounds_toArray, List.set_cons_zero, List.set_cons_succ, i64_w, i32_w]
                            rfl
                          refine pure_ (i := 25) (N := some 57) (v := ?_) (a' := ?_) #[true, true, true, true, true, true, true, true, true, true, true, true, true, true, true, true, true, true, true, true, true, true, true, true, true, true, true, true, true, false, false, false] rfl rfl (any_of HT_.out (by kernel_rfl)) (fun _ _ _ h => h) (Or.inl ⟨by rfl, ?_⟩) ?_ ?_
                          rotate_left
                          · intro w'
                            go_simp
                            with_reducible rfl
                          rotate_left
                          · simp only [Act.put, List.setIfInBounds_toArray, List.set_cons_zero, List.set_cons_succ, i64_w, i32_w]
                            rfl
                          refine one_ (i := 29) (N := some 61) #[true, true, true, true, true, true, true, true, true, true, true, true, true, true, true, true, true, true, true, true, true, true, true, true, true, true, true, true, true, true, false, false] rfl rfl (one_of HT_.out (by kernel_rfl)) (by decide) (fun K hK => ?_)
                          refine goes_ Tryd.func23 (by kernel_rfl) rfl #[.int .i64 a0_10] (by rfl) rfl rfl (by (try simp only [List.map_toArray, List.map_cons, List.map_nil]); first | done | rfl | (simp only [List.length_drop, List.length_take]; rfl)) ?_
                          with_reducible refine (stanchionref16_num.calls a0_10 t179 _ A24.out).mono ?_
                          rintro e w42 ⟨rfl, hb⟩
                          refine ⟨_, rfl, ?_⟩
                          have n0_ := Aside0.mk (blk_below (g := gb167) (o := .cells #[.int .i64 a0_0, .int .i64 a0_1, .int .i64 a0_2, .int .i64 a0_3, .string a0_4, .int .i64 a0_5, .string a0_6, .string a0_7, .string a0_8, .string a0_9, .int .i64 a0_10] 25 (0, 0)) (by (with_reducible repeat (first | refine blk_drewN ?_ _ | refine blk_drew ?_ | refine blk_alloc ?_ _)); exact BK167.out) hb)
                          have n1_ := Aside0.mk (below_step (by repeat (first | (with_reducible first | exact HB.out | apply below_alloc | apply pw_below_drewN | apply below_drew1 | refine below_set ?_ GE167.out) | exact HB.out)) hb)
                          clear BK167
                          clear HB
                          have BK167 := n0_
                          have HB := n1_
                          clear n0_ n1_
                          (try clear hb)
                          (try clear hb2)
                          (try clear hk)
                          (try clear hi)
                          refine hK.out _ _ ⟨(blk_cell BK167.out 0).trans rfl, (blk_cell BK167.out 1).trans rfl, (blk_cell BK167.out 2).trans rfl, (blk_cell BK167.out 3).trans rfl, (blk_cell BK167.out 4).trans rfl, (blk_cell BK167.out 5).trans rfl, (blk_cell BK167.out 6).trans rfl, (blk_cell BK167.out 7).trans rfl, (blk_cell BK167.out 8).trans rfl, (blk_cell BK167.out 9).trans rfl, (blk_cell BK167.out 10).trans rfl⟩ (fun hHeld => ?_)
                          clear hK K
                          refine norm_ (a' := ?_) ?_ ?_
                          rotate_left
                          · show Act.put _ (some 61) _ = _
                            simp only [Act.put, List.setIfInBounds_toArray, List.set_cons_zero, List.set_cons_succ, i64_w, i32_w]
                            rfl
                          refine pure_ (i := 30) (N := some 62) (v := ?_) (a' := ?_) #[true, true, true, true, true, true, true, true, true, true, true, true, true, true, true, true, true, true, true, true, true, true, true, true, true, true, true, true, true, true, true, false] rfl rfl (any_of HT_.out (by kernel_rfl)) (fun _ _ _ h => h) (Or.inl ⟨by rfl, ?_⟩) ?_ ?_
                          rotate_left
                          · intro w'
                            go_simp
                            with_reducible rfl
                          rotate_left
                          · simp only [Act.put, List.setIfInBounds_toArray, List.set_cons_zero, List.set_cons_succ, i64_w, i32_w]
                            rfl
                          refine pure_ (i := 31) (N := some 5) (v := ?_) (a' := ?_) #[true, true, true, true, true, true, true, true, true, true, true, true, true, true, true, true, true, true, true, true, true, true, true, true, true, true, true, true, true, true, true, true] rfl rfl (any_of HT_.out (by kernel_rfl)) (fun _ _ _ h => h) (Or.inl ⟨by rfl, ?_⟩) ?_ ?_
                          rotate_left
                          · intro w'
                            go_simp
                            with_reducible rfl
                          rotate_left
                          · simp only [Act.put, List.setIfInBounds_toArray, List.set_cons_zero, List.set_cons_succ, i64_w, i32_w]
                            rfl
                          refine done_ (done_of HT_.out (by kernel_rfl)) ?_
                          try go_wp2
                          go_ret2
                          exact ⟨by first | rfl | (simp [errW_none, errW_some] <;> rfl) | (simp [*, errW_none, errW_some] <;> rfl), by repeat (first | (with_reducible first | exact HB.out | apply below_alloc | apply pw_below_drewN | apply below_drew1 | refine below_set ?_ GE167.out) | exact HB.out)⟩
                        · rw [if_neg c25] at H
                          exact absurd H (by simp)
                      · rw [if_neg c23] at H
                        exact absurd H (by simp)
                    · rw [if_neg c21] at H
                      exact absurd H (by simp)
                  · rw [if_neg c19] at H
                    exact absurd H (by simp)
                · rw [if_neg c17] at H
                  exact absurd H (by simp)
              · rw [if_neg c15] at H
                exact absurd H (by simp)
            · rw [if_neg c13] at H
              have c13b0 : (a0_0 == 5) = false := beq_eq_false_iff_ne.mpr c13
              have c13b1 : (a0_0 != 5) = true := bne_iff_ne.mpr c13
              simp only [Option.some.injEq, Prod.mk.injEq] at H
              obtain ⟨rfl, rfl⟩ := H
              go_enter Tryd.func10, Tryd.ntmps10
              try go_wp2_with (first | ((with_reducible refine gate_dst (N := 1) rfl ?_); refine box_event ?hg (N := 1) ?hd (cs := #[.int .i64 a0_0, .int .i64 a0_1, .int .i64 a0_2, .int .i64 a0_3, .string a0_4, .int .i64 a0_5, .string a0_6, .string a0_7, .string a0_8, .string a0_9, .int .i64 a0_10]) (t := 25) ?hr ?_; (case hd => rfl); (case hg => rfl); (case hr => first | (go_simp; done) | (go_simp; rfl)); intro gb167 hg w43 hbox hb; have n0_ := Aside0.mk (below_step (by repeat (first | (with_reducible first | exact HB.out | apply below_alloc | apply pw_below_drewN | apply below_drew1) | exact HB.out)) hb); have n1_ := Aside0.mk (hbox); have n2_ := Aside0.mk ((by rw [hg]; exact (below_size (by repeat (first | (with_reducible first | exact HB.out | apply below_alloc | apply pw_below_drewN | apply below_drew1) | exact HB.out))) : w.heap.size ≤ gb167)); have n3_ := Aside0.mk ((by rw [hg]; exact (below_size (by repeat (first | (with_reducible first | exact HB.out | apply below_alloc | apply pw_below_drewN | apply below_drew1) | exact HB.out))) : w.heap.size ≤ gb167)); clear HB; have HB := n0_; have BK167 := n1_; have GW167 := n2_; have GE167 := n3_; clear n0_ n1_ n2_ n3_; clear hb hbox hg; have hcz44_0 : w43.cell? ⟨gb167, 0, none⟩ = some (.int .i64 a0_0) := (blk_cell BK167.out 0).trans rfl; have hcz44_1 : w43.cell? ⟨gb167, 1, none⟩ = some (.int .i64 a0_1) := (blk_cell BK167.out 1).trans rfl; have hcz44_2 : w43.cell? ⟨gb167, 2, none⟩ = some (.int .i64 a0_2) := (blk_cell BK167.out 2).trans rfl; have hcz44_3 : w43.cell? ⟨gb167, 3, none⟩ = some (.int .i64 a0_3) := (blk_cell BK167.out 3).trans rfl; have hcz44_4 : w43.cell? ⟨gb167, 4, none⟩ = some (.string a0_4) := (blk_cell BK167.out 4).trans rfl; have hcz44_5 : w43.cell? ⟨gb167, 5, none⟩ = some (.int .i64 a0_5) := (blk_cell BK167.out 5).trans rfl; have hcz44_6 : w43.cell? ⟨gb167, 6, none⟩ = some (.string a0_6) := (blk_cell BK167.out 6).trans rfl; have hcz44_7 : w43.cell? ⟨gb167, 7, none⟩ = some (.string a0_7) := (blk_cell BK167.out 7).trans rfl; have hcz44_8 : w43.cell? ⟨gb167, 8, none⟩ = some (.string a0_8) := (blk_cell BK167.out 8).trans rfl; have hcz44_9 : w43.cell? ⟨gb167, 9, none⟩ = some (.string a0_9) := (blk_cell BK167.out 9).trans rfl; have hcz44_10 : w43.cell? ⟨gb167, 10, none⟩ = some (.int .i64 a0_10) := (blk_cell BK167.out 10).trans rfl; have hfz44_0 := blk_frozen BK167.out 0; have hfz44_1 := blk_frozen BK167.out 1; have hfz44_2 := blk_frozen BK167.out 2; have hfz44_3 := blk_frozen BK167.out 3; have hfz44_4 := blk_frozen BK167.out 4; have hfz44_5 := blk_frozen BK167.out 5; have hfz44_6 := blk_frozen BK167.out 6; have hfz44_7 := blk_frozen BK167.out 7; have hfz44_8 := blk_frozen BK167.out 8; have hfz44_9 := blk_frozen BK167.out 9; have hfz44_10 := blk_frozen BK167.out 10) | ((with_reducible refine gate_callee (f := 14) rfl ?_); refine goesL_ (some 7) rfl rfl Tryd.func14 (by kernel_rfl) rfl #[.agg #[.int .i64 a0_0, .int .i64 a0_1, .int .i64 a0_2, .int .i64 a0_3, .string a0_4, .int .i64 a0_5, .string a0_6, .string a0_7, .string a0_8, .string a0_9, .int .i64 a0_10]] rfl (by (try simp only [List.map_toArray, List.map_cons, List.map_nil]); first | done | rfl | (simp only [List.length_drop, List.length_take]; rfl)) ?_; (with_reducible refine (stanchionref16_MayReq.calls k a0_0 a0_1 a0_2 a0_3 a0_4 a0_5 a0_6 a0_7 a0_8 a0_9 a0_10 true _ A2.out).mono ?_); rintro e w45 ⟨rfl, hb⟩; refine ⟨_, rfl, ?_⟩; have n0_ := Aside0.mk (blk_below (g := gb167) (o := .cells #[.int .i64 a0_0, .int .i64 a0_1, .int .i64 a0_2, .int .i64 a0_3, .string a0_4, .int .i64 a0_5, .string a0_6, .string a0_7, .string a0_8, .string a0_9, .int .i64 a0_10] 25 (0, 0)) (by (with_reducible repeat (first | refine blk_drewN ?_ _ | refine blk_drew ?_ | refine blk_alloc ?_ _)); exact BK167.out) hb); have n1_ := Aside0.mk (below_step (by repeat (first | (with_reducible first | exact HB.out | apply below_alloc | apply pw_below_drewN | apply below_drew1 | refine below_set ?_ GE167.out) | exact HB.out)) hb); clear BK167; clear HB; have BK167 := n0_; have HB := n1_; clear n0_ n1_; (try clear hb); (try clear hb2); (try clear hk); (try clear hi)))
              have n0_ := Aside0.mk (blk_drew BK167.out)
              have n1_ := Aside0.mk (below_drew1 HB.out)
              clear BK167
              clear HB
              have BK167 := n0_
              have HB := n1_
              clear n0_ n1_
              refine start_ (n := 20) (S := fun w' => w'.cell? ⟨gb167, 0, none⟩ = some (.int .i64 a0_0) ∧ w'.cell? ⟨gb167, 1, none⟩ = some (.int .i64 a0_1) ∧ w'.cell? ⟨gb167, 2, none⟩ = some (.int .i64 a0_2) ∧ w'.cell? ⟨gb167, 3, none⟩ = some (.int .i64 a0_3) ∧ w'.cell? ⟨gb167, 4, none⟩ = some (.string a0_4) ∧ w'.cell? ⟨gb167, 5, none⟩ = some (.int .i64 a0_5) ∧ w'.cell? ⟨gb167, 6, none⟩ = some (.string a0_6) ∧ w'.cell? ⟨gb167, 7, none⟩ = some (.string a0_7) ∧ w'.cell? ⟨gb167, 8, none⟩ = some (.string a0_8) ∧ w'.cell? ⟨gb167, 9, none⟩ = some (.string a0_9) ∧ w'.cell? ⟨gb167, 10, none⟩ = some (.int .i64 a0_10)) (ds := []) #[false, false, false, false, false, false, false, false, false, false, false, false, false, false, false, false, false, false, false, false] (by kernel_rfl) rfl rfl ⟨(blk_cell BK167.out 0).trans rfl, (blk_cell BK167.out 1).trans rfl, (blk_cell BK167.out 2).trans rfl, (blk_cell BK167.out 3).trans rfl, (blk_cell BK167.out 4).trans rfl, (blk_cell BK167.out 5).trans rfl, (blk_cell BK167.out 6).trans rfl, (blk_cell BK167.out 7).trans rfl, (blk_cell BK167.out 8).trans rfl, (blk_cell BK167.out 9).trans rfl, (blk_cell BK167.out 10).trans rfl⟩ (fun hHeld => ?_); refine with_tabW stanchionref16_Req.tab4 stanchionref16_Req.bits4 (fun HT_ HW_ => ?_)
              generalize w45.drew = w46 at BK167 HB hHeld ⊢
              refine pure_ (i := 0) (N := some 10) (v := ?_) (a' := ?_) #[true, false, false, false, false, false, false, false, false, false, false, false, false, false, false, false, false, false, false, false] rfl rfl (any_of HT_.out (by kernel_rfl)) (fun _ _ _ h => h) (Or.inl ⟨by rfl, ?_⟩) ?_ ?_
              rotate_left
              · intro w'
                go_simp
                with_reducible rfl
              rotate_left
              · simp only [Act.put, List.setIfInBounds_toArray, List.set_cons_zero, List.set_cons_succ, i64_w, i32_w]
                rfl
              refine pure_ (i := 3) (N := some 13) (v := ?_) (a' := ?_) #[true, false, false, true, false, false, false, false, false, false, false, false, false, false, false, false, false, false, false, false] rfl rfl (any_of HT_.out (by kernel_rfl)) (fun _ _ _ h => h) (Or.inl ⟨by rfl, ?_⟩) ?_ ?_
              rotate_left
              · intro w'
                go_simp
                with_reducible rfl
              rotate_left
              · simp only [Act.put, List.setIfInBounds_toArray, List.set_cons_zero, List.set_cons_succ, i64_w, i32_w]
                rfl
              refine pure_ (i := 7) (N := some 17) (v := ?_) (a' := ?_) #[true, false, false, true, false, false, false, true, false, false, false, false, false, false, false, false, false, false, false, false] rfl rfl (any_of HT_.out (by kernel_rfl)) (fun _ _ _ h => h) (Or.inl ⟨by rfl, ?_⟩) ?_ ?_
              rotate_left
              · intro w'
                go_simp
                with_reducible rfl
              rotate_left
              · simp only [Act.put, List.setIfInBounds_toArray, List.set_cons_zero, List.set_cons_succ, i64_w, i32_w]
                rfl
              refine pure_ (i := 11) (N := some 21) (v := ?_) (a' := ?_) #[true, false, false, true, false, false, false, true, false, false, false, true, false, false, false, false, false, false, false, false] rfl rfl (any_of HT_.out (by kernel_rfl)) (fun _ _ _ h => h) (Or.inl ⟨by rfl, ?_⟩) ?_ ?_
              rotate_left
              · intro w'
                go_simp
                with_reducible rfl
              rotate_left
              · simp only [Act.put, List.setIfInBounds_toArray, List.set_cons_zero, List.set_cons_succ, i64_w, i32_w]
                rfl
              refine pure_ (i := 15) (N := some 25) (v := ?_) (a' := ?_) #[true, false, false, true, false, false, false, true, false, false, false, true, false, false, false, true, false, false, false, false] rfl rfl (any_of HT_.out (by kernel_rfl)) (fun _ _ _ h => h) (Or.inl ⟨by rfl, ?_⟩) ?_ ?_
              rotate_left
              · intro w'
                go_simp
                with_reducible rfl
              rotate_left
              · simp only [Act.put, List.setIfInBounds_toArray, List.set_cons_zero, List.set_cons_succ, i64_w, i32_w]
                rfl
              refine take_ (i := 1) (N := some 11) (v := ?_) (a' := ?_) #[true, true, false, true, false, false, false, true, false, false, false, true, false, false, false, true, false, false, false, false] rfl rfl (take_ofW HT_.out HW_.out (by kernel_rfl)) (fun _ _ _ h => h) (Or.inl ⟨by rfl, ?_⟩) hHeld ?_ ?_
              rotate_left
              · rintro w' ⟨s0, s1, s2, s3, s4, s5, s6, s7, s8, s9, s10⟩
                go_simp
                with_reducible rfl
              rotate_left
              · simp only [Act.put, List.setIfInBounds_toArray, List.set_cons_zero, List.set_cons_succ, i64_w, i32_w]
                rfl
              refine take_ (i := 4) (N := some 14) (v := ?_) (a' := ?_) #[true, true, false, true, true, false, false, true, false, false, false, true, false, false, false, true, false, false, false, false] rfl rfl (take_ofW HT_.out HW_.out (by kernel_rfl)) (fun _ _ _ h => h) (Or.inl ⟨by rfl, ?_⟩) hHeld ?_ ?_
              rotate_left
              · rintro w' ⟨s0, s1, s2, s3, s4, s5, s6, s7, s8, s9, s10⟩
                go_simp
                with_reducible rfl
              rotate_left
              · simp only [Act.put, List.setIfInBounds_toArray, List.set_cons_zero, List.set_cons_succ, i64_w, i32_w]
                rfl
              refine take_ (i := 8) (N := some 18) (v := ?_) (a' := ?_) #[true, true, false, true, true, false, false, true, true, false, false, true, false, false, false, true, false, false, false, false] rfl rfl (take_ofW HT_.out HW_.out (by kernel_rfl)) (fun _ _ _ h => h) (Or.inl ⟨by rfl, ?_⟩) hHeld ?_ ?_
              rotate_left
              · rintro w' ⟨s0, s1, s2, s3, s4, s5, s6, s7, s8, s9, s10⟩
                go_simp
                with_reducible rfl
              rotate_left
              · simp only [Act.put, List.setIfInBounds_toArray, List.set_cons_zero, List.set_cons_succ, i64_w, i32_w]
                rfl
              refine take_ (i := 12) (N := some 22) (v := ?_) (a' := ?_) #[true, true, false, true, true, false, false, true, true, false, false, true, true, false, false, true, false, false, false, false] rfl rfl (take_ofW HT_.out HW_.out (by kernel_rfl)) (fun _ _ _ h => h) (Or.inl ⟨by rfl, ?_⟩) hHeld ?_ ?_
              rotate_left
              · rintro w' ⟨s0, s1, s2, s3, s4, s5, s6, s7, s8, s9, s10⟩
                go_simp
                with_reducible rfl
              rotate_left
              · simp only [Act.put, List.setIfInBounds_toArray, List.set_cons_zero, List.set_cons_succ, i64_w, i32_w]
                rfl
              refine take_ (i := 16) (N := some 26) (v := ?_) (a' := ?_) #[true, true, false, true, true, false, false, true, true, false, false, true, true, false, false, true, true, false, false, false] rfl rfl (take_ofW HT_.out HW_.out (by kernel_rfl)) (fun _ _ _ h => h) (Or.inl ⟨by rfl, ?_⟩) hHeld ?_ ?_
              rotate_left
              · rintro w' ⟨s0, s1, s2, s3, s4, s5, s6, s7, s8, s9, s10⟩
                go_simp
                with_reducible rfl
              rotate_left
              · simp only [Act.put, List.setIfInBounds_toArray, List.set_cons_zero, List.set_cons_succ, i64_w, i32_w]
                rfl
              refine one_ (i := 2) (N := some 12) #[true, true, true, true, true, false, false, true, true, false, false, true, true, false, false, true, true, false, false, false] rfl rfl (one_of HT_.out (by kernel_rfl)) (by decide) (fun K hK => ?_)
              refine goes_ Tryd.func23 (by kernel_rfl) rfl #[.int .i64 a0_0] (by rfl) rfl rfl (by (try simp only [List.map_toArray, List.map_cons, List.map_nil]); first | done | rfl | (simp only [List.length_drop, List.length_take]; rfl)) ?_
              with_reducible refine (stanchionref16_num.calls a0_0 t169 _ A4.out).mono ?_
              rintro e w47 ⟨rfl, hb⟩
              refine ⟨_, rfl, ?_⟩
              have n0_ := Aside0.mk (blk_below (g := gb167) (o := .cells #[.int .i64 a0_0, .int .i64 a0_1, .int .i64 a0_2, .int .i64 a0_3, .string a0_4, .int .i64 a0_5, .string a0_6, .string a0_7, .string a0_8, .string a0_9, .int .i64 a0_10] 25 (0, 0)) (by (with_reducible repeat (first | refine blk_drewN ?_ _ | refine blk_drew ?_ | refine blk_alloc ?_ _)); exact BK167.out) hb)
              have n1_ := Aside0.mk (below_step (by repeat (first | (with_reducible first | exact HB.out | apply below_alloc | apply pw_below_drewN | apply below_drew1 | refine below_set ?_ GE167.out) | exact HB.out)) hb)
              clear BK167
              clear HB
              have BK167 := n0_
              have HB := n1_
              clear n0_ n1_
              (try clear hb)
              (try clear hb2)
              (try clear hk)
              (try clear hi)
              refine hK.out _ _ ⟨(blk_cell BK167.out 0).trans rfl, (blk_cell BK167.out 1).trans rfl, (blk_cell BK167.out 2).trans rfl, (blk_cell BK167.out 3).trans rfl, (blk_cell BK167.out 4).trans rfl, (blk_cell BK167.out 5).trans rfl, (blk_cell BK167.out 6).trans rfl, (blk_cell BK167.out 7).trans rfl, (blk_cell BK167.out 8).trans rfl, (blk_cell BK167.out 9).trans rfl, (blk_cell BK167.out 10).trans rfl⟩ (fun hHeld => ?_)
              clear hK K
              refine norm_ (a' := ?_) ?_ ?_
              rotate_left
              · show Act.put _ (some 12) _ = _
                simp only [Act.put, List.setIfInBounds_toArray, List.set_cons_zero, List.set_cons_succ, i64_w, i32_w]
                rfl
              refine one_ (i := 5) (N := some 15) #[true, true, true, true, true, true, false, true, true, false, false, true, true, false, false, true, true, false, false, false] rfl rfl (one_of HT_.out (by kernel_rfl)) (by decide) (fun K hK => ?_)
              refine goes_ Tryd.func23 (by kernel_rfl) rfl #[.int .i64 a0_1] (by rfl) rfl rfl (by (try simp only [List.map_toArray, List.map_cons, List.map_nil]); first | done | rfl | (simp only [List.length_drop, List.length_take]; rfl)) ?_
              with_reducible refine (stanchionref16_num.calls a0_1 t170 _ A5.out).mono ?_
              rintro e w48 ⟨rfl, hb⟩
              refine ⟨_, rfl, ?_⟩
              have n0_ := Aside0.mk (blk_below (g := gb167) (o := .cells #[.int .i64 a0_0, .int .i64 a0_1, .int .i64 a0_2, .int .i64 a0_3, .string a0_4, .int .i64 a0_5, .string a0_6, .string a0_7, .string a0_8, .string a0_9, .int .i64 a0_10] 25 (0, 0)) (by (with_reducible repeat (first | refine blk_drewN ?_ _ | refine blk_drew ?_ | refine blk_alloc ?_ _)); exact BK167.out) hb)
              have n1_ := Aside0.mk (below_step (by repeat (first | (with_reducible first | exact HB.out | apply below_alloc | apply pw_below_drewN | apply below_drew1 | refine below_set ?_ GE167.out) | exact HB.out)) hb)
              clear BK167
              clear HB
              have BK167 := n0_
              have HB := n1_
              clear n0_ n1_
              (try clear hb)
              (try clear hb2)
              (try clear hk)
              (try clear hi)
              refine hK.out _ _ ⟨(blk_cell BK167.out 0).trans rfl, (blk_cell BK167.out 1).trans rfl, (blk_cell BK167.out 2).trans rfl, (blk_cell BK167.out 3).trans rfl, (blk_cell BK167.out 4).trans rfl, (blk_cell BK167.out 5).trans rfl, (blk_cell BK167.out 6).trans rfl, (blk_cell BK167.out 7).trans rfl, (blk_cell BK167.out 8).trans rfl, (blk_cell BK167.out 9).trans rfl, (blk_cell BK167.out 10).trans rfl⟩ (fun hHeld => ?_)
              clear hK K
              refine norm_ (a' := ?_) ?_ ?_
              rotate_left
              · show Act.put _ (some 15) _ = _
                simp only [Act.put, List.setIfInBounds_toArray, List.set_cons_zero, List.set_cons_succ, i64_w, i32_w]
                rfl
              refine pure_ (i := 6) (N := some 16) (v := ?_) (a' := ?_) #[true, true, true, true, true, true, true, true, true, false, false, true, true, false, false, true, true, false, false, false] rfl rfl (any_of HT_.out (by kernel_rfl)) (fun _ _ _ h => h) (Or.inl ⟨by rfl, ?_⟩) ?_ ?_
              rotate_left
              · intro w'
                go_simp
                with_reducible rfl
              rotate_left
              · simp only [Act.put, List.setIfInBounds_toArray, List.set_cons_zero, List.set_cons_succ, i64_w, i32_w]
                rfl
              refine one_ (i := 9) (N := some 19) #[true, true, true, true, true, true, true, true, true, true, false, true, true, false, false, true, true, false, false, false] rfl rfl (one_of HT_.out (by kernel_rfl)) (by decide) (fun K hK => ?_)
              refine goes_ Tryd.func23 (by kernel_rfl) rfl #[.int .i64 a0_2] (by rfl) rfl rfl (by (try simp only [List.map_toArray, List.map_cons, List.map_nil]); first | done | rfl | (simp only [List.length_drop, List.length_take]; rfl)) ?_
              with_reducible refine (stanchionref16_num.calls a0_2 t171 _ A7.out).mono ?_
              rintro e w49 ⟨rfl, hb⟩
              refine ⟨_, rfl, ?_⟩
              have n0_ := Aside0.mk (blk_below (g := gb167) (o := .cells #[.int .i64 a0_0, .int .i64 a0_1, .int .i64 a0_2, .int .i64 a0_3, .string a0_4, .int .i64 a0_5, .string a0_6, .string a0_7, .string a0_8, .string a0_9, .int .i64 a0_10] 25 (0, 0)) (by (with_reducible repeat (first | refine blk_drewN ?_ _ | refine blk_drew ?_ | refine blk_alloc ?_ _)); exact BK167.out) hb)
              have n1_ := Aside0.mk (below_step (by repeat (first | (with_reducible first | exact HB.out | apply below_alloc | apply pw_below_drewN | apply below_drew1 | refine below_set ?_ GE167.out) | exact HB.out)) hb)
              clear BK167
              clear HB
              have BK167 := n0_
              have HB := n1_
              clear n0_ n1_
              (try clear hb)
              (try clear hb2)
              (try clear hk)
              (try clear hi)
              refine hK.out _ _ ⟨(blk_cell BK167.out 0).trans rfl, (blk_cell BK167.out 1).trans rfl, (blk_cell BK167.out 2).trans rfl, (blk_cell BK167.out 3).trans rfl, (blk_cell BK167.out 4).trans rfl, (blk_cell BK167.out 5).trans rfl, (blk_cell BK167.out 6).trans rfl, (blk_cell BK167.out 7).trans rfl, (blk_cell BK167.out 8).trans rfl, (blk_cell BK167.out 9).trans rfl, (blk_cell BK167.out 10).trans rfl⟩ (fun hHeld => ?_)
              clear hK K
              refine norm_ (a' := ?_) ?_ ?_
              rotate_left
              · show Act.put _ (some 19) _ = _
                simp only [Act.put, List.setIfInBounds_toArray, List.set_cons_zero, List.set_cons_succ, i64_w, i32_w]
                rfl
              refine pure_ (i := 10) (N := some 20) (v := ?_) (a' := ?_) #[true, true, true, true, true, true, true, true, true, true, true, true, true, false, false, true, true, false, false, false] rfl rfl (any_of HT_.out (by kernel_rfl)) (fun _ _ _ h => h) (Or.inl ⟨by rfl, ?_⟩) ?_ ?_
              rotate_left
              · intro w'
                go_simp
                with_reducible rfl
              rotate_left
              · simp only [Act.put, List.setIfInBounds_toArray, List.set_cons_zero, List.set_cons_succ, i64_w, i32_w]
                rfl
              refine one_ (i := 13) (N := some 23) #[true, true, true, true, true, true, true, true, true, true, true, true, true, true, false, true, true, false, false, false] rfl rfl (one_of HT_.out (by kernel_rfl)) (by decide) (fun K hK => ?_)
              refine goes_ Tryd.func23 (by kernel_rfl) rfl #[.int .i64 a0_3] (by rfl) rfl rfl (by (try simp only [List.map_toArray, List.map_cons, List.map_nil]); first | done | rfl | (simp only [List.length_drop, List.length_take]; rfl)) ?_
              with_reducible refine (stanchionref16_num.calls a0_3 t172 _ A9.out).mono ?_
              rintro e w50 ⟨rfl, hb⟩
              refine ⟨_, rfl, ?_⟩
              have n0_ := Aside0.mk (blk_below (g := gb167) (o := .cells #[.int .i64 a0_0, .int .i64 a0_1, .int .i64 a0_2, .int .i64 a0_3, .string a0_4, .int .i64 a0_5, .string a0_6, .string a0_7, .string a0_8, .string a0_9, .int .i64 a0_10] 25 (0, 0)) (by (with_reducible repeat (first | refine blk_drewN ?_ _ | refine blk_drew ?_ | refine blk_alloc ?_ _)); exact BK167.out) hb)
              have n1_ := Aside0.mk (below_step (by repeat (first | (with_reducible first | exact HB.out | apply below_alloc | apply pw_below_drewN | apply below_drew1 | refine below_set ?_ GE167.out) | exact HB.out)) hb)
              clear BK167
              clear HB
              have BK167 := n0_
              have HB := n1_
              clear n0_ n1_
              (try clear hb)
              (try clear hb2)
              (try clear hk)
              (try clear hi)
              refine hK.out _ _ ⟨(blk_cell BK167.out 0).trans rfl, (blk_cell BK167.out 1).trans rfl, (blk_cell BK167.out 2).trans rfl, (blk_cell BK167.out 3).trans rfl, (blk_cell BK167.out 4).trans rfl, (blk_cell BK167.out 5).trans rfl, (blk_cell BK167.out 6).trans rfl, (blk_cell BK167.out 7).trans rfl, (blk_cell BK167.out 8).trans rfl, (blk_cell BK167.out 9).trans rfl, (blk_cell BK167.out 10).trans rfl⟩ (fun hHeld => ?_)
              clear hK K
              refine norm_ (a' := ?_) ?_ ?_
              rotate_left
              · show Act.put _ (some 23) _ = _
                simp only [Act.put, List.setIfInBounds_toArray, List.set_cons_zero, List.set_cons_succ, i64_w, i32_w]
                rfl
              refine pure_ (i := 14) (N := some 24) (v := ?_) (a' := ?_) #[true, true, true, true, true, true, true, true, true, true, true, true, true, true, true, true, true, false, false, false] rfl rfl (any_of HT_.out (by kernel_rfl)) (fun _ _ _ h => h) (Or.inl ⟨by rfl, ?_⟩) ?_ ?_
              rotate_left
              · intro w'
                go_simp
                with_reducible rfl
              rotate_left
              · simp only [Act.put, List.setIfInBounds_toArray, List.set_cons_zero, List.set_cons_succ, i64_w, i32_w]
                rfl
              refine one_ (i := 17) (N := some 27) #[true, true, true, true, true, true, true, true, true, true, true, true, true, true, true, true, true, true, false, false] rfl rfl (one_of HT_.out (by kernel_rfl)) (by decide) (fun K hK => ?_)
              refine goes_ Tryd.func24 (by kernel_rfl) rfl #[.string a0_4] (by rfl) rfl rfl (by (try simp only [List.map_toArray, List.map_cons, List.map_nil]); first | done | rfl | (simp only [List.length_drop, List.length_take]; rfl)) ?_
              with_reducible refine (stanchionref16_text.calls a0_4 t173 _ A11.out).mono ?_
              rintro e w51 ⟨rfl, hb⟩
              refine ⟨_, rfl, ?_⟩
              have n0_ := Aside0.mk (blk_below (g := gb167) (o := .cells #[.int .i64 a0_0, .int .i64 a0_1, .int .i64 a0_2, .int .i64 a0_3, .string a0_4, .int .i64 a0_5, .string a0_6, .string a0_7, .string a0_8, .string a0_9, .int .i64 a0_10] 25 (0, 0)) (by (with_reducible repeat (first | refine blk_drewN ?_ _ | refine blk_drew ?_ | refine blk_alloc ?_ _)); exact BK167.out) hb)
              have n1_ := Aside0.mk (below_step (by repeat (first | (with_reducible first | exact HB.out | apply below_alloc | apply pw_below_drewN | apply below_drew1 | refine below_set ?_ GE167.out) | exact HB.out)) hb)
              clear BK167
              clear HB
              have BK167 := n0_
              have HB := n1_
              clear n0_ n1_
              (try clear hb)
              (try clear hb2)
              (try clear hk)
              (try clear hi)
              refine hK.out _ _ ⟨(blk_cell BK167.out 0).trans rfl, (blk_cell BK167.out 1).trans rfl, (blk_cell BK167.out 2).trans rfl, (blk_cell BK167.out 3).trans rfl, (blk_cell BK167.out 4).trans rfl, (blk_cell BK167.out 5).trans rfl, (blk_cell BK167.out 6).trans rfl, (blk_cell BK167.out 7).trans rfl, (blk_cell BK167.out 8).trans rfl, (blk_cell BK167.out 9).trans rfl, (blk_cell BK167.out 10).trans rfl⟩ (fun hHeld => ?_)
              clear hK K
              refine norm_ (a' := ?_) ?_ ?_
              rotate_left
              · show Act.put _ (some 27) _ = _
                simp only [Act.put, List.setIfInBounds_toArray, List.set_cons_zero, List.set_cons_succ, i64_w, i32_w]
                rfl
              refine pure_ (i := 18) (N := some 28) (v := ?_) (a' := ?_) #[true, true, true, true, true, true, true, true, true, true, true, true, true, true, true, true, true, true, true, false] rfl rfl (any_of HT_.out (by kernel_rfl)) (fun _ _ _ h => h) (Or.inl ⟨by rfl, ?_⟩) ?_ ?_
              rotate_left
              · intro w'
                go_simp
                with_reducible rfl
              rotate_left
              · simp only [Act.put, List.setIfInBounds_toArray, List.set_cons_zero, List.set_cons_succ, i64_w, i32_w]
                rfl
              refine pure_ (i := 19) (N := some 5) (v := ?_) (a' := ?_) #[true, true, true, true, true, true, true, true, true, true, true, true, true, true, true, true, true, true, true, true] rfl rfl (any_of HT_.out (by kernel_rfl)) (fun _ _ _ h => h) (Or.inl ⟨by rfl, ?_⟩) ?_ ?_
              rotate_left
              · intro w'
                go_simp
                with_reducible rfl
              rotate_left
              · simp only [Act.put, List.setIfInBounds_toArray, List.set_cons_zero, List.set_cons_succ, i64_w, i32_w]
                rfl
              refine done_ (done_of HT_.out (by kernel_rfl)) ?_
              have hcz52_0 : w51.cell? ⟨gb167, 0, none⟩ = some (.int .i64 a0_0) := (blk_cell BK167.out 0).trans rfl
              have hcz52_1 : w51.cell? ⟨gb167, 1, none⟩ = some (.int .i64 a0_1) := (blk_cell BK167.out 1).trans rfl
              have hcz52_2 : w51.cell? ⟨gb167, 2, none⟩ = some (.int .i64 a0_2) := (blk_cell BK167.out 2).trans rfl
              have hcz52_3 : w51.cell? ⟨gb167, 3, none⟩ = some (.int .i64 a0_3) := (blk_cell BK167.out 3).trans rfl
              have hcz52_4 : w51.cell? ⟨gb167, 4, none⟩ = some (.string a0_4) := (blk_cell BK167.out 4).trans rfl
              have hcz52_5 : w51.cell? ⟨gb167, 5, none⟩ = some (.int .i64 a0_5) := (blk_cell BK167.out 5).trans rfl
              have hcz52_6 : w51.cell? ⟨gb167, 6, none⟩ = some (.string a0_6) := (blk_cell BK167.out 6).trans rfl
              have hcz52_7 : w51.cell? ⟨gb167, 7, none⟩ = some (.string a0_7) := (blk_cell BK167.out 7).trans rfl
              have hcz52_8 : w51.cell? ⟨gb167, 8, none⟩ = some (.string a0_8) := (blk_cell BK167.out 8).trans rfl
              have hcz52_9 : w51.cell? ⟨gb167, 9, none⟩ = some (.string a0_9) := (blk_cell BK167.out 9).trans rfl
              have hcz52_10 : w51.cell? ⟨gb167, 10, none⟩ = some (.int .i64 a0_10) := (blk_cell BK167.out 10).trans rfl
              have hfz52_0 := blk_frozen BK167.out 0
              have hfz52_1 := blk_frozen BK167.out 1
              have hfz52_2 := blk_frozen BK167.out 2
              have hfz52_3 := blk_frozen BK167.out 3
              have hfz52_4 := blk_frozen BK167.out 4
              have hfz52_5 := blk_frozen BK167.out 5
              have hfz52_6 := blk_frozen BK167.out 6
              have hfz52_7 := blk_frozen BK167.out 7
              have hfz52_8 := blk_frozen BK167.out 8
              have hfz52_9 := blk_frozen BK167.out 9
              have hfz52_10 := blk_frozen BK167.out 10
              try go_wp2
              go_ret2
              exact ⟨by first | rfl | (simp [errW_none, errW_some] <;> rfl) | (simp [*, errW_none, errW_some] <;> rfl), by repeat (first | (with_reducible first | exact HB.out | apply below_alloc | apply pw_below_drewN | apply below_drew1 | refine below_set ?_ GE167.out) | exact HB.out)⟩
          · rw [if_neg c12] at H
            exact absurd H (by simp)
        · rw [if_neg c10] at H
          exact absurd H (by simp)
      · rw [if_neg c8] at H
        exact absurd H (by simp)
    · rw [if_neg c6] at H
      exact absurd H (by simp)
  · replace c3 := Bool.eq_false_iff.mpr c3
    subst c3
    have H1 : (some ((⟨#[]⟩ : ByteArray), 1)) = some (r1, r2) := by rw [if_neg (show ¬ (false = true) by decide)] at H; exact H
    clear H
    have H := H1
    clear H1
    simp only [Option.some.injEq, Prod.mk.injEq] at H
    obtain ⟨rfl, rfl⟩ := H
    go_enter Tryd.func10, Tryd.ntmps10
    go_wp2_with (first | ((with_reducible refine gate_dst (N := 1) rfl ?_); refine box_event ?hg (N := 1) ?hd (cs := #[.int .i64 a0_0, .int .i64 a0_1, .int .i64 a0_2, .int .i64 a0_3, .string a0_4, .int .i64 a0_5, .string a0_6, .string a0_7, .string a0_8, .string a0_9, .int .i64 a0_10]) (t := 25) ?hr ?_; (case hd => rfl); (case hg => rfl); (case hr => first | (go_simp; done) | (go_simp; rfl)); intro gb167 hg w53 hbox hb; have n0_ := Aside0.mk (below_step (by repeat (first | (with_reducible first | exact HB.out | apply below_alloc | apply pw_below_drewN | apply below_drew1) | exact HB.out)) hb); have n1_ := Aside0.mk (hbox); have n2_ := Aside0.mk ((by rw [hg]; exact (below_size (by repeat (first | (with_reducible first | exact HB.out | apply below_alloc | apply pw_below_drewN | apply below_drew1) | exact HB.out))) : w.heap.size ≤ gb167)); have n3_ := Aside0.mk ((by rw [hg]; exact (below_size (by repeat (first | (with_reducible first | exact HB.out | apply below_alloc | apply pw_below_drewN | apply below_drew1) | exact HB.out))) : w.heap.size ≤ gb167)); clear HB; have HB := n0_; have BK167 := n1_; have GW167 := n2_; have GE167 := n3_; clear n0_ n1_ n2_ n3_; clear hb hbox hg; have hcz54_0 : w53.cell? ⟨gb167, 0, none⟩ = some (.int .i64 a0_0) := (blk_cell BK167.out 0).trans rfl; have hcz54_1 : w53.cell? ⟨gb167, 1, none⟩ = some (.int .i64 a0_1) := (blk_cell BK167.out 1).trans rfl; have hcz54_2 : w53.cell? ⟨gb167, 2, none⟩ = some (.int .i64 a0_2) := (blk_cell BK167.out 2).trans rfl; have hcz54_3 : w53.cell? ⟨gb167, 3, none⟩ = some (.int .i64 a0_3) := (blk_cell BK167.out 3).trans rfl; have hcz54_4 : w53.cell? ⟨gb167, 4, none⟩ = some (.string a0_4) := (blk_cell BK167.out 4).trans rfl; have hcz54_5 : w53.cell? ⟨gb167, 5, none⟩ = some (.int .i64 a0_5) := (blk_cell BK167.out 5).trans rfl; have hcz54_6 : w53.cell? ⟨gb167, 6, none⟩ = some (.string a0_6) := (blk_cell BK167.out 6).trans rfl; have hcz54_7 : w53.cell? ⟨gb167, 7, none⟩ = some (.string a0_7) := (blk_cell BK167.out 7).trans rfl; have hcz54_8 : w53.cell? ⟨gb167, 8, none⟩ = some (.string a0_8) := (blk_cell BK167.out 8).trans rfl; have hcz54_9 : w53.cell? ⟨gb167, 9, none⟩ = some (.string a0_9) := (blk_cell BK167.out 9).trans rfl; have hcz54_10 : w53.cell? ⟨gb167, 10, none⟩ = some (.int .i64 a0_10) := (blk_cell BK167.out 10).trans rfl; have hfz54_0 := blk_frozen BK167.out 0; have hfz54_1 := blk_frozen BK167.out 1; have hfz54_2 := blk_frozen BK167.out 2; have hfz54_3 := blk_frozen BK167.out 3; have hfz54_4 := blk_frozen BK167.out 4; have hfz54_5 := blk_frozen BK167.out 5; have hfz54_6 := blk_frozen BK167.out 6; have hfz54_7 := blk_frozen BK167.out 7; have hfz54_8 := blk_frozen BK167.out 8; have hfz54_9 := blk_frozen BK167.out 9; have hfz54_10 := blk_frozen BK167.out 10) | ((with_reducible refine gate_callee (f := 14) rfl ?_); refine goesL_ (some 7) rfl rfl Tryd.func14 (by kernel_rfl) rfl #[.agg #[.int .i64 a0_0, .int .i64 a0_1, .int .i64 a0_2, .int .i64 a0_3, .string a0_4, .int .i64 a0_5, .string a0_6, .string a0_7, .string a0_8, .string a0_9, .int .i64 a0_10]] rfl (by (try simp only [List.map_toArray, List.map_cons, List.map_nil]); first | done | rfl | (simp only [List.length_drop, List.length_take]; rfl)) ?_; (with_reducible refine (stanchionref16_MayReq.calls k a0_0 a0_1 a0_2 a0_3 a0_4 a0_5 a0_6 a0_7 a0_8 a0_9 a0_10 false _ A2.out).mono ?_); rintro e w55 ⟨rfl, hb⟩; refine ⟨_, rfl, ?_⟩; have n0_ := Aside0.mk (blk_below (g := gb167) (o := .cells #[.int .i64 a0_0, .int .i64 a0_1, .int .i64 a0_2, .int .i64 a0_3, .string a0_4, .int .i64 a0_5, .string a0_6, .string a0_7, .string a0_8, .string a0_9, .int .i64 a0_10] 25 (0, 0)) (by (with_reducible repeat (first | refine blk_drewN ?_ _ | refine blk_drew ?_ | refine blk_alloc ?_ _)); exact BK167.out) hb); have n1_ := Aside0.mk (below_step (by repeat (first | (with_reducible first | exact HB.out | apply below_alloc | apply pw_below_drewN | apply below_drew1 | refine below_set ?_ GE167.out) | exact HB.out)) hb); clear BK167; clear HB; have BK167 := n0_; have HB := n1_; clear n0_ n1_; (try clear hb); (try clear hb2); (try clear hk); (try clear hi)))
    go_ret2
    exact ⟨by first | rfl | (simp [errW_none, errW_some] <;> rfl) | (simp [*, errW_none, errW_some] <;> rfl), by repeat (first | (with_reducible first | exact HB.out | apply below_alloc | apply pw_below_drewN | apply below_drew1 | refine below_set ?_ GE167.out) | exact HB.out)⟩

end Go.Proofs.YtlpcidjmaeicoaaDoor.QWi

/-! QWixQ -/
namespace Go.Proofs.YtlpcidjmaeicoaaDoor.QWi
open Go.RowKit Go.Proofs.YtlpcidjmaeicoaaDoorW.PrintWords Go.Proofs.YtlpcidjmaeicoaaDoorW.PrintLast Go.Proofs.YtlpcidjmaeicoaaDoorW.PrintMore
attribute [local go_sem] max2_int min2_int max_two min_two max_three min_three max_four min_four   -- for this text's walks alone
set_option linter.unusedVariables false
set_option linter.unusedSimpArgs false

attribute [local go_sem high] eqA25
/-! ### stanchionlaw16_WireReqs: function 3 -/
def stanchionlaw16_WireReqs.f (k : Nat) (a0_0 : Int) (a0_1 : Int) (a0_2 : Int) (a0_3 : Int) (a0_4 : ByteArray) (a0_5 : Int) (a0_6 : ByteArray) (a0_7 : ByteArray) (a0_8 : ByteArray) (a0_9 : ByteArray) (a0_10 : Int) (a1 : ByteArray) : Option (Bool) := (stanchionlaw16_shown.f k).bind fun t390 => ((wire_Req.f k a0_0 a0_1 a0_2 a0_3 a0_4 a0_5 a0_6 a0_7 a0_8 a0_9 a0_10).bind fun bt391 => ((stanchionref16_Req.f k a0_0 a0_1 a0_2 a0_3 a0_4 a0_5 a0_6 a0_7 a0_8 a0_9 a0_10).bind fun bt393 => ((wire_TakeReq.f a1).bind fun bt395 => ((stanchionref16_TakeReq.f a1).bind fun bt408 => (if t390 = true then (if bt391.1.toList = bt393.1.toList then (if bt391.2 = bt393.2 then (if (bt395.1 == bt408.1 && (bt395.2.1 == bt408.2.1 && (bt395.2.2.1 == bt408.2.2.1 && (bt395.2.2.2.1 == bt408.2.2.2.1 && (bt395.2.2.2.2.1.toList == bt408.2.2.2.2.1.toList && ((bt395.2.2.2.2.2.1 == bt408.2.2.2.2.2.1 && (bt395.2.2.2.2.2.2.1.toList == bt408.2.2.2.2.2.2.1.toList && (bt395.2.2.2.2.2.2.2.1.toList == bt408.2.2.2.2.2.2.2.1.toList && (bt395.2.2.2.2.2.2.2.2.1.toList == bt408.2.2.2.2.2.2.2.2.1.toList && (bt395.2.2.2.2.2.2.2.2.2.1.toList == bt408.2.2.2.2.2.2.2.2.2.1.toList && (bt395.2.2.2.2.2.2.2.2.2.2.1 == bt408.2.2.2.2.2.2.2.2.2.2.1)))))))))))) = true then (if bt395.2.2.2.2.2.2.2.2.2.2.2 = bt408.2.2.2.2.2.2.2.2.2.2.2 then ((wire_MayReq.f k a0_0 a0_1 a0_2 a0_3 a0_4 a0_5 a0_6 a0_7 a0_8 a0_9 a0_10).bind fun t421 => ((stanchionref16_MayReq.f k a0_0 a0_1 a0_2 a0_3 a0_4 a0_5 a0_6 a0_7 a0_8 a0_9 a0_10).bind fun t422 => (some (t421 == t422)))) else (some false)) else (some false)) else (some false)) else (some false)) else (some false))))))
def stanchionlaw16_WireReqs.T6 : Bool × List (List Nat × List Nat) := (true, [([], []), ([0], [0]), ([1], [1]), ([1], [1]), ([2, 3, 1], [1, 2, 3]), ([1, 4], [1, 4]), ([5, 1], [5]), ([6], [6]), ([6], [6]), ([7, 8, 6], [6, 7, 8]), ([6, 9], [6, 9]), ([10, 6], [10]), ([11], [11]), ([11], [11]), ([12, 13, 11], [11, 12, 13]), ([11, 14], [11, 14]), ([15, 11], [15]), ([16], [16]), ([16], [16]), ([17, 18, 16], [16, 17, 18]), ([16, 19], [16, 19]), ([20, 16], [20]), ([21], [21]), ([22, 21, 21], [21, 22]), ([21], [21]), ([24, 23, 21], [21, 24]), ([23, 25, 21], [21, 23, 25]), ([21, 26], [21, 26]), ([27, 25, 0, 1, 2, 3, 4, 5, 6, 7, 8, 9, 10, 11, 12, 13, 14, 15, 16, 17, 18, 19, 20, 21, 22, 23, 24, 25, 26, 27], [27])])
def stanchionlaw16_WireReqs.B6 : List Nat := [0, 1, 3, 3, 15, 31, 63, 127, 127, 511, 1023, 2047, 4095, 4095, 16383, 32767, 65535, 131071, 131071, 524287, 1048575, 2097151, 4194303, 8388607, 4194303, 33554431, 67108863, 134217727, 268435455]
theorem stanchionlaw16_WireReqs.tab6 : rtab .any (opsOf Tryd.f3 6) = stanchionlaw16_WireReqs.T6 := by kernel_rfl
theorem stanchionlaw16_WireReqs.bits6 : waitsOk stanchionlaw16_WireReqs.T6.2 stanchionlaw16_WireReqs.B6 = true := by kernel_rfl
set_option maxHeartbeats 8000000 in
set_option maxRecDepth 100000 in
theorem stanchionlaw16_WireReqs.calls (k : Nat) (a0_0 : Int) (a0_1 : Int) (a0_2 : Int) (a0_3 : Int) (a0_4 : ByteArray) (a0_5 : Int) (a0_6 : ByteArray) (a0_7 : ByteArray) (a0_8 : ByteArray) (a0_9 : ByteArray) (a0_10 : Int) (a1 : ByteArray) (r : Bool) (w : World) (h : stanchionlaw16_WireReqs.f k a0_0 a0_1 a0_2 a0_3 a0_4 a0_5 a0_6 a0_7 a0_8 a0_9 a0_10 a1 = some r) (hr0 : r = true) (hgl0 : Go.Proofs.YtlpcidjmaeicoaaDoor.Reader.Handle w) :
    Calls Tryd.prog 3 #[.agg #[.int .i64 a0_0, .int .i64 a0_1, .int .i64 a0_2, .int .i64 a0_3, .string a0_4, .int .i64 a0_5, .string a0_6, .string a0_7, .string a0_8, .string a0_9, .int .i64 a0_10], .string a1] w fun e w' => e = .returned (.bool r) ∧ Below w.heap.size w w' := by
  have hr := Aside0.mk hr0
  clear hr0
  have HGL := Aside0.mk hgl0
  clear hgl0
  have hu25 := Tryd.underlying25
  have HB := Aside0.mk (Below.refl w.heap.size w)
  have H : ((stanchionlaw16_shown.f k).bind fun t390 => ((wire_Req.f k a0_0 a0_1 a0_2 a0_3 a0_4 a0_5 a0_6 a0_7 a0_8 a0_9 a0_10).bind fun bt391 => ((stanchionref16_Req.f k a0_0 a0_1 a0_2 a0_3 a0_4 a0_5 a0_6 a0_7 a0_8 a0_9 a0_10).bind fun bt393 => ((wire_TakeReq.f a1).bind fun bt395 => ((stanchionref16_TakeReq.f a1).bind fun bt408 => (if t390 = true then (if bt391.1.toList = bt393.1.toList then (if bt391.2 = bt393.2 then (if (bt395.1 == bt408.1 && (bt395.2.1 == bt408.2.1 && (bt395.2.2.1 == bt408.2.2.1 && (bt395.2.2.2.1 == bt408.2.2.2.1 && (bt395.2.2.2.2.1.toList == bt408.2.2.2.2.1.toList && ((bt395.2.2.2.2.2.1 == bt408.2.2.2.2.2.1 && (bt395.2.2.2.2.2.2.1.toList == bt408.2.2.2.2.2.2.1.toList && (bt395.2.2.2.2.2.2.2.1.toList == bt408.2.2.2.2.2.2.2.1.toList && (bt395.2.2.2.2.2.2.2.2.1.toList == bt408.2.2.2.2.2.2.2.2.1.toList && (bt395.2.2.2.2.2.2.2.2.2.1.toList == bt408.2.2.2.2.2.2.2.2.2.1.toList && (bt395.2.2.2.2.2.2.2.2.2.2.1 == bt408.2.2.2.2.2.2.2.2.2.2.1)))))))))))) = true then (if bt395.2.2.2.2.2.2.2.2.2.2.2 = bt408.2.2.2.2.2.2.2.2.2.2.2 then ((wire_MayReq.f k a0_0 a0_1 a0_2 a0_3 a0_4 a0_5 a0_6 a0_7 a0_8 a0_9 a0_10).bind fun t421 => ((stanchionref16_MayReq.f k a0_0 a0_1 a0_2 a0_3 a0_4 a0_5 a0_6 a0_7 a0_8 a0_9 a0_10).bind fun t422 => (some (t421 == t422)))) else (some false)) else (some false)) else (some false)) else (some false)) else (some false))))))) = some r := h
  clear h
  replace H := Option.bind_eq_some_iff.mp H
  obtain ⟨t390, A30, H⟩ := H
  replace H : ((wire_Req.f k a0_0 a0_1 a0_2 a0_3 a0_4 a0_5 a0_6 a0_7 a0_8 a0_9 a0_10).bind fun bt391 => ((stanchionref16_Req.f k a0_0 a0_1 a0_2 a0_3 a0_4 a0_5 a0_6 a0_7 a0_8 a0_9 a0_10).bind fun bt393 => ((wire_TakeReq.f a1).bind fun bt395 => ((stanchionref16_TakeReq.f a1).bind fun bt408 => (if t390 = true then (if bt391.1.toList = bt393.1.toList then (if bt391.2 = bt393.2 then (if (bt395.1 == bt408.1 && (bt395.2.1 == bt408.2.1 && (bt395.2.2.1 == bt408.2.2.1 && (bt395.2.2.2.1 == bt408.2.2.2.1 && (bt395.2.2.2.2.1.toList == bt408.2.2.2.2.1.toList && ((bt395.2.2.2.2.2.1 == bt408.2.2.2.2.2.1 && (bt395.2.2.2.2.2.2.1.toList == bt408.2.2.2.2.2.2.1.toList && (bt395.2.2.2.2.2.2.2.1.toList == bt408.2.2.2.2.2.2.2.1.toList && (bt395.2.2.2.2.2.2.2.2.1.toList == bt408.2.2.2.2.2.2.2.2.1.toList && (bt395.2.2.2.2.2.2.2.2.2.1.toList == bt408.2.2.2.2.2.2.2.2.2.1.toList && (bt395.2.2.2.2.2.2.2.2.2.2.1 == bt408.2.2.2.2.2.2.2.2.2.2.1)))))))))))) = true then (if bt395.2.2.2.2.2.2.2.2.2.2.2 = bt408.2.2.2.2.2.2.2.2.2.2.2 then ((wire_MayReq.f k a0_0 a0_1 a0_2 a0_3 a0_4 a0_5 a0_6 a0_7 a0_8 a0_9 a0_10).bind fun t421 => ((stanchionref16_MayReq.f k a0_0 a0_1 a0_2 a0_3 a0_4 a0_5 a0_6 a0_7 a0_8 a0_9 a0_10).bind fun t422 => (some (t421 == t422)))) else (some false)) else (some false)) else (some false)) else (some false)) else (some false)))))) = some r := H
  have A3 := Aside0.mk A30
  clear A30
  replace H := Option.bind_eq_some_iff.mp H
  obtain ⟨⟨t391, t392⟩, A40, H⟩ := H
  replace H : ((stanchionref16_Req.f k a0_0 a0_1 a0_2 a0_3 a0_4 a0_5 a0_6 a0_7 a0_8 a0_9 a0_10).bind fun bt393 => ((wire_TakeReq.f a1).bind fun bt395 => ((stanchionref16_TakeReq.f a1).bind fun bt408 => (if t390 = true then (if t391.toList = bt393.1.toList then (if t392 = bt393.2 then (if (bt395.1 == bt408.1 && (bt395.2.1 == bt408.2.1 && (bt395.2.2.1 == bt408.2.2.1 && (bt395.2.2.2.1 == bt408.2.2.2.1 && (bt395.2.2.2.2.1.toList == bt408.2.2.2.2.1.toList && ((bt395.2.2.2.2.2.1 == bt408.2.2.2.2.2.1 && (bt395.2.2.2.2.2.2.1.toList == bt408.2.2.2.2.2.2.1.toList && (bt395.2.2.2.2.2.2.2.1.toList == bt408.2.2.2.2.2.2.2.1.toList && (bt395.2.2.2.2.2.2.2.2.1.toList == bt408.2.2.2.2.2.2.2.2.1.toList && (bt395.2.2.2.2.2.2.2.2.2.1.toList == bt408.2.2.2.2.2.2.2.2.2.1.toList && (bt395.2.2.2.2.2.2.2.2.2.2.1 == bt408.2.2.2.2.2.2.2.2.2.2.1)))))))))))) = true then (if bt395.2.2.2.2.2.2.2.2.2.2.2 = bt408.2.2.2.2.2.2.2.2.2.2.2 then ((wire_MayReq.f k a0_0 a0_1 a0_2 a0_3 a0_4 a0_5 a0_6 a0_7 a0_8 a0_9 a0_10).bind fun t421 => ((stanchionref16_MayReq.f k a0_0 a0_1 a0_2 a0_3 a0_4 a0_5 a0_6 a0_7 a0_8 a0_9 a0_10).bind fun t422 => (some (t421 == t422)))) else (some false)) else (some false)) else (some false)) else (some false)) else (some false))))) = some r := H
  have A4 := Aside0.mk A40
  clear A40
  replace H := Option.bind_eq_some_iff.mp H
  obtain ⟨⟨t393, t394⟩, A50, H⟩ := H
  replace H : ((wire_TakeReq.f a1).bind fun bt395 => ((stanchionref16_TakeReq.f a1).bind fun bt408 => (if t390 = true then (if t391.toList = t393.toList then (if t392 = t394 then (if (bt395.1 == bt408.1 && (bt395.2.1 == bt408.2.1 && (bt395.2.2.1 == bt408.2.2.1 && (bt395.2.2.2.1 == bt408.2.2.2.1 && (bt395.2.2.2.2.1.toList == bt408.2.2.2.2.1.toList && ((bt395.2.2.2.2.2.1 == bt408.2.2.2.2.2.1 && (bt395.2.2.2.2.2.2.1.toList == bt408.2.2.2.2.2.2.1.toList && (bt395.2.2.2.2.2.2.2.1.toList == bt408.2.2.2.2.2.2.2.1.toList && (bt395.2.2.2.2.2.2.2.2.1.toList == bt408.2.2.2.2.2.2.2.2.1.toList && (bt395.2.2.2.2.2.2.2.2.2.1.toList == bt408.2.2.2.2.2.2.2.2.2.1.toList && (bt395.2.2.2.2.2.2.2.2.2.2.1 == bt408.2.2.2.2.2.2.2.2.2.2.1)))))))))))) = true then (if bt395.2.2.2.2.2.2.2.2.2.2.2 = bt408.2.2.2.2.2.2.2.2.2.2.2 then ((wire_MayReq.f k a0_0 a0_1 a0_2 a0_3 a0_4 a0_5 a0_6 a0_7 a0_8 a0_9 a0_10).bind fun t421 => ((stanchionref16_MayReq.f k a0_0 a0_1 a0_2 a0_3 a0_4 a0_5 a0_6 a0_7 a0_8 a0_9 a0_10).bind fun t422 => (some (t421 == t422)))) else (some false)) else (some false)) else (some false)) else (some false)) else (some false)))) = some r := H
  have A5 := Aside0.mk A50
  clear A50
  replace H := Option.bind_eq_some_iff.mp H
  obtain ⟨⟨t395, t396, t397, t398, t399, t400, t401, t402, t403, t404, t405, t406⟩, A60, H⟩ := H
  replace H : ((stanchionref16_TakeReq.f a1).bind fun bt408 => (if t390 = true then (if t391.toList = t393.toList then (if t392 = t394 then (if (t395 == bt408.1 && (t396 == bt408.2.1 && (t397 == bt408.2.2.1 && (t398 == bt408.2.2.2.1 && (t399.toList == bt408.2.2.2.2.1.toList && ((t400 == bt408.2.2.2.2.2.1 && (t401.toList == bt408.2.2.2.2.2.2.1.toList && (t402.toList == bt408.2.2.2.2.2.2.2.1.toList && (t403.toList == bt408.2.2.2.2.2.2.2.2.1.toList && (t404.toList == bt408.2.2.2.2.2.2.2.2.2.1.toList && (t405 == bt408.2.2.2.2.2.2.2.2.2.2.1)))))))))))) = true then (if t406 = bt408.2.2.2.2.2.2.2.2.2.2.2 then ((wire_MayReq.f k a0_0 a0_1 a0_2 a0_3 a0_4 a0_5 a0_6 a0_7 a0_8 a0_9 a0_10).bind fun t421 => ((stanchionref16_MayReq.f k a0_0 a0_1 a0_2 a0_3 a0_4 a0_5 a0_6 a0_7 a0_8 a0_9 a0_10).bind fun t422 => (some (t421 == t422)))) else (some false)) else (some false)) else (some false)) else (some false)) else (some false))) = some r := H
  have A6 := Aside0.mk A60
  clear A60
  replace H := Option.bind_eq_some_iff.mp H
  obtain ⟨⟨t408, t409, t410, t411, t412, t413, t414, t415, t416, t417, t418, t419⟩, A70, H⟩ := H
  replace H : (if t390 = true then (if t391.toList = t393.toList then (if t392 = t394 then (if (t395 == t408 && (t396 == t409 && (t397 == t410 && (t398 == t411 && (t399.toList == t412.toList && ((t400 == t413 && (t401.toList == t414.toList && (t402.toList == t415.toList && (t403.toList == t416.toList && (t404.toList == t417.toList && (t405 == t418)))))))))))) = true then (if t406 = t419 then ((wire_MayReq.f k a0_0 a0_1 a0_2 a0_3 a0_4 a0_5 a0_6 a0_7 a0_8 a0_9 a0_10).bind fun t421 => ((stanchionref16_MayReq.f k a0_0 a0_1 a0_2 a0_3 a0_4 a0_5 a0_6 a0_7 a0_8 a0_9 a0_10).bind fun t422 => (some (t421 == t422)))) else (some false)) else (some false)) else (some false)) else (some false)) else (some false)) = some r := H
  have A7 := Aside0.mk A70
  clear A70
  by_cases c8 : t390 = true
  · subst c8
    have H1 : (if t391.toList = t393.toList then (if t392 = t394 then (if (t395 == t408 && (t396 == t409 && (t397 == t410 && (t398 == t411 && (t399.toList == t412.toList && ((t400 == t413 && (t401.toList == t414.toList && (t402.toList == t415.toList && (t403.toList == t416.toList && (t404.toList == t417.toList && (t405 == t418)))))))))))) = true then (if t406 = t419 then ((wire_MayReq.f k a0_0 a0_1 a0_2 a0_3 a0_4 a0_5 a0_6 a0_7 a0_8 a0_9 a0_10).bind fun t421 => ((stanchionref16_MayReq.f k a0_0 a0_1 a0_2 a0_3 a0_4 a0_5 a0_6 a0_7 a0_8 a0_9 a0_10).bind fun t422 => (some (t421 == t422)))) else (some false)) else (some false)) else (some false)) else (some false)) = some r := by rw [if_pos rfl] at H; exact H
    clear H
    have H := H1
    clear H1
    by_cases c9 : t391.toList = t393.toList
    · rw [if_pos c9] at H
      have c9b0 : (t391.toList == t393.toList) = true := beq_iff_eq.mpr c9
      have c9b1 : (t391.toList != t393.toList) = false := bne_eq_false_iff_eq.mpr c9
      clear c9
      by_cases c10 : t392 = t394
      · rw [if_pos c10] at H
        have c10b0 : (t392 == t394) = true := beq_iff_eq.mpr c10
        have c10b1 : (t392 != t394) = false := bne_eq_false_iff_eq.mpr c10
        clear c10
        by_cases c11 : (t395 == t408 && (t396 == t409 && (t397 == t410 && (t398 == t411 && (t399.toList == t412.toList && ((t400 == t413 && (t401.toList == t414.toList && (t402.toList == t415.toList && (t403.toList == t416.toList && (t404.toList == t417.toList && (t405 == t418)))))))))))) = true
        · rw [if_pos c11] at H
          have c11b0 : (t395 == t408 && (t396 == t409 && (t397 == t410 && (t398 == t411 && (t399.toList == t412.toList && ((t400 == t413 && (t401.toList == t414.toList && (t402.toList == t415.toList && (t403.toList == t416.toList && (t404.toList == t417.toList && (t405 == t418)))))))))))) = true := c11
          (try (have c11b1 : decide (t395 = t408 && (t396 == t409 && (t397 == t410 && (t398 == t411 && (t399.toList == t412.toList && ((t400 == t413 && (t401.toList == t414.toList && (t402.toList == t415.toList && (t403.toList == t416.toList && (t404.toList == t417.toList && (t405 == t418)))))))))))) = true := by simpa using c11))
          (try (have c11b2 : (t395 == t408 && (t396 == t409 && (t397 == t410 && (t398 == t411 && (t399.toList == t412.toList && ((t400 == t413 && (t401.toList == t414.toList && (t402.toList == t415.toList && (t403.toList == t416.toList && (t404.toList == t417.toList && (t405 == t418)))))))))))) = true := by simpa using c11))
          clear c11
          by_cases c12 : t406 = t419
          · rw [if_pos c12] at H
            have c12b0 : (t406 == t419) = true := beq_iff_eq.mpr c12
            have c12b1 : (t406 != t419) = false := bne_eq_false_iff_eq.mpr c12
            clear c12
            replace H := Option.bind_eq_some_iff.mp H
            obtain ⟨t421, A130, H⟩ := H
            replace H : ((stanchionref16_MayReq.f k a0_0 a0_1 a0_2 a0_3 a0_4 a0_5 a0_6 a0_7 a0_8 a0_9 a0_10).bind fun t422 => (some (t421 == t422))) = some r := H
            have A13 := Aside0.mk A130
            clear A130
            replace H := Option.bind_eq_some_iff.mp H
            obtain ⟨t422, A140, H⟩ := H
            replace H : (some (t421 == t422)) = some r := H
            have A14 := Aside0.mk A140
            clear A140
            obtain rfl := Option.some.inj H
            go_enter Tryd.func3, Tryd.ntmps3
            try go_wp2_with (first | ((with_reducible refine gate_dst (N := 2) rfl ?_); refine box_event ?hg (N := 2) ?hd (cs := #[.int .i64 a0_0, .int .i64 a0_1, .int .i64 a0_2, .int .i64 a0_3, .string a0_4, .int .i64 a0_5, .string a0_6, .string a0_7, .string a0_8, .string a0_9, .int .i64 a0_10]) (t := 25) ?hr ?_; (case hd => rfl); (case hg => rfl); (case hr => first | (go_simp; done) | (go_simp; rfl)); intro gb389 hg w15 hbox hb; have n0_ := Aside0.mk (below_step (by repeat (first | (with_reducible first | exact HB.out | apply below_alloc | apply pw_below_drewN | apply below_drew1) | exact HB.out)) hb); have n1_ := Aside0.mk (hbox); have n2_ := Aside0.mk ((by rw [hg]; exact (below_size (by repeat (first | (with_reducible first | exact HB.out | apply below_alloc | apply pw_below_drewN | apply below_drew1) | exact HB.out))) : w.heap.size ≤ gb389)); have n3_ := Aside0.mk ((by rw [hg]; exact (below_size (by repeat (first | (with_reducible first | exact HB.out | apply below_alloc | apply pw_below_drewN | apply below_drew1) | exact HB.out))) : w.heap.size ≤ gb389)); clear HB; have HB := n0_; have BK389 := n1_; have GW389 := n2_; have GE389 := n3_; clear n0_ n1_ n2_ n3_; clear hb hbox hg) | ((with_reducible refine gate_callee (f := 8) rfl ?_); refine goesL_ (some 14) rfl rfl Tryd.func8 (by kernel_rfl) rfl #[] rfl (by (try simp only [List.map_toArray, List.map_cons, List.map_nil]); first | done | rfl | (simp only [List.length_drop, List.length_take]; rfl)) ?_; (with_reducible refine (stanchionlaw16_shown.calls k  true _ A3.out).mono ?_); rintro e w16 ⟨rfl, hb⟩; refine ⟨_, rfl, ?_⟩; have n0_ := Aside0.mk (blk_below (g := gb389) (o := .cells #[.int .i64 a0_0, .int .i64 a0_1, .int .i64 a0_2, .int .i64 a0_3, .string a0_4, .int .i64 a0_5, .string a0_6, .string a0_7, .string a0_8, .string a0_9, .int .i64 a0_10] 25 (0, 0)) (by (with_reducible repeat (first | refine blk_drewN ?_ _ | refine blk_drew ?_ | refine blk_alloc ?_ _)); exact BK389.out) hb); have n1_ := Aside0.mk (below_step (by repeat (first | (with_reducible first | exact HB.out | apply below_alloc | apply pw_below_drewN | apply below_drew1 | refine below_set ?_ GE389.out) | exact HB.out)) hb); clear BK389; clear HB; have BK389 := n0_; have HB := n1_; clear n0_ n1_; (try clear hb); (try clear hb2); (try clear hk); (try clear hi); have hcz17_0 : w16.cell? ⟨gb389, 0, none⟩ = some (.int .i64 a0_0) := (blk_cell BK389.out 0).trans rfl; have hcz17_1 : w16.cell? ⟨gb389, 1, none⟩ = some (.int .i64 a0_1) := (blk_cell BK389.out 1).trans rfl; have hcz17_2 : w16.cell? ⟨gb389, 2, none⟩ = some (.int .i64 a0_2) := (blk_cell BK389.out 2).trans rfl; have hcz17_3 : w16.cell? ⟨gb389, 3, none⟩ = some (.int .i64 a0_3) := (blk_cell BK389.out 3).trans rfl; have hcz17_4 : w16.cell? ⟨gb389, 4, none⟩ = some (.string a0_4) := (blk_cell BK389.out 4).trans rfl; have hcz17_5 : w16.cell? ⟨gb389, 5, none⟩ = some (.int .i64 a0_5) := (blk_cell BK389.out 5).trans rfl; have hcz17_6 : w16.cell? ⟨gb389, 6, none⟩ = some (.string a0_6) := (blk_cell BK389.out 6).trans rfl; have hcz17_7 : w16.cell? ⟨gb389, 7, none⟩ = some (.string a0_7) := (blk_cell BK389.out 7).trans rfl; have hcz17_8 : w16.cell? ⟨gb389, 8, none⟩ = some (.string a0_8) := (blk_cell BK389.out 8).trans rfl; have hcz17_9 : w16.cell? ⟨gb389, 9, none⟩ = some (.string a0_9) := (blk_cell BK389.out 9).trans rfl; have hcz17_10 : w16.cell? ⟨gb389, 10, none⟩ = some (.int .i64 a0_10) := (blk_cell BK389.out 10).trans rfl; have hfz17_0 := blk_frozen BK389.out 0; have hfz17_1 := blk_frozen BK389.out 1; have hfz17_2 := blk_frozen BK389.out 2; have hfz17_3 := blk_frozen BK389.out 3; have hfz17_4 := blk_frozen BK389.out 4; have hfz17_5 := blk_frozen BK389.out 5; have hfz17_6 := blk_frozen BK389.out 6; have hfz17_7 := blk_frozen BK389.out 7; have hfz17_8 := blk_frozen BK389.out 8; have hfz17_9 := blk_frozen BK389.out 9; have hfz17_10 := blk_frozen BK389.out 10) | ((with_reducible refine gate_callee (f := 9) rfl ?_); refine goesL_ (some 17) rfl rfl Tryd.func9 (by kernel_rfl) rfl #[.agg #[.int .i64 a0_0, .int .i64 a0_1, .int .i64 a0_2, .int .i64 a0_3, .string a0_4, .int .i64 a0_5, .string a0_6, .string a0_7, .string a0_8, .string a0_9, .int .i64 a0_10]] rfl (by (try simp only [List.map_toArray, List.map_cons, List.map_nil]); first | done | rfl | (simp only [List.length_drop, List.length_take]; rfl)) ?_; (with_reducible refine (wire_Req.calls k a0_0 a0_1 a0_2 a0_3 a0_4 a0_5 a0_6 a0_7 a0_8 a0_9 a0_10 t391 t392 _ A4.out).mono ?_); rintro e w18 ⟨rfl, hb⟩; refine ⟨_, rfl, ?_⟩; have n0_ := Aside0.mk (blk_below (g := gb389) (o := .cells #[.int .i64 a0_0, .int .i64 a0_1, .int .i64 a0_2, .int .i64 a0_3, .string a0_4, .int .i64 a0_5, .string a0_6, .string a0_7, .string a0_8, .string a0_9, .int .i64 a0_10] 25 (0, 0)) (by (with_reducible repeat (first | refine blk_drewN ?_ _ | refine blk_drew ?_ | refine blk_alloc ?_ _)); exact BK389.out) hb); have n1_ := Aside0.mk (below_step (by repeat (first | (with_reducible first | exact HB.out | apply below_alloc | apply pw_below_drewN | apply below_drew1 | refine below_set ?_ GE389.out) | exact HB.out)) hb); clear BK389; clear HB; have BK389 := n0_; have HB := n1_; clear n0_ n1_; (try clear hb); (try clear hb2); (try clear hk); (try clear hi); have hcz19_0 : w18.cell? ⟨gb389, 0, none⟩ = some (.int .i64 a0_0) := (blk_cell BK389.out 0).trans rfl; have hcz19_1 : w18.cell? ⟨gb389, 1, none⟩ = some (.int .i64 a0_1) := (blk_cell BK389.out 1).trans rfl; have hcz19_2 : w18.cell? ⟨gb389, 2, none⟩ = some (.int .i64 a0_2) := (blk_cell BK389.out 2).trans rfl; have hcz19_3 : w18.cell? ⟨gb389, 3, none⟩ = some (.int .i64 a0_3) := (blk_cell BK389.out 3).trans rfl; have hcz19_4 : w18.cell? ⟨gb389, 4, none⟩ = some (.string a0_4) := (blk_cell BK389.out 4).trans rfl; have hcz19_5 : w18.cell? ⟨gb389, 5, none⟩ = some (.int .i64 a0_5) := (blk_cell BK389.out 5).trans rfl; have hcz19_6 : w18.cell? ⟨gb389, 6, none⟩ = some (.string a0_6) := (blk_cell BK389.out 6).trans rfl; have hcz19_7 : w18.cell? ⟨gb389, 7, none⟩ = some (.string a0_7) := (blk_cell BK389.out 7).trans rfl; have hcz19_8 : w18.cell? ⟨gb389, 8, none⟩ = some (.string a0_8) := (blk_cell BK389.out 8).trans rfl; have hcz19_9 : w18.cell? ⟨gb389, 9, none⟩ = some (.string a0_9) := (blk_cell BK389.out 9).trans rfl; have hcz19_10 : w18.cell? ⟨gb389, 10, none⟩ = some (.int .i64 a0_10) := (blk_cell BK389.out 10).trans rfl; have hfz19_0 := blk_frozen BK389.out 0; have hfz19_1 := blk_frozen BK389.out 1; have hfz19_2 := blk_frozen BK389.out 2; have hfz19_3 := blk_frozen BK389.out 3; have hfz19_4 := blk_frozen BK389.out 4; have hfz19_5 := blk_frozen BK389.out 5; have hfz19_6 := blk_frozen BK389.out 6; have hfz19_7 := blk_frozen BK389.out 7; have hfz19_8 := blk_frozen BK389.out 8; have hfz19_9 := blk_frozen BK389.out 9; have hfz19_10 := blk_frozen BK389.out 10) | ((with_reducible refine gate_callee (f := 10) rfl ?_); refine goesL_ (some 22) rfl rfl Tryd.func10 (by kernel_rfl) rfl #[.agg #[.int .i64 a0_0, .int .i64 a0_1, .int .i64 a0_2, .int .i64 a0_3, .string a0_4, .int .i64 a0_5, .string a0_6, .string a0_7, .string a0_8, .string a0_9, .int .i64 a0_10]] rfl (by (try simp only [List.map_toArray, List.map_cons, List.map_nil]); first | done | rfl | (simp only [List.length_drop, List.length_take]; rfl)) ?_; (with_reducible refine (stanchionref16_Req.calls k a0_0 a0_1 a0_2 a0_3 a0_4 a0_5 a0_6 a0_7 a0_8 a0_9 a0_10 t393 t394 _ A5.out).mono ?_); rintro e w20 ⟨rfl, hb⟩; refine ⟨_, rfl, ?_⟩; have n0_ := Aside0.mk (blk_below (g := gb389) (o := .cells #[.int .i64 a0_0, .int .i64 a0_1, .int .i64 a0_2, .int .i64 a0_3, .string a0_4, .int .i64 a0_5, .string a0_6, .string a0_7, .string a0_8, .string a0_9, .int .i64 a0_10] 25 (0, 0)) (by (with_reducible repeat (first | refine blk_drewN ?_ _ | refine blk_drew ?_ | refine blk_alloc ?_ _)); exact BK389.out) hb); have n1_ := Aside0.mk (below_step (by repeat (first | (with_reducible first | exact HB.out | apply below_alloc | apply pw_below_drewN | apply below_drew1 | refine below_set ?_ GE389.out) | exact HB.out)) hb); clear BK389; clear HB; have BK389 := n0_; have HB := n1_; clear n0_ n1_; (try clear hb); (try clear hb2); (try clear hk); (try clear hi)) | ((with_reducible refine gate_callee (f := 11) rfl ?_); refine goesL_ (some 27) rfl rfl Tryd.func11 (by kernel_rfl) rfl #[.string a1] rfl (by (try simp only [List.map_toArray, List.map_cons, List.map_nil]); first | done | rfl | (simp only [List.length_drop, List.length_take]; rfl)) ?_; (with_reducible refine (wire_TakeReq.calls a1 t395 t396 t397 t398 t399 t400 t401 t402 t403 t404 t405 t406 _ A6.out (handle_at HGL.out (by repeat (first | (with_reducible first | exact HB.out | apply below_alloc | apply pw_below_drewN | apply below_drew1 | refine below_set ?_ GE389.out) | exact HB.out)))).mono ?_); rintro e w21 ⟨rfl, hb⟩; refine ⟨_, rfl, ?_⟩; have n0_ := Aside0.mk (blk_below (g := gb389) (o := .cells #[.int .i64 a0_0, .int .i64 a0_1, .int .i64 a0_2, .int .i64 a0_3, .string a0_4, .int .i64 a0_5, .string a0_6, .string a0_7, .string a0_8, .string a0_9, .int .i64 a0_10] 25 (0, 0)) (by (with_reducible repeat (first | refine blk_drewN ?_ _ | refine blk_drew ?_ | refine blk_alloc ?_ _)); exact BK389.out) hb); have n1_ := Aside0.mk (below_step (by repeat (first | (with_reducible first | exact HB.out | apply below_alloc | apply pw_below_drewN | apply below_drew1 | refine below_set ?_ GE389.out) | exact HB.out)) hb); clear BK389; clear HB; have BK389 := n0_; have HB := n1_; clear n0_ n1_; (try clear hb); (try clear hb2); (try clear hk); (try clear hi)) | ((with_reducible refine gate_dst (N := 10) rfl ?_); refine box_event ?hg (N := 10) ?hd (cs := #[.int .i64 0, .int .i64 0, .int .i64 0, .int .i64 0, .string (⟨#[]⟩ : ByteArray), .int .i64 0, .string (⟨#[]⟩ : ByteArray), .string (⟨#[]⟩ : ByteArray), .string (⟨#[]⟩ : ByteArray), .string (⟨#[]⟩ : ByteArray), .int .i64 0]) (t := 25) ?hr ?_; (case hd => rfl); (case hg => rfl); (case hr => first | (go_simp; done) | (go_simp; rfl)); intro gb407 hg w22 hbox hb; have n0_ := Aside0.mk (blk_below (g := gb389) (o := .cells #[.int .i64 a0_0, .int .i64 a0_1, .int .i64 a0_2, .int .i64 a0_3, .string a0_4, .int .i64 a0_5, .string a0_6, .string a0_7, .string a0_8, .string a0_9, .int .i64 a0_10] 25 (0, 0)) (by (with_reducible repeat (first | refine blk_drewN ?_ _ | refine blk_drew ?_ | refine blk_alloc ?_ _)); exact BK389.out) hb); have n1_ := Aside0.mk (below_step (by repeat (first | (with_reducible first | exact HB.out | apply below_alloc | apply pw_below_drewN | apply below_drew1 | refine below_set ?_ GE389.out) | exact HB.out)) hb); have n2_ := Aside0.mk (hbox); have n3_ := Aside0.mk ((by rw [hg]; exact (below_size (by repeat (first | (with_reducible first | exact HB.out | apply below_alloc | apply pw_below_drewN | apply below_drew1 | refine below_set ?_ GE389.out) | exact HB.out))) : w.heap.size ≤ gb407)); have n4_ := Aside0.mk ((by rw [hg]; exact (below_size (by repeat (first | (with_reducible first | exact HB.out | apply below_alloc | apply pw_below_drewN | apply below_drew1 | refine below_set ?_ GE389.out) | exact HB.out))) : w.heap.size ≤ gb407)); have n5_ := Aside0.mk ((by rw [hg]; exact Nat.ne_of_lt (blk_lt (g := gb389) (o := .cells #[.int .i64 a0_0, .int .i64 a0_1, .int .i64 a0_2, .int .i64 a0_3, .string a0_4, .int .i64 a0_5, .string a0_6, .string a0_7, .string a0_8, .string a0_9, .int .i64 a0_10] 25 (0, 0)) (by (with_reducible repeat (first | refine blk_drewN ?_ _ | refine blk_drew ?_ | refine blk_alloc ?_ _)); exact BK389.out)) : gb389 ≠ gb407)); have n6_ := Aside0.mk ((by rw [hg]; exact Nat.ne_of_gt (blk_lt (g := gb389) (o := .cells #[.int .i64 a0_0, .int .i64 a0_1, .int .i64 a0_2, .int .i64 a0_3, .string a0_4, .int .i64 a0_5, .string a0_6, .string a0_7, .string a0_8, .string a0_9, .int .i64 a0_10] 25 (0, 0)) (by (with_reducible repeat (first | refine blk_drewN ?_ _ | refine blk_drew ?_ | refine blk_alloc ?_ _)); exact BK389.out)) : gb407 ≠ gb389)); clear BK389; clear HB; have BK389 := n0_; have HB := n1_; have BK407 := n2_; have GW407 := n3_; have GE407 := n4_; have NB389_407 := n5_; have NB407_389 := n6_; clear n0_ n1_ n2_ n3_ n4_ n5_ n6_; clear hb hbox hg; have hnb23 := NB407_389.out; have hnc23 := NB389_407.out; have hcz24_0 : w22.cell? ⟨gb407, 0, none⟩ = some (.int .i64 0) := (blk_cell BK407.out 0).trans rfl; have hcz24_1 : w22.cell? ⟨gb407, 1, none⟩ = some (.int .i64 0) := (blk_cell BK407.out 1).trans rfl; have hcz24_2 : w22.cell? ⟨gb407, 2, none⟩ = some (.int .i64 0) := (blk_cell BK407.out 2).trans rfl; have hcz24_3 : w22.cell? ⟨gb407, 3, none⟩ = some (.int .i64 0) := (blk_cell BK407.out 3).trans rfl; have hcz24_4 : w22.cell? ⟨gb407, 4, none⟩ = some (.string (⟨#[]⟩ : ByteArray)) := (blk_cell BK407.out 4).trans rfl; have hcz24_5 : w22.cell? ⟨gb407, 5, none⟩ = some (.int .i64 0) := (blk_cell BK407.out 5).trans rfl; have hcz24_6 : w22.cell? ⟨gb407, 6, none⟩ = some (.string (⟨#[]⟩ : ByteArray)) := (blk_cell BK407.out 6).trans rfl; have hcz24_7 : w22.cell? ⟨gb407, 7, none⟩ = some (.string (⟨#[]⟩ : ByteArray)) := (blk_cell BK407.out 7).trans rfl; have hcz24_8 : w22.cell? ⟨gb407, 8, none⟩ = some (.string (⟨#[]⟩ : ByteArray)) := (blk_cell BK407.out 8).trans rfl; have hcz24_9 : w22.cell? ⟨gb407, 9, none⟩ = some (.string (⟨#[]⟩ : ByteArray)) := (blk_cell BK407.out 9).trans rfl; have hcz24_10 : w22.cell? ⟨gb407, 10, none⟩ = some (.int .i64 0) := (blk_cell BK407.out 10).trans rfl; have hfz24_0 := blk_frozen BK407.out 0; have hfz24_1 := blk_frozen BK407.out 1; have hfz24_2 := blk_frozen BK407.out 2; have hfz24_3 := blk_frozen BK407.out 3; have hfz24_4 := blk_frozen BK407.out 4; have hfz24_5 := blk_frozen BK407.out 5; have hfz24_6 := blk_frozen BK407.out 6; have hfz24_7 := blk_frozen BK407.out 7; have hfz24_8 := blk_frozen BK407.out 8; have hfz24_9 := blk_frozen BK407.out 9; have hfz24_10 := blk_frozen BK407.out 10) | ((with_reducible refine gate_callee (f := 12) rfl ?_); refine goesL_ (some 32) rfl rfl Tryd.func12 (by kernel_rfl) rfl #[.string a1] rfl (by (try simp only [List.map_toArray, List.map_cons, List.map_nil]); first | done | rfl | (simp only [List.length_drop, List.length_take]; rfl)) ?_; (with_reducible refine (stanchionref16_TakeReq.calls a1 t408 t409 t410 t411 t412 t413 t414 t415 t416 t417 t418 t419 _ A7.out).mono ?_); rintro e w25 ⟨rfl, hb⟩; refine ⟨_, rfl, ?_⟩; have n0_ := Aside0.mk (blk_below (g := gb389) (o := .cells #[.int .i64 a0_0, .int .i64 a0_1, .int .i64 a0_2, .int .i64 a0_3, .string a0_4, .int .i64 a0_5, .string a0_6, .string a0_7, .string a0_8, .string a0_9, .int .i64 a0_10] 25 (0, 0)) (by (with_reducible repeat (first | refine blk_drewN ?_ _ | refine blk_drew ?_ | refine blk_alloc ?_ _)); refine blk_far ?_ NB389_407.out _; (with_reducible repeat (first | refine blk_drewN ?_ _ | refine blk_drew ?_ | refine blk_alloc ?_ _)); refine blk_far ?_ NB389_407.out _; (with_reducible repeat (first | refine blk_drewN ?_ _ | refine blk_drew ?_ | refine blk_alloc ?_ _)); refine blk_far ?_ NB389_407.out _; (with_reducible repeat (first | refine blk_drewN ?_ _ | refine blk_drew ?_ | refine blk_alloc ?_ _)); refine blk_far ?_ NB389_407.out _; (with_reducible repeat (first | refine blk_drewN ?_ _ | refine blk_drew ?_ | refine blk_alloc ?_ _)); refine blk_far ?_ NB389_407.out _; (with_reducible repeat (first | refine blk_drewN ?_ _ | refine blk_drew ?_ | refine blk_alloc ?_ _)); refine blk_far ?_ NB389_407.out _; (with_reducible repeat (first | refine blk_drewN ?_ _ | refine blk_drew ?_ | refine blk_alloc ?_ _)); refine blk_far ?_ NB389_407.out _; (with_reducible repeat (first | refine blk_drewN ?_ _ | refine blk_drew ?_ | refine blk_alloc ?_ _)); refine blk_far ?_ NB389_407.out _; (with_reducible repeat (first | refine blk_drewN ?_ _ | refine blk_drew ?_ | refine blk_alloc ?_ _)); refine blk_far ?_ NB389_407.out _; (with_reducible repeat (first | refine blk_drewN ?_ _ | refine blk_drew ?_ | refine blk_alloc ?_ _)); refine blk_far ?_ NB389_407.out _; (with_reducible repeat (first | refine blk_drewN ?_ _ | refine blk_drew ?_ | refine blk_alloc ?_ _)); refine blk_far ?_ NB389_407.out _; (with_reducible repeat (first | refine blk_drewN ?_ _ | refine blk_drew ?_ | refine blk_alloc ?_ _)); exact BK389.out) hb); have n1_ := Aside0.mk (blk_below (g := gb407) (o := .cells #[.int .i64 t395, .int .i64 t396, .int .i64 t397, .int .i64 t398, .string t399, .int .i64 t400, .string t401, .string t402, .string t403, .string t404, .int .i64 t405] 25 (0, 0)) (by (with_reducible repeat (first | refine blk_drewN ?_ _ | refine blk_drew ?_ | refine blk_alloc ?_ _)); refine blk_put (cs := #[.int .i64 t395, .int .i64 t396, .int .i64 t397, .int .i64 t398, .string t399, .int .i64 t400, .string t401, .string t402, .string t403, .string t404, .int .i64 0]) ?_ 10 _ rfl; (with_reducible repeat (first | refine blk_drewN ?_ _ | refine blk_drew ?_ | refine blk_alloc ?_ _)); refine blk_put (cs := #[.int .i64 t395, .int .i64 t396, .int .i64 t397, .int .i64 t398, .string t399, .int .i64 t400, .string t401, .string t402, .string t403, .string (⟨#[]⟩ : ByteArray), .int .i64 0]) ?_ 9 _ rfl; (with_reducible repeat (first | refine blk_drewN ?_ _ | refine blk_drew ?_ | refine blk_alloc ?_ _)); refine blk_put (cs := #[.int .i64 t395, .int .i64 t396, .int .i64 t397, .int .i64 t398, .string t399, .int .i64 t400, .string t401, .string t402, .string (⟨#[]⟩ : ByteArray), .string (⟨#[]⟩ : ByteArray), .int .i64 0]) ?_ 8 _ rfl; (with_reducible repeat (first | refine blk_drewN ?_ _ | refine blk_drew ?_ | refine blk_alloc ?_ _)); refine blk_put (cs := #[.int .i64 t395, .int .i64 t396, .int .i64 t397, .int .i64 t398, .string t399, .int .i64 t400, .string t401, .string (⟨#[]⟩ : ByteArray), .string (⟨#[]⟩ : ByteArray), .string (⟨#[]⟩ : ByteArray), .int .i64 0]) ?_ 7 _ rfl; (with_reducible repeat (first | refine blk_drewN ?_ _ | refine blk_drew ?_ | refine blk_alloc ?_ _)); refine blk_put (cs := #[.int .i64 t395, .int .i64 t396, .int .i64 t397, .int .i64 t398, .string t399, .int .i64 t400, .string (⟨#[]⟩ : ByteArray), .string (⟨#[]⟩ : ByteArray), .string (⟨#[]⟩ : ByteArray), .string (⟨#[]⟩ : ByteArray), .int .i64 0]) ?_ 6 _ rfl; (with_reducible repeat (first | refine blk_drewN ?_ _ | refine blk_drew ?_ | refine blk_alloc ?_ _)); refine blk_put (cs := #[.int .i64 t395, .int .i64 t396, .int .i64 t397, .int .i64 t398, .string t399, .int .i64 0, .string (⟨#[]⟩ : ByteArray), .string (⟨#[]⟩ : ByteArray), .string (⟨#[]⟩ : ByteArray), .string (⟨#[]⟩ : ByteArray), .int .i64 0]) ?_ 5 _ rfl; (with_reducible repeat (first | refine blk_drewN ?_ _ | refine blk_drew ?_ | refine blk_alloc ?_ _)); refine blk_put (cs := #[.int .i64 t395, .int .i64 t396, .int .i64 t397, .int .i64 t398, .string (⟨#[]⟩ : ByteArray), .int .i64 0, .string (⟨#[]⟩ : ByteArray), .string (⟨#[]⟩ : ByteArray), .string (⟨#[]⟩ : ByteArray), .string (⟨#[]⟩ : ByteArray), .int .i64 0]) ?_ 4 _ rfl; (with_reducible repeat (first | refine blk_drewN ?_ _ | refine blk_drew ?_ | refine blk_alloc ?_ _)); refine blk_put (cs := #[.int .i64 t395, .int .i64 t396, .int .i64 t397, .int .i64 0, .string (⟨#[]⟩ : ByteArray), .int .i64 0, .string (⟨#[]⟩ : ByteArray), .string (⟨#[]⟩ : ByteArray), .string (⟨#[]⟩ : ByteArray), .string (⟨#[]⟩ : ByteArray), .int .i64 0]) ?_ 3 _ rfl; (with_reducible repeat (first | refine blk_drewN ?_ _ | refine blk_drew ?_ | refine blk_alloc ?_ _)); refine blk_put (cs := #[.int .i64 t395, .int .i64 t396, .int .i64 0, .int .i64 0, .string (⟨#[]⟩ : ByteArray), .int .i64 0, .string (⟨#[]⟩ : ByteArray), .string (⟨#[]⟩ : ByteArray), .string (⟨#[]⟩ : ByteArray), .string (⟨#[]⟩ : ByteArray), .int .i64 0]) ?_ 2 _ rfl; (with_reducible repeat (first | refine blk_drewN ?_ _ | refine blk_drew ?_ | refine blk_alloc ?_ _)); refine blk_put (cs := #[.int .i64 t395, .int .i64 0, .int .i64 0, .int .i64 0, .string (⟨#[]⟩ : ByteArray), .int .i64 0, .string (⟨#[]⟩ : ByteArray), .string (⟨#[]⟩ : ByteArray), .string (⟨#[]⟩ : ByteArray), .string (⟨#[]⟩ : ByteArray), .int .i64 0]) ?_ 1 _ rfl; (with_reducible repeat (first | refine blk_drewN ?_ _ | refine blk_drew ?_ | refine blk_alloc ?_ _)); refine blk_put (cs := #[.int .i64 0, .int .i64 0, .int .i64 0, .int .i64 0, .string (⟨#[]⟩ : ByteArray), .int .i64 0, .string (⟨#[]⟩ : ByteArray), .string (⟨#[]⟩ : ByteArray), .string (⟨#[]⟩ : ByteArray), .string (⟨#[]⟩ : ByteArray), .int .i64 0]) ?_ 0 _ rfl; (with_reducible repeat (first | refine blk_drewN ?_ _ | refine blk_drew ?_ | refine blk_alloc ?_ _)); exact BK407.out) hb); have n2_ := Aside0.mk (below_step (by repeat (first | (with_reducible first | exact HB.out | apply below_alloc | apply pw_below_drewN | apply below_drew1 | refine below_set ?_ GE389.out | refine below_set ?_ GE407.out) | exact HB.out)) hb); clear BK389; clear BK407; clear HB; have BK389 := n0_; have BK407 := n1_; have HB := n2_; clear n0_ n1_ n2_; (try clear hb); (try clear hb2); (try clear hk); (try clear hi)) | ((with_reducible refine gate_dst (N := 12) rfl ?_); refine box_event ?hg (N := 12) ?hd (cs := #[.int .i64 0, .int .i64 0, .int .i64 0, .int .i64 0, .string (⟨#[]⟩ : ByteArray), .int .i64 0, .string (⟨#[]⟩ : ByteArray), .string (⟨#[]⟩ : ByteArray), .string (⟨#[]⟩ : ByteArray), .string (⟨#[]⟩ : ByteArray), .int .i64 0]) (t := 25) ?hr ?_; (case hd => rfl); (case hg => rfl); (case hr => first | (go_simp; done) | (go_simp; rfl)); intro gb420 hg w26 hbox hb; have n0_ := Aside0.mk (blk_below (g := gb389) (o := .cells #[.int .i64 a0_0, .int .i64 a0_1, .int .i64 a0_2, .int .i64 a0_3, .string a0_4, .int .i64 a0_5, .string a0_6, .string a0_7, .string a0_8, .string a0_9, .int .i64 a0_10] 25 (0, 0)) (by (with_reducible repeat (first | refine blk_drewN ?_ _ | refine blk_drew ?_ | refine blk_alloc ?_ _)); exact BK389.out) hb); have n1_ := Aside0.mk (blk_below (g := gb407) (o := .cells #[.int .i64 t395, .int .i64 t396, .int .i64 t397, .int .i64 t398, .string t399, .int .i64 t400, .string t401, .string t402, .string t403, .string t404, .int .i64 t405] 25 (0, 0)) (by (with_reducible repeat (first | refine blk_drewN ?_ _ | refine blk_drew ?_ | refine blk_alloc ?_ _)); exact BK407.out) hb); have n2_ := Aside0.mk (below_step (by repeat (first | (with_reducible first | exact HB.out | apply below_alloc | apply pw_below_drewN | apply below_drew1 | refine below_set ?_ GE389.out | refine below_set ?_ GE407.out) | exact HB.out)) hb); have n3_ := Aside0.mk (hbox); have n4_ := Aside0.mk ((by rw [hg]; exact (below_size (by repeat (first | (with_reducible first | exact HB.out | apply below_alloc | apply pw_below_drewN | apply below_drew1 | refine below_set ?_ GE389.out | refine below_set ?_ GE407.out) | exact HB.out))) : w.heap.size ≤ gb420)); have n5_ := Aside0.mk ((by rw [hg]; exact (below_size (by repeat (first | (with_reducible first | exact HB.out | apply below_alloc | apply pw_below_drewN | apply below_drew1 | refine below_set ?_ GE389.out | refine below_set ?_ GE407.out) | exact HB.out))) : w.heap.size ≤ gb420)); have n6_ := Aside0.mk ((by rw [hg]; exact Nat.ne_of_lt (blk_lt (g := gb389) (o := .cells #[.int .i64 a0_0, .int .i64 a0_1, .int .i64 a0_2, .int .i64 a0_3, .string a0_4, .int .i64 a0_5, .string a0_6, .string a0_7, .string a0_8, .string a0_9, .int .i64 a0_10] 25 (0, 0)) (by (with_reducible repeat (first | refine blk_drewN ?_ _ | refine blk_drew ?_ | refine blk_alloc ?_ _)); exact BK389.out)) : gb389 ≠ gb420)); have n7_ := Aside0.mk ((by rw [hg]; exact Nat.ne_of_gt (blk_lt (g := gb389) (o := .cells #[.int .i64 a0_0, .int .i64 a0_1, .int .i64 a0_2, .int .i64 a0_3, .string a0_4, .int .i64 a0_5, .string a0_6, .string a0_7, .string a0_8, .string a0_9, .int .i64 a0_10] 25 (0, 0)) (by (with_reducible repeat (first | refine blk_drewN ?_ _ | refine blk_drew ?_ | refine blk_alloc ?_ _)); exact BK389.out)) : gb420 ≠ gb389)); have n8_ := Aside0.mk ((by rw [hg]; exact Nat.ne_of_lt (blk_lt (g := gb407) (o := .cells #[.int .i64 t395, .int .i64 t396, .int .i64 t397, .int .i64 t398, .string t399, .int .i64 t400, .string t401, .string t402, .string t403, .string t404, .int .i64 t405] 25 (0, 0)) (by (with_reducible repeat (first | refine blk_drewN ?_ _ | refine blk_drew ?_ | refine blk_alloc ?_ _)); exact BK407.out)) : gb407 ≠ gb420)); have n9_ := Aside0.mk ((by rw [hg]; exact Nat.ne_of_gt (blk_lt (g := gb407) (o := .cells #[.int .i64 t395, .int .i64 t396, .int .i64 t397, .int .i64 t398, .string t399, .int .i64 t400, .string t401, .string t402, .string t403, .string t404, .int .i64 t405] 25 (0, 0)) (by (with_reducible repeat (first | refine blk_drewN ?_ _ | refine blk_drew ?_ | refine blk_alloc ?_ _)); exact BK407.out)) : gb420 ≠ gb407)); clear BK389; clear BK407; clear HB; have BK389 := n0_; have BK407 := n1_; have HB := n2_; have BK420 := n3_; have GW420 := n4_; have GE420 := n5_; have NB389_420 := n6_; have NB420_389 := n7_; have NB407_420 := n8_; have NB420_407 := n9_; clear n0_ n1_ n2_ n3_ n4_ n5_ n6_ n7_ n8_ n9_; clear hb hbox hg; have hnb27 := NB420_389.out; have hnc27 := NB389_420.out; have hnb28 := NB420_407.out; have hnc28 := NB407_420.out; have hcz29_0 : w26.cell? ⟨gb420, 0, none⟩ = some (.int .i64 0) := (blk_cell BK420.out 0).trans rfl; have hcz29_1 : w26.cell? ⟨gb420, 1, none⟩ = some (.int .i64 0) := (blk_cell BK420.out 1).trans rfl; have hcz29_2 : w26.cell? ⟨gb420, 2, none⟩ = some (.int .i64 0) := (blk_cell BK420.out 2).trans rfl; have hcz29_3 : w26.cell? ⟨gb420, 3, none⟩ = some (.int .i64 0) := (blk_cell BK420.out 3).trans rfl; have hcz29_4 : w26.cell? ⟨gb420, 4, none⟩ = some (.string (⟨#[]⟩ : ByteArray)) := (blk_cell BK420.out 4).trans rfl; have hcz29_5 : w26.cell? ⟨gb420, 5, none⟩ = some (.int .i64 0) := (blk_cell BK420.out 5).trans rfl; have hcz29_6 : w26.cell? ⟨gb420, 6, none⟩ = some (.string (⟨#[]⟩ : ByteArray)) := (blk_cell BK420.out 6).trans rfl; have hcz29_7 : w26.cell? ⟨gb420, 7, none⟩ = some (.string (⟨#[]⟩ : ByteArray)) := (blk_cell BK420.out 7).trans rfl; have hcz29_8 : w26.cell? ⟨gb420, 8, none⟩ = some (.string (⟨#[]⟩ : ByteArray)) := (blk_cell BK420.out 8).trans rfl; have hcz29_9 : w26.cell? ⟨gb420, 9, none⟩ = some (.string (⟨#[]⟩ : ByteArray)) := (blk_cell BK420.out 9).trans rfl; have hcz29_10 : w26.cell? ⟨gb420, 10, none⟩ = some (.int .i64 0) := (blk_cell BK420.out 10).trans rfl; have hfz29_0 := blk_frozen BK420.out 0; have hfz29_1 := blk_frozen BK420.out 1; have hfz29_2 := blk_frozen BK420.out 2; have hfz29_3 := blk_frozen BK420.out 3; have hfz29_4 := blk_frozen BK420.out 4; have hfz29_5 := blk_frozen BK420.out 5; have hfz29_6 := blk_frozen BK420.out 6; have hfz29_7 := blk_frozen BK420.out 7; have hfz29_8 := blk_frozen BK420.out 8; have hfz29_9 := blk_frozen BK420.out 9; have hfz29_10 := blk_frozen BK420.out 10))
            have n0_ : Aside0 ((((((((((((w26.setCell ⟨gb420, 0, none⟩ (.int .i64 t408)).setCell ⟨gb420, 1, none⟩ (.int .i64 t409)).setCell ⟨gb420, 2, none⟩ (.int .i64 t410)).setCell ⟨gb420, 3, none⟩ (.int .i64 t411)).setCell ⟨gb420, 4, none⟩ (.string t412)).setCell ⟨gb420, 5, none⟩ (.int .i64 t413)).setCell ⟨gb420, 6, none⟩ (.string t414)).setCell ⟨gb420, 7, none⟩ (.string t415)).setCell ⟨gb420, 8, none⟩ (.string t416)).setCell ⟨gb420, 9, none⟩ (.string t417)).setCell ⟨gb420, 10, none⟩ (.int .i64 t418)).heap[gb389]? = some (.cells #[.int .i64 a0_0, .int .i64 a0_1, .int .i64 a0_2, .int .i64 a0_3, .string a0_4, .int .i64 a0_5, .string a0_6, .string a0_7, .string a0_8, .string a0_9, .int .i64 a0_10] 25 (0, 0))) := ⟨by (with_reducible repeat (first | refine blk_drewN ?_ _ | refine blk_drew ?_ | refine blk_alloc ?_ _)); refine blk_far ?_ NB389_420.out _; (with_reducible repeat (first | refine blk_drewN ?_ _ | refine blk_drew ?_ | refine blk_alloc ?_ _)); refine blk_far ?_ NB389_420.out _; (with_reducible repeat (first | refine blk_drewN ?_ _ | refine blk_drew ?_ | refine blk_alloc ?_ _)); refine blk_far ?_ NB389_420.out _; (with_reducible repeat (first | refine blk_drewN ?_ _ | refine blk_drew ?_ | refine blk_alloc ?_ _)); refine blk_far ?_ NB389_420.out _; (with_reducible repeat (first | refine blk_drewN ?_ _ | refine blk_drew ?_ | refine blk_alloc ?_ _)); refine blk_far ?_ NB389_420.out _; (with_reducible repeat (first | refine blk_drewN ?_ _ | refine blk_drew ?_ | refine blk_alloc ?_ _)); refine blk_far ?_ NB389_420.out _; (with_reducible repeat (first | refine blk_drewN ?_ _ | refine blk_drew ?_ | refine blk_alloc ?_ _)); refine blk_far ?_ NB389_420.out _; (with_reducible repeat (first | refine blk_drewN ?_ _ | refine blk_drew ?_ | refine blk_alloc ?_ _)); refine blk_far ?_ NB389_420.out _; (with_reducible repeat (first | refine blk_drewN ?_ _ | refine blk_drew ?_ | refine blk_alloc ?_ _)); refine blk_far ?_ NB389_420.out _; (with_reducible repeat (first | refine blk_drewN ?_ _ | refine blk_drew ?_ | refine blk_alloc ?_ _)); refine blk_far ?_ NB389_420.out _; (with_reducible repeat (first | refine blk_drewN ?_ _ | refine blk_drew ?_ | refine blk_alloc ?_ _)); refine blk_far ?_ NB389_420.out _; (with_reducible repeat (first | refine blk_drewN ?_ _ | refine blk_drew ?_ | refine blk_alloc ?_ _)); exact BK389.out⟩
            have n1_ : Aside0 ((((((((((((w26.setCell ⟨gb420, 0, none⟩ (.int .i64 t408)).setCell ⟨gb420, 1, none⟩ (.int .i64 t409)).setCell ⟨gb420, 2, none⟩ (.int .i64 t410)).setCell ⟨gb420, 3, none⟩ (.int .i64 t411)).setCell ⟨gb420, 4, none⟩ (.string t412)).setCell ⟨gb420, 5, none⟩ (.int .i64 t413)).setCell ⟨gb420, 6, none⟩ (.string t414)).setCell ⟨gb420, 7, none⟩ (.string t415)).setCell ⟨gb420, 8, none⟩ (.string t416)).setCell ⟨gb420, 9, none⟩ (.string t417)).setCell ⟨gb420, 10, none⟩ (.int .i64 t418)).heap[gb407]? = some (.cells #[.int .i64 t395, .int .i64 t396, .int .i64 t397, .int .i64 t398, .string t399, .int .i64 t400, .string t401, .string t402, .string t403, .string t404, .int .i64 t405] 25 (0, 0))) := ⟨by (with_reducible repeat (first | refine blk_drewN ?_ _ | refine blk_drew ?_ | refine blk_alloc ?_ _)); refine blk_far ?_ NB407_420.out _; (with_reducible repeat (first | refine blk_drewN ?_ _ | refine blk_drew ?_ | refine blk_alloc ?_ _)); refine blk_far ?_ NB407_420.out _; (with_reducible repeat (first | refine blk_drewN ?_ _ | refine blk_drew ?_ | refine blk_alloc ?_ _)); refine blk_far ?_ NB407_420.out _; (with_reducible repeat (first | refine blk_drewN ?_ _ | refine blk_drew ?_ | refine blk_alloc ?_ _)); refine blk_far ?_ NB407_420.out _; (with_reducible repeat (first | refine blk_drewN ?_ _ | refine blk_drew ?_ | refine blk_alloc ?_ _)); refine blk_far ?_ NB407_420.out _; (with_reducible repeat (first | refine blk_drewN ?_ _ | refine blk_drew ?_ | refine blk_alloc ?_ _)); refine blk_far ?_ NB407_420.out _; (with_reducible repeat (first | refine blk_drewN ?_ _ | refine blk_drew ?_ | refine blk_alloc ?_ _)); refine blk_far ?_ NB407_420.out _; (with_reducible repeat (first | refine blk_drewN ?_ _ | refine blk_drew ?_ | refine blk_alloc ?_ _)); refine blk_far ?_ NB407_420.out _; (with_reducible repeat (first | refine blk_drewN ?_ _ | refine blk_drew ?_ | refine blk_alloc ?_ _)); refine blk_far ?_ NB407_420.out _; (with_reducible repeat (first | refine blk_drewN ?_ _ | refine blk_drew ?_ | refine blk_alloc ?_ _)); refine blk_far ?_ NB407_420.out _; (with_reducible repeat (first | refine blk_drewN ?_ _ | refine blk_drew ?_ | refine blk_alloc ?_ _)); refine blk_far ?_ NB407_420.out _; (with_reducible repeat (first | refine blk_drewN ?_ _ | refine blk_drew ?_ | refine blk_alloc ?_ _)); exact BK407.out⟩
            have n2_ : Aside0 ((((((((((((w26.setCell ⟨gb420, 0, none⟩ (.int .i64 t408)).setCell ⟨gb420, 1, none⟩ (.int .i64 t409)).setCell ⟨gb420, 2, none⟩ (.int .i64 t410)).setCell ⟨gb420, 3, none⟩ (.int .i64 t411)).setCell ⟨gb420, 4, none⟩ (.string t412)).setCell ⟨gb420, 5, none⟩ (.int .i64 t413)).setCell ⟨gb420, 6, none⟩ (.string t414)).setCell ⟨gb420, 7, none⟩ (.string t415)).setCell ⟨gb420, 8, none⟩ (.string t416)).setCell ⟨gb420, 9, none⟩ (.string t417)).setCell ⟨gb420, 10, none⟩ (.int .i64 t418)).heap[gb420]? = some (.cells #[.int .i64 t408, .int .i64 t409, .int .i64 t410, .int .i64 t411, .string t412, .int .i64 t413, .string t414, .string t415, .string t416, .string t417, .int .i64 t418] 25 (0, 0))) := ⟨by (with_reducible repeat (first | refine blk_drewN ?_ _ | refine blk_drew ?_ | refine blk_alloc ?_ _)); refine blk_put (cs := #[.int .i64 t408, .int .i64 t409, .int .i64 t410, .int .i64 t411, .string t412, .int .i64 t413, .string t414, .string t415, .string t416, .string t417, .int .i64 0]) ?_ 10 _ rfl; (with_reducible repeat (first | refine blk_drewN ?_ _ | refine blk_drew ?_ | refine blk_alloc ?_ _)); refine blk_put (cs := #[.int .i64 t408, .int .i64 t409, .int .i64 t410, .int .i64 t411, .string t412, .int .i64 t413, .string t414, .string t415, .string t416, .string (⟨#[]⟩ : ByteArray), .int .i64 0]) ?_ 9 _ rfl; (with_reducible repeat (first | refine blk_drewN ?_ _ | refine blk_drew ?_ | refine blk_alloc ?_ _)); refine blk_put (cs := #[.int .i64 t408, .int .i64 t409, .int .i64 t410, .int .i64 t411, .string t412, .int .i64 t413, .string t414, .string t415, .string (⟨#[]⟩ : ByteArray), .string (⟨#[]⟩ : ByteArray), .int .i64 0]) ?_ 8 _ rfl; (with_reducible repeat (first | refine blk_drewN ?_ _ | refine blk_drew ?_ | refine blk_alloc ?_ _)); refine blk_put (cs := #[.int .i64 t408, .int .i64 t409, .int .i64 t410, .int .i64 t411, .string t412, .int .i64 t413, .string t414, .string (⟨#[]⟩ : ByteArray), .string (⟨#[]⟩ : ByteArray), .string (⟨#[]⟩ : ByteArray), .int .i64 0]) ?_ 7 _ rfl; (with_reducible repeat (first | refine blk_drewN ?_ _ | refine blk_drew ?_ | refine blk_alloc ?_ _)); refine blk_put (cs := #[.int .i64 t408, .int .i64 t409, .int .i64 t410, .int .i64 t411, .string t412, .int .i64 t413, .string (⟨#[]⟩ : ByteArray), .string (⟨#[]⟩ : ByteArray), .string (⟨#[]⟩ : ByteArray), .string (⟨#[]⟩ : ByteArray), .int .i64 0]) ?_ 6 _ rfl; (with_reducible repeat (first | refine blk_drewN ?_ _ | refine blk_drew ?_ | refine blk_alloc ?_ _)); refine blk_put (cs := #[.int .i64 t408, .int .i64 t409, .int .i64 t410, .int .i64 t411, .string t412, .int .i64 0, .string (⟨#[]⟩ : ByteArray), .string (⟨#[]⟩ : ByteArray), .string (⟨#[]⟩ : ByteArray), .string (⟨#[]⟩ : ByteArray), .int .i64 0]) ?_ 5 _ rfl; (with_reducible repeat (first | refine blk_drewN ?_ _ | refine blk_drew ?_ | refine blk_alloc ?_ _)); refine blk_put (cs := #[.int .i64 t408, .int .i64 t409, .int .i64 t410, .int .i64 t411, .string (⟨#[]⟩ : ByteArray), .int .i64 0, .string (⟨#[]⟩ : ByteArray), .string (⟨#[]⟩ : ByteArray), .string (⟨#[]⟩ : ByteArray), .string (⟨#[]⟩ : ByteArray), .int .i64 0]) ?_ 4 _ rfl; (with_reducible repeat (first | refine blk_drewN ?_ _ | refine blk_drew ?_ | refine blk_alloc ?_ _)); refine blk_put (cs := #[.int .i64 t408, .int .i64 t409, .int .i64 t410, .int .i64 0, .string (⟨#[]⟩ : ByteArray), .int .i64 0, .string (⟨#[]⟩ : ByteArray), .string (⟨#[]⟩ : ByteArray), .string (⟨#[]⟩ : ByteArray), .string (⟨#[]⟩ : ByteArray), .int .i64 0]) ?_ 3 _ rfl; (with_reducible repeat (first | refine blk_drewN ?_ _ | refine blk_drew ?_ | refine blk_alloc ?_ _)); refine blk_put (cs := #[.int .i64 t408, .int .i64 t409, .int .i64 0, .int .i64 0, .string (⟨#[]⟩ : ByteArray), .int .i64 0, .string (⟨#[]⟩ : ByteArray), .string (⟨#[]⟩ : ByteArray), .string (⟨#[]⟩ : ByteArray), .string (⟨#[]⟩ : ByteArray), .int .i64 0]) ?_ 2 _ rfl; (with_reducible repeat (first | refine blk_drewN ?_ _ | refine blk_drew ?_ | refine blk_alloc ?_ _)); refine blk_put (cs := #[.int .i64 t408, .int .i64 0, .int .i64 0, .int .i64 0, .string (⟨#[]⟩ : ByteArray), .int .i64 0, .string (⟨#[]⟩ : ByteArray), .string (⟨#[]⟩ : ByteArray), .string (⟨#[]⟩ : ByteArray), .string (⟨#[]⟩ : ByteArray), .int .i64 0]) ?_ 1 _ rfl; (with_reducible repeat (first | refine blk_drewN ?_ _ | refine blk_drew ?_ | refine blk_alloc ?_ _)); refine blk_put (cs := #[.int .i64 0, .int .i64 0, .int .i64 0, .int .i64 0, .string (⟨#[]⟩ : ByteArray), .int .i64 0, .string (⟨#[]⟩ : ByteArray), .string (⟨#[]⟩ : ByteArray), .string (⟨#[]⟩ : ByteArray), .string (⟨#[]⟩ : ByteArray), .int .i64 0]) ?_ 0 _ rfl; (with_reducible repeat (first | refine blk_drewN ?_ _ | refine blk_drew ?_ | refine blk_alloc ?_ _)); exact BK420.out⟩
            have n3_ : Aside0 (Below w.heap.size w (((((((((((w26.setCell ⟨gb420, 0, none⟩ (.int .i64 t408)).setCell ⟨gb420, 1, none⟩ (.int .i64 t409)).setCell ⟨gb420, 2, none⟩ (.int .i64 t410)).setCell ⟨gb420, 3, none⟩ (.int .i64 t411)).setCell ⟨gb420, 4, none⟩ (.string t412)).setCell ⟨gb420, 5, none⟩ (.int .i64 t413)).setCell ⟨gb420, 6, none⟩ (.string t414)).setCell ⟨gb420, 7, none⟩ (.string t415)).setCell ⟨gb420, 8, none⟩ (.string t416)).setCell ⟨gb420, 9, none⟩ (.string t417)).setCell ⟨gb420, 10, none⟩ (.int .i64 t418))) := ⟨by repeat (first | (with_reducible first | exact HB.out | apply below_alloc | apply pw_below_drewN | apply below_drew1 | refine below_set ?_ GE389.out | refine below_set ?_ GE407.out | refine below_set ?_ GE420.out) | exact HB.out)⟩
            (try clear BK389)
            (try clear BK407)
            (try clear BK420)
            (try clear HB)
            generalize (((((((((((w26.setCell ⟨gb420, 0, none⟩ (.int .i64 t408)).setCell ⟨gb420, 1, none⟩ (.int .i64 t409)).setCell ⟨gb420, 2, none⟩ (.int .i64 t410)).setCell ⟨gb420, 3, none⟩ (.int .i64 t411)).setCell ⟨gb420, 4, none⟩ (.string t412)).setCell ⟨gb420, 5, none⟩ (.int .i64 t413)).setCell ⟨gb420, 6, none⟩ (.string t414)).setCell ⟨gb420, 7, none⟩ (.string t415)).setCell ⟨gb420, 8, none⟩ (.string t416)).setCell ⟨gb420, 9, none⟩ (.string t417)).setCell ⟨gb420, 10, none⟩ (.int .i64 t418)) = w30 at n0_ n1_ n2_ n3_ ⊢
            have BK389 := n0_
            have BK407 := n1_
            have BK420 := n2_
            have HB := n3_
            clear n0_ n1_ n2_ n3_
            have n0_ := Aside0.mk (blk_drew BK389.out)
            have n1_ := Aside0.mk (blk_drew BK407.out)
            have n2_ := Aside0.mk (blk_drew BK420.out)
            have n3_ := Aside0.mk (below_drew1 HB.out)
            clear BK389
            clear BK407
            clear BK420
            clear HB
            have BK389 := n0_
            have BK407 := n1_
            have BK420 := n2_
            have HB := n3_
            clear n0_ n1_ n2_ n3_
            refine start_ (n := 29) (S := fun w' => w'.cell? ⟨gb407, 0, none⟩ = some (.int .i64 t395) ∧ w'.cell? ⟨gb407, 1, none⟩ = some (.int .i64 t396) ∧ w'.cell? ⟨gb407, 2, none⟩ = some (.int .i64 t397) ∧ w'.cell? ⟨gb407, 3, none⟩ = some (.int .i64 t398) ∧ w'.cell? ⟨gb407, 4, none⟩ = some (.string t399) ∧ w'.cell? ⟨gb407, 5, none⟩ = some (.int .i64 t400) ∧ w'.cell? ⟨gb407, 6, none⟩ = some (.string t401) ∧ w'.cell? ⟨gb407, 7, none⟩ = some (.string t402) ∧ w'.cell? ⟨gb407, 8, none⟩ = some (.string t403) ∧ w'.cell? ⟨gb407, 9, none⟩ = some (.string t404) ∧ w'.cell? ⟨gb407, 10, none⟩ = some (.int .i64 t405) ∧ w'.cell? ⟨gb420, 0, none⟩ = some (.int .i64 t408) ∧ w'.cell? ⟨gb420, 1, none⟩ = some (.int .i64 t409) ∧ w'.cell? ⟨gb420, 2, none⟩ = some (.int .i64 t410) ∧ w'.cell? ⟨gb420, 3, none⟩ = some (.int .i64 t411) ∧ w'.cell? ⟨gb420, 4, none⟩ = some (.string t412) ∧ w'.cell? ⟨gb420, 5, none⟩ = some (.int .i64 t413) ∧ w'.cell? ⟨gb420, 6, none⟩ = some (.string t414) ∧ w'.cell? ⟨gb420, 7, none⟩ = some (.string t415) ∧ w'.cell? ⟨gb420, 8, none⟩ = some (.string t416) ∧ w'.cell? ⟨gb420, 9, none⟩ = some (.string t417) ∧ w'.cell? ⟨gb420, 10, none⟩ = some (.int .i64 t418) ∧ w'.cell? ⟨gb389, 0, none⟩ = some (.int .i64 a0_0) ∧ w'.cell? ⟨gb389, 1, none⟩ = some (.int .i64 a0_1) ∧ w'.cell? ⟨gb389, 2, none⟩ = some (.int .i64 a0_2) ∧ w'.cell? ⟨gb389, 3, none⟩ = some (.int .i64 a0_3) ∧ w'.cell? ⟨gb389, 4, none⟩ = some (.string a0_4) ∧ w'.cell? ⟨gb389, 5, none⟩ = some (.int .i64 a0_5) ∧ w'.cell? ⟨gb389, 6, none⟩ = some (.string a0_6) ∧ w'.cell? ⟨gb389, 7, none⟩ = some (.string a0_7) ∧ w'.cell? ⟨gb389, 8, none⟩ = some (.string a0_8) ∧ w'.cell? ⟨gb389, 9, none⟩ = some (.string a0_9) ∧ w'.cell? ⟨gb389, 10, none⟩ = some (.int .i64 a0_10)) (ds := []) #[false, false, false, false, false, false, false, false, false, false, false, false, false, false, false, false, false, false, false, false, false, false, false, false, false, false, false, false, false] (by kernel_rfl) rfl rfl ⟨(blk_cell BK407.out 0).trans rfl, (blk_cell BK407.out 1).trans rfl, (blk_cell BK407.out 2).trans rfl, (blk_cell BK407.out 3).trans rfl, (blk_cell BK407.out 4).trans rfl, (blk_cell BK407.out 5).trans rfl, (blk_cell BK407.out 6).trans rfl, (blk_cell BK407.out 7).trans rfl, (blk_cell BK407.out 8).trans rfl, (blk_cell BK407.out 9).trans rfl, (blk_cell BK407.out 10).trans rfl, (blk_cell BK420.out 0).trans rfl, (blk_cell BK420.out 1).trans rfl, (blk_cell BK420.out 2).trans rfl, (blk_cell BK420.out 3).trans rfl, (blk_cell BK420.out 4).trans rfl, (blk_cell BK420.out 5).trans rfl, (blk_cell BK420.out 6).trans rfl, (blk_cell BK420.out 7).trans rfl, (blk_cell BK420.out 8).trans rfl, (blk_cell BK420.out 9).trans rfl, (blk_cell BK420.out 10).trans rfl, (blk_cell BK389.out 0).trans rfl, (blk_cell BK389.out 1).trans rfl, (blk_cell BK389.out 2).trans rfl, (blk_cell BK389.out 3).trans rfl, (blk_cell BK389.out 4).trans rfl, (blk_cell BK389.out 5).trans rfl, (blk_cell BK389.out 6).trans rfl, (blk_cell BK389.out 7).trans rfl, (blk_cell BK389.out 8).trans rfl, (blk_cell BK389.out 9).trans rfl, (blk_cell BK389.out 10).trans rfl⟩ (fun hHeld => ?_); refine with_tabW stanchionlaw16_WireReqs.tab6 stanchionlaw16_WireReqs.bits6 (fun HT_ HW_ => ?_)
            generalize w30.drew = w31 at BK389 BK407 BK420 HB hHeld ⊢
            refine pure_ (i := 0) (N := some 35) (v := ?_) (a' := ?_) #[true, false, false, false, false, false, false, false, false, false, false, false, false, false, false, false, false, false, false, false, false, false, false, false, false, false, false, false, false] rfl rfl (any_of HT_.out (by kernel_rfl)) (fun _ _ _ h => h) (Or.inl ⟨by rfl, ?_⟩) ?_ ?_
            rotate_left
            · intro w'
              go_simp
              with_reducible rfl
            rotate_left
            · simp only [Act.put, List.setIfInBounds_toArray, List.set_cons_zero, List.set_cons_succ, i64_w, i32_w]
              rfl
            refine pure_ (i := 1) (N := some 36) (v := ?_) (a' := ?_) #[true, true, false, false, false, false, false, false, false, false, false, false, false, false, false, false, false, false, false, false, false, false, false, false, false, false, false, false, false] rfl rfl (any_of HT_.out (by kernel_rfl)) (fun _ _ _ h => h) (Or.inl ⟨by rfl, ?_⟩) ?_ ?_
            rotate_left
            · intro w'
              go_simp
              with_reducible rfl
            rotate_left
            · simp only [Act.put, List.setIfInBounds_toArray, List.set_cons_zero, List.set_cons_succ, i64_w, i32_w]
              rfl
            refine pure_ (i := 2) (N := some 37) (v := ?_) (a' := ?_) #[true, true, true, false, false, false, false, false, false, false, false, false, false, false, false, false, false, false, false, false, false, false, false, false, false, false, false, false, false] rfl rfl (any_of HT_.out (by kernel_rfl)) (fun _ _ _ h => h) (Or.inl ⟨by rfl, ?_⟩) ?_ ?_
            rotate_left
            · intro w'
              go_simp
              with_reducible rfl
            rotate_left
            · simp only [Act.put, List.setIfInBounds_toArray, List.set_cons_zero, List.set_cons_succ, i64_w, i32_w]
              rfl
            refine pure_ (i := 3) (N := some 38) (v := ?_) (a' := ?_) #[true, true, true, true, false, false, false, false, false, false, false, false, false, false, false, false, false, false, false, false, false, false, false, false, false, false, false, false, false] rfl rfl (any_of HT_.out (by kernel_rfl)) (fun _ _ _ h => h) (Or.inl ⟨by rfl, ?_⟩) ?_ ?_
            rotate_left
            · intro w'
              go_simp
              with_reducible rfl
            rotate_left
            · simp only [Act.put, List.setIfInBounds_toArray, List.set_cons_zero, List.set_cons_succ, i64_w, i32_w]
              rfl
            refine pure_ (i := 4) (N := some 39) (v := ?_) (a' := ?_) #[true, true, true, true, true, false, false, false, false, false, false, false, false, false, false, false, false, false, false, false, false, false, false, false, false, false, false, false, false] rfl rfl (any_of HT_.out (by kernel_rfl)) (fun _ _ _ h => h) (Or.inl ⟨by rfl, ?_⟩) ?_ ?_
            rotate_left
            · intro w'
              go_simp
              with_reducible rfl
            rotate_left
            · simp only [Act.put, List.setIfInBounds_toArray, List.set_cons_zero, List.set_cons_succ, i64_w, i32_w]
              rfl
            refine pure_ (i := 5) (N := some 40) (v := ?_) (a' := ?_) #[true, true, true, true, true, true, false, false, false, false, false, false, false, false, false, false, false, false, false, false, false, false, false, false, false, false, false, false, false] rfl rfl (any_of HT_.out (by kernel_rfl)) (fun _ _ _ h => h) (Or.inl ⟨by rfl, ?_⟩) ?_ ?_
            rotate_left
            · intro w'
              go_simp
              with_reducible rfl
            rotate_left
            · simp only [Act.put, List.setIfInBounds_toArray, List.set_cons_zero, List.set_cons_succ, i64_w, i32_w]
              rfl
            refine pure_ (i := 6) (N := some 41) (v := ?_) (a' := ?_) #[true, true, true, true, true, true, true, false, false, false, false, false, false, false, false, false, false, false, false, false, false, false, false, false, false, false, false, false, false] rfl rfl (any_of HT_.out (by kernel_rfl)) (fun _ _ _ h => h) (Or.inl ⟨by rfl, ?_⟩) ?_ ?_
            rotate_left
            · intro w'
              go_simp
              with_reducible rfl
            rotate_left
            · simp only [Act.put, List.setIfInBounds_toArray, List.set_cons_zero, List.set_cons_succ, i64_w, i32_w]
              rfl
            refine pure_ (i := 7) (N := some 42) (v := ?_) (a' := ?_) #[true, true, true, true, true, true, true, true, false, false, false, false, false, false, false, false, false, false, false, false, false, false, false, false, false, false, false, false, false] rfl rfl (any_of HT_.out (by kernel_rfl)) (fun _ _ _ h => h) (Or.inl ⟨by rfl, ?_⟩) ?_ ?_
            rotate_left
            · intro w'
              go_simp
              with_reducible rfl
            rotate_left
            · simp only [Act.put, List.setIfInBounds_toArray, List.set_cons_zero, List.set_cons_succ, i64_w, i32_w]
              rfl
            refine pure_ (i := 8) (N := some 43) (v := ?_) (a' := ?_) #[true, true, true, true, true, true, true, true, true, false, false, false, false, false, false, false, false, false, false, false, false, false, false, false, false, false, false, false, false] rfl rfl (any_of HT_.out (by kernel_rfl)) (fun _ _ _ h => h) (Or.inl ⟨by rfl, ?_⟩) ?_ ?_
            rotate_left
            · intro w'
              go_simp
              with_reducible rfl
            rotate_left
            · simp only [Act.put, List.setIfInBounds_toArray, List.set_cons_zero, List.set_cons_succ, i64_w, i32_w]
              rfl
            refine pure_ (i := 9) (N := some 44) (v := ?_) (a' := ?_) #[true, true, true, true, true, true, true, true, true, true, false, false, false, false, false, false, false, false, false, false, false, false, false, false, false, false, false, false, false] rfl rfl (any_of HT_.out (by kernel_rfl)) (fun _ _ _ h => h) (Or.inl ⟨by rfl, ?_⟩) ?_ ?_
            rotate_left
            · intro w'
              go_simp
              with_reducible rfl
            rotate_left
            · simp only [Act.put, List.setIfInBounds_toArray, List.set_cons_zero, List.set_cons_succ, i64_w, i32_w]
              rfl
            refine pure_ (i := 10) (N := some 45) (v := ?_) (a' := ?_) #[true, true, true, true, true, true, true, true, true, true, true, false, false, false, false, false, false, false, false, false, false, false, false, false, false, false, false, false, false] rfl rfl (any_of HT_.out (by kernel_rfl)) (fun _ _ _ h => h) (Or.inl ⟨by rfl, ?_⟩) ?_ ?_
            rotate_left
            · intro w'
              go_simp
              with_reducible rfl
            rotate_left
            · simp only [Act.put, List.setIfInBounds_toArray, List.set_cons_zero, List.set_cons_succ, i64_w, i32_w]
              rfl
            refine pure_ (i := 11) (N := some 46) (v := ?_) (a' := ?_) #[true, true, true, true, true, true, true, true, true, true, true, true, false, false, false, false, false, false, false, false, false, false, false, false, false, false, false, false, false] rfl rfl (any_of HT_.out (by kernel_rfl)) (fun _ _ _ h => h) (Or.inl ⟨by rfl, ?_⟩) ?_ ?_
            rotate_left
            · intro w'
              go_simp
              with_reducible rfl
            rotate_left
            · simp only [Act.put, List.setIfInBounds_toArray, List.set_cons_zero, List.set_cons_succ, i64_w, i32_w]
              rfl
            refine take_ (i := 12) (N := some 47) (v := ?_) (a' := ?_) #[true, true, true, true, true, true, true, true, true, true, true, true, true, false, false, false, false, false, false, false, false, false, false, false, false, false, false, false, false] rfl rfl (take_ofW HT_.out HW_.out (by kernel_rfl)) (fun _ _ _ h => h) (Or.inl ⟨by rfl, ?_⟩) hHeld ?_ ?_
            rotate_left
            · rintro w' ⟨s0, s1, s2, s3, s4, s5, s6, s7, s8, s9, s10, s11, s12, s13, s14, s15, s16, s17, s18, s19, s20, s21, s22, s23, s24, s25, s26, s27, s28, s29, s30, s31, s32⟩
              go_simp
              with_reducible rfl
            rotate_left
            · simp only [Act.put, List.setIfInBounds_toArray, List.set_cons_zero, List.set_cons_succ, i64_w, i32_w]
              rfl
            refine take_ (i := 13) (N := some 48) (v := ?_) (a' := ?_) #[true, true, true, true, true, true, true, true, true, true, true, true, true, true, false, false, false, false, false, false, false, false, false, false, false, false, false, false, false] rfl rfl (take_ofW HT_.out HW_.out (by kernel_rfl)) (fun _ _ _ h => h) (Or.inl ⟨by rfl, ?_⟩) hHeld ?_ ?_
            rotate_left
            · rintro w' ⟨s0, s1, s2, s3, s4, s5, s6, s7, s8, s9, s10, s11, s12, s13, s14, s15, s16, s17, s18, s19, s20, s21, s22, s23, s24, s25, s26, s27, s28, s29, s30, s31, s32⟩
              go_simp
              with_reducible rfl
            rotate_left
            · simp only [Act.put, List.setIfInBounds_toArray, List.set_cons_zero, List.set_cons_succ, i64_w, i32_w]
              rfl
            refine pure_ (i := 14) (N := some 49) (v := ?_) (a' := ?_) #[true, true, true, true, true, true, true, true, true, true, true, true, true, true, true, false, false, false, false, false, false, false, false, false, false, false, false, false, false] rfl rfl (any_of HT_.out (by kernel_rfl)) (fun _ _ _ h => h) (Or.inl ⟨by rfl, ?_⟩) ?_ ?_
            rotate_left
            · intro w'
              go_simp
              with_reducible rfl
            rotate_left
            · simp only [Act.put, List.setIfInBounds_toArray, List.set_cons_zero, List.set_cons_succ, i64_w, i32_w]
              rfl
            refine pure_ (i := 15) (N := some 50) (v := ?_) (a' := ?_) #[true, true, true, true, true, true, true, true, true, true, true, true, true, true, true, true, false, false, false, false, false, false, false, false, false, false, false, false, false] rfl rfl (any_of HT_.out (by kernel_rfl)) (fun _ _ _ h => h) (Or.inl ⟨by rfl, ?_⟩) ?_ ?_
            rotate_left
            · intro w'
              go_simp
              with_reducible rfl
            rotate_left
            · simp only [Act.put, List.setIfInBounds_toArray, List.set_cons_zero, List.set_cons_succ, i64_w, i32_w]
              rfl
            refine pure_ (i := 16) (N := some 51) (v := ?_) (a' := ?_) #[true, true, true, true, true, true, true, true, true, true, true, true, true, true, true, true, true, false, false, false, false, false, false, false, false, false, false, false, false] rfl rfl (any_of HT_.out (by kernel_rfl)) (fun _ _ _ h => h) (Or.inl ⟨by rfl, ?_⟩) ?_ ?_
            rotate_left
            · intro w'
              go_simp
              with_reducible rfl
            rotate_left
            · simp only [Act.put, List.setIfInBounds_toArray, List.set_cons_zero, List.set_cons_succ, i64_w, i32_w]
              rfl
            refine pure_ (i := 17) (N := some 52) (v := ?_) (a' := ?_) #[true, true, true, true, true, true, true, true, true, true, true, true, true, true, true, true, true, true, false, false, false, false, false, false, false, false, false, false, false] rfl rfl (any_of HT_.out (by kernel_rfl)) (fun _ _ _ h => h) (Or.inl ⟨by rfl, ?_⟩) ?_ ?_
            rotate_left
            · intro w'
              go_simp
              with_reducible rfl
            rotate_left
            · simp only [Act.put, List.setIfInBounds_toArray, List.set_cons_zero, List.set_cons_succ, i64_w, i32_w]
              rfl
            refine pure_ (i := 18) (N := some 53) (v := ?_) (a' := ?_) #[true, true, true, true, true, true, true, true, true, true, true, true, true, true, true, true, true, true, true, false, false, false, false, false, false, false, false, false, false] rfl rfl (any_of HT_.out (by kernel_rfl)) (fun _ _ _ h => h) (Or.inl ⟨by rfl, ?_⟩) ?_ ?_
            rotate_left
            · intro w'
              go_simp
              with_reducible rfl
            rotate_left
            · simp only [Act.put, List.setIfInBounds_toArray, List.set_cons_zero, List.set_cons_succ, i64_w, i32_w]
              rfl
            refine pure_ (i := 19) (N := some 54) (v := ?_) (a' := ?_) #[true, true, true, true, true, true, true, true, true, true, true, true, true, true, true, true, true, true, true, true, false, false, false, false, false, false, false, false, false] rfl rfl (any_of HT_.out (by kernel_rfl)) (fun _ _ _ h => h) (Or.inl ⟨by rfl, ?_⟩) ?_ ?_
            rotate_left
            · intro w'
              go_simp
              with_reducible rfl
            rotate_left
            · simp only [Act.put, List.setIfInBounds_toArray, List.set_cons_zero, List.set_cons_succ, i64_w, i32_w]
              rfl
            refine pure_ (i := 20) (N := some 55) (v := ?_) (a' := ?_) #[true, true, true, true, true, true, true, true, true, true, true, true, true, true, true, true, true, true, true, true, true, false, false, false, false, false, false, false, false] rfl rfl (any_of HT_.out (by kernel_rfl)) (fun _ _ _ h => h) (Or.inl ⟨by rfl, ?_⟩) ?_ ?_
            rotate_left
            · intro w'
              go_simp
              with_reducible rfl
            rotate_left
            · simp only [Act.put, List.setIfInBounds_toArray, List.set_cons_zero, List.set_cons_succ, i64_w, i32_w]
              rfl
            refine pure_ (i := 21) (N := some 56) (v := ?_) (a' := ?_) #[true, true, true, true, true, true, true, true, true, true, true, true, true, true, true, true, true, true, true, true, true, true, false, false, false, false, false, false, false] rfl rfl (any_of HT_.out (by kernel_rfl)) (fun _ _ _ h => h) (Or.inl ⟨by rfl, ?_⟩) ?_ ?_
            rotate_left
            · intro w'
              go_simp
              with_reducible rfl
            rotate_left
            · simp only [Act.put, List.setIfInBounds_toArray, List.set_cons_zero, List.set_cons_succ, i64_w, i32_w]
              rfl
            refine take_ (i := 22) (N := some 57) (v := ?_) (a' := ?_) #[true, true, true, true, true, true, true, true, true, true, true, true, true, true, true, true, true, true, true, true, true, true, true, false, false, false, false, false, false] rfl rfl (take_ofW HT_.out HW_.out (by kernel_rfl)) (fun _ _ _ h => h) (Or.inl ⟨by rfl, ?_⟩) hHeld ?_ ?_
            rotate_left
            · rintro w' ⟨s0, s1, s2, s3, s4, s5, s6, s7, s8, s9, s10, s11, s12, s13, s14, s15, s16, s17, s18, s19, s20, s21, s22, s23, s24, s25, s26, s27, s28, s29, s30, s31, s32⟩
              go_simp
              with_reducible rfl
            rotate_left
            · simp only [Act.put, List.setIfInBounds_toArray, List.set_cons_zero, List.set_cons_succ, i64_w, i32_w]
              rfl
            refine take_ (i := 24) (N := some 59) (v := ?_) (a' := ?_) #[true, true, true, true, true, true, true, true, true, true, true, true, true, true, true, true, true, true, true, true, true, true, true, false, true, false, false, false, false] rfl rfl (take_ofW HT_.out HW_.out (by kernel_rfl)) (fun _ _ _ h => h) (Or.inl ⟨by rfl, ?_⟩) hHeld ?_ ?_
            rotate_left
            · rintro w' ⟨s0, s1, s2, s3, s4, s5, s6, s7, s8, s9, s10, s11, s12, s13, s14, s15, s16, s17, s18, s19, s20, s21, s22, s23, s24, s25, s26, s27, s28, s29, s30, s31, s32⟩
              go_simp
              with_reducible rfl
            rotate_left
            · simp only [Act.put, List.setIfInBounds_toArray, List.set_cons_zero, List.set_cons_succ, i64_w, i32_w]
              rfl
            refine one_ (i := 23) (N := some 58) #[true, true, true, true, true, true, true, true, true, true, true, true, true, true, true, true, true, true, true, true, true, true, true, true, true, false, false, false, false] rfl rfl (one_of HT_.out (by kernel_rfl)) (by decide) (fun K hK => ?_)
            refine goes_ Tryd.func13 (by kernel_rfl) rfl #[.agg #[.int .i64 a0_0, .int .i64 a0_1, .int .i64 a0_2, .int .i64 a0_3, .string a0_4, .int .i64 a0_5, .string a0_6, .string a0_7, .string a0_8, .string a0_9, .int .i64 a0_10]] (by rfl) rfl rfl (by (try simp only [List.map_toArray, List.map_cons, List.map_nil]); first | done | rfl | (simp only [List.length_drop, List.length_take]; rfl)) ?_
            with_reducible refine (wire_MayReq.calls k a0_0 a0_1 a0_2 a0_3 a0_4 a0_5 a0_6 a0_7 a0_8 a0_9 a0_10 t421 _ A13.out).mono ?_
            rintro e w32 ⟨rfl, hb⟩
            refine ⟨_, rfl, ?_⟩
            have n0_ := Aside0.mk (blk_below (g := gb389) (o := .cells #[.int .i64 a0_0, .int .i64 a0_1, .int .i64 a0_2, .int .i64 a0_3, .string a0_4, .int .i64 a0_5, .string a0_6, .string a0_7, .string a0_8, .string a0_9, .int .i64 a0_10] 25 (0, 0)) (by (with_reducible repeat (first | refine blk_drewN ?_ _ | refine blk_drew ?_ | refine blk_alloc ?_ _)); exact BK389.out) hb)
            have n1_ := Aside0.mk (blk_below (g := gb407) (o := .cells #[.int .i64 t395, .int .i64 t396, .int .i64 t397, .int .i64 t398, .string t399, .int .i64 t400, .string t401, .string t402, .string t403, .string t404, .int .i64 t405] 25 (0, 0)) (by (with_reducible repeat (first | refine blk_drewN ?_ _ | refine blk_drew ?_ | refine blk_alloc ?_ _)); exact BK407.out) hb)
            have n2_ := Aside0.mk (blk_below (g := gb420) (o := .cells #[.int .i64 t408, .int .i64 t409, .int .i64 t410, .int .i64 t411, .string t412, .int .i64 t413, .string t414, .string t415, .string t416, .string t417, .int .i64 t418] 25 (0, 0)) (by (with_reducible repeat (first | refine blk_drewN ?_ _ | refine blk_drew ?_ | refine blk_alloc ?_ _)); exact BK420.out) hb)
            have n3_ := Aside0.mk (below_step (by repeat (first | (with_reducible first | exact HB.out | apply below_alloc | apply pw_below_drewN | apply below_drew1 | refine below_set ?_ GE389.out | refine below_set ?_ GE407.out | refine below_set ?_ GE420.out) | exact HB.out)) hb)
            clear BK389
            clear BK407
            clear BK420
            clear HB
            have BK389 := n0_
            have BK407 := n1_
            have BK420 := n2_
            have HB := n3_
            clear n0_ n1_ n2_ n3_
            (try clear hb)
            (try clear hb2)
            (try clear hk)
            (try clear hi)
            refine hK.out _ _ ⟨(blk_cell BK407.out 0).trans rfl, (blk_cell BK407.out 1).trans rfl, (blk_cell BK407.out 2).trans rfl, (blk_cell BK407.out 3).trans rfl, (blk_cell BK407.out 4).trans rfl, (blk_cell BK407.out 5).trans rfl, (blk_cell BK407.out 6).trans rfl, (blk_cell BK407.out 7).trans rfl, (blk_cell BK407.out 8).trans rfl, (blk_cell BK407.out 9).trans rfl, (blk_cell BK407.out 10).trans rfl, (blk_cell BK420.out 0).trans rfl, (blk_cell BK420.out 1).trans rfl, (blk_cell BK420.out 2).trans rfl, (blk_cell BK420.out 3).trans rfl, (blk_cell BK420.out 4).trans rfl, (blk_cell BK420.out 5).trans rfl, (blk_cell BK420.out 6).trans rfl, (blk_cell BK420.out 7).trans rfl, (blk_cell BK420.out 8).trans rfl, (blk_cell BK420.out 9).trans rfl, (blk_cell BK420.out 10).trans rfl, (blk_cell BK389.out 0).trans rfl, (blk_cell BK389.out 1).trans rfl, (blk_cell BK389.out 2).trans rfl, (blk_cell BK389.out 3).trans rfl, (blk_cell BK389.out 4).trans rfl, (blk_cell BK389.out 5).trans rfl, (blk_cell BK389.out 6).trans rfl, (blk_cell BK389.out 7).trans rfl, (blk_cell BK389.out 8).trans rfl, (blk_cell BK389.out 9).trans rfl, (blk_cell BK389.out 10).trans rfl⟩ (fun hHeld => ?_)
            clear hK K
            refine norm_ (a' := ?_) ?_ ?_
            rotate_left
            · show Act.put _ (some 58) _ = _
              simp only [Act.put, List.setIfInBounds_toArray, List.set_cons_zero, List.set_cons_succ, i64_w, i32_w]
              rfl
            refine one_ (i := 25) (N := some 60) #[true, true, true, true, true, true, true, true, true, true, true, true, true, true, true, true, true, true, true, true, true, true, true, true, true, true, false, false, false] rfl rfl (one_of HT_.out (by kernel_rfl)) (by decide) (fun K hK => ?_)
            refine goes_ Tryd.func14 (by kernel_rfl) rfl #[.agg #[.int .i64 a0_0, .int .i64 a0_1, .int .i64 a0_2, .int .i64 a0_3, .string a0_4, .int .i64 a0_5, .string a0_6, .string a0_7, .string a0_8, .string a0_9, .int .i64 a0_10]] (by rfl) rfl rfl (by (try simp only [List.map_toArray, List.map_cons, List.map_nil]); first | done | rfl | (simp only [List.length_drop, List.length_take]; rfl)) ?_
            with_reducible refine (stanchionref16_MayReq.calls k a0_0 a0_1 a0_2 a0_3 a0_4 a0_5 a0_6 a0_7 a0_8 a0_9 a0_10 t422 _ A14.out).mono ?_
            rintro e w33 ⟨rfl, hb⟩
            refine ⟨_, rfl, ?_⟩
            have n0_ := Aside0.mk (blk_below (g := gb389) (o := .cells #[.int .i64 a0_0, .int .i64 a0_1, .int .i64 a0_2, .int .i64 a0_3, .string a0_4, .int .i64 a0_5, .string a0_6, .string a0_7, .string a0_8, .string a0_9, .int .i64 a0_10] 25 (0, 0)) (by (with_reducible repeat (first | refine blk_drewN ?_ _ | refine blk_drew ?_ | refine blk_alloc ?_ _)); exact BK389.out) hb)
            have n1_ := Aside0.mk (blk_below (g := gb407) (o := .cells #[.int .i64 t395, .int .i64 t396, .int .i64 t397, .int .i64 t398, .string t399, .int .i64 t400, .string t401, .string t402, .string t403, .string t404, .int .i64 t405] 25 (0, 0)) (by (with_reducible repeat (first | refine blk_drewN ?_ _ | refine blk_drew ?_ | refine blk_alloc ?_ _)); exact BK407.out) hb)
            have n2_ := Aside0.mk (blk_below (g := gb420) (o := .cells #[.int .i64 t408, .int .i64 t409, .int .i64 t410, .int .i64 t411, .string t412, .int .i64 t413, .string t414, .string t415, .string t416, .string t417, .int .i64 t418] 25 (0, 0)) (by (with_reducible repeat (first | refine blk_drewN ?_ _ | refine blk_drew ?_ | refine blk_alloc ?_ _)); exact BK420.out) hb)
            have n3_ := Aside0.mk (below_step (by repeat (first | (with_reducible first | exact HB.out | apply below_alloc | apply pw_below_drewN | apply below_drew1 | refine below_set ?_ GE389.out | refine below_set ?_ GE407.out | refine below_set ?_ GE420.out) | exact HB.out)) hb)
            clear BK389
            clear BK407
            clear BK420
            clear HB
            have BK389 := n0_
            have BK407 := n1_
            have BK420 := n2_
            have HB := n3_
            clear n0_ n1_ n2_ n3_
            (try clear hb)
            (try clear hb2)
            (try clear hk)
            (try clear hi)
            refine hK.out _ _ ⟨(blk_cell BK407.out 0).trans rfl, (blk_cell BK407.out 1).trans rfl, (blk_cell BK407.out 2).trans rfl, (blk_cell BK407.out 3).trans rfl, (blk_cell BK407.out 4).trans rfl, (blk_cell BK407.out 5).trans rfl, (blk_cell BK407.out 6).trans rfl, (blk_cell BK407.out 7).trans rfl, (blk_cell BK407.out 8).trans rfl, (blk_cell BK407.out 9).trans rfl, (blk_cell BK407.out 10).trans rfl, (blk_cell BK420.out 0).trans rfl, (blk_cell BK420.out 1).trans rfl, (blk_cell BK420.out 2).trans rfl, (blk_cell BK420.out 3).trans rfl, (blk_cell BK420.out 4).trans rfl, (blk_cell BK420.out 5).trans rfl, (blk_cell BK420.out 6).trans rfl, (blk_cell BK420.out 7).trans rfl, (blk_cell BK420.out 8).trans rfl, (blk_cell BK420.out 9).trans rfl, (blk_cell BK420.out 10).trans rfl, (blk_cell BK389.out 0).trans rfl, (blk_cell BK389.out 1).trans rfl, (blk_cell BK389.out 2).trans rfl, (blk_cell BK389.out 3).trans rfl, (blk_cell BK389.out 4).trans rfl, (blk_cell BK389.out 5).trans rfl, (blk_cell BK389.out 6).trans rfl, (blk_cell BK389.out 7).trans rfl, (blk_cell BK389.out 8).trans rfl, (blk_cell BK389.out 9).trans rfl, (blk_cell BK389.out 10).trans rfl⟩ (fun hHeld => ?_)
            clear hK K
            refine norm_ (a' := ?_) ?_ ?_
            rotate_left
            · show Act.put _ (some 60) _ = _
              simp only [Act.put, List.setIfInBounds_toArray, List.set_cons_zero, List.set_cons_succ, i64_w, i32_w]
              rfl
            refine pure_ (i := 26) (N := some 61) (v := ?_) (a' := ?_) #[true, true, true, true, true, true, true, true, true, true, true, true, true, true, true, true, true, true, true, true, true, true, true, true, true, true, true, false, false] rfl rfl (any_of HT_.out (by kernel_rfl)) (fun _ _ _ h => h) (Or.inl ⟨by rfl, ?_⟩) ?_ ?_
            rotate_left
            · intro w'
              go_simp
              with_reducible rfl
            rotate_left
            · simp only [Act.put, List.setIfInBounds_toArray, List.set_cons_zero, List.set_cons_succ, i64_w, i32_w]
              rfl
            refine pure_ (i := 27) (N := some 62) (v := ?_) (a' := ?_) #[true, true, true, true, true, true, true, true, true, true, true, true, true, true, true, true, true, true, true, true, true, true, true, true, true, true, true, true, false] rfl rfl (any_of HT_.out (by kernel_rfl)) (fun _ _ _ h => h) (Or.inl ⟨by rfl, ?_⟩) ?_ ?_
            rotate_left
            · intro w'
              go_simp
              with_reducible rfl
            rotate_left
            · simp only [Act.put, List.setIfInBounds_toArray, List.set_cons_zero, List.set_cons_succ, i64_w, i32_w]
              rfl
            refine pure_ (i := 28) (N := some 4) (v := ?_) (a' := ?_) #[true, true, true, true, true, true, true, true, true, true, true, true, true, true, true, true, true, true, true, true, true, true, true, true, true, true, true, true, true] rfl rfl (any_of HT_.out (by kernel_rfl)) (fun _ _ _ h => h) (Or.inl ⟨by rfl, ?_⟩) ?_ ?_
            rotate_left
            · intro w'
              go_simp
              with_reducible rfl
            rotate_left
            · simp only [Act.put, List.setIfInBounds_toArray, List.set_cons_zero, List.set_cons_succ, i64_w, i32_w]
              rfl
            refine done_ (done_of HT_.out (by kernel_rfl)) ?_
            try go_wp2
            go_ret
            exact ⟨by first | rfl | (simp [errW_none, errW_some] <;> rfl) | (simp [*, errW_none, errW_some] <;> rfl), by repeat (first | (with_reducible first | exact HB.out | apply below_alloc | apply pw_below_drewN | apply below_drew1 | refine below_set ?_ GE389.out | refine below_set ?_ GE407.out | refine below_set ?_ GE420.out) | exact HB.out)⟩
          · rw [if_neg c12] at H
            have c12b0 : (t406 == t419) = false := beq_eq_false_iff_ne.mpr c12
            have c12b1 : (t406 != t419) = true := bne_iff_ne.mpr c12
            obtain rfl := Option.some.inj H
            cases hr.out
        · rw [if_neg c11] at H
          have c11b0 : (t395 == t408 && (t396 == t409 && (t397 == t410 && (t398 == t411 && (t399.toList == t412.toList && ((t400 == t413 && (t401.toList == t414.toList && (t402.toList == t415.toList && (t403.toList == t416.toList && (t404.toList == t417.toList && (t405 == t418)))))))))))) = false := by simpa using c11
          (try (have c11b1 : decide (t395 = t408 && (t396 == t409 && (t397 == t410 && (t398 == t411 && (t399.toList == t412.toList && ((t400 == t413 && (t401.toList == t414.toList && (t402.toList == t415.toList && (t403.toList == t416.toList && (t404.toList == t417.toList && (t405 == t418)))))))))))) = false := by simpa using c11))
          (try (have c11b2 : (t395 == t408 && (t396 == t409 && (t397 == t410 && (t398 == t411 && (t399.toList == t412.toList && ((t400 == t413 && (t401.toList == t414.toList && (t402.toList == t415.toList && (t403.toList == t416.toList && (t404.toList == t417.toList && (t405 == t418)))))))))))) = false := by simpa using c11))
          (try (have c11b3 : ¬ (t395 = t408 && (t396 == t409 && (t397 == t410 && (t398 == t411 && (t399.toList == t412.toList && ((t400 == t413 && (t401.toList == t414.toList && (t402.toList == t415.toList && (t403.toList == t416.toList && (t404.toList == t417.toList && (t405 == t418)))))))))))) := by simpa using c11))
          clear c11
          obtain rfl := Option.some.inj H
          cases hr.out
      · rw [if_neg c10] at H
        have c10b0 : (t392 == t394) = false := beq_eq_false_iff_ne.mpr c10
        have c10b1 : (t392 != t394) = true := bne_iff_ne.mpr c10
        obtain rfl := Option.some.inj H
        cases hr.out
    · rw [if_neg c9] at H
      have c9b0 : (t391.toList == t393.toList) = false := beq_eq_false_iff_ne.mpr c9
      have c9b1 : (t391.toList != t393.toList) = true := bne_iff_ne.mpr c9
      obtain rfl := Option.some.inj H
      cases hr.out
  · replace c8 := Bool.eq_false_iff.mpr c8
    subst c8
    have H1 : (some false) = some r := by rw [if_neg (show ¬ (false = true) by decide)] at H; exact H
    clear H
    have H := H1
    clear H1
    obtain rfl := Option.some.inj H
    cases hr.out

end Go.Proofs.YtlpcidjmaeicoaaDoor.QWi

/-! Was -/
/- What is taken was written: a text that begins bytes is told by its own encoding. -/
namespace Go.Proofs.YtlpcidjmaeicoaaDoor.DecPure
open Go Go.Proofs.YtlpcidjmaeicoaaDoor.DecM Go.Proofs.YtlpcidjmaeicoaaDoor.Giv

theorem text_was (s : ByteArray) (most : Int) (h : (takeText s most).2.2 = 0) : s = textS (takeText s most).1 ++ (takeText s most).2.1 ∧ ((takeText s most).1.size : Int) ≤ most ∧ (takeText s most).1.size < two64 := by
  unfold takeText at h ⊢
  by_cases h1 : ¬ (takeNum s).2.2 = 0
  · rw [if_pos h1] at h
    exact absurd h h1
  rw [if_neg h1] at h ⊢
  by_cases h2 : most < 0 ∨ (takeNum s).1 > most
  · rw [if_pos h2] at h
    cases h
  rw [if_neg h2] at h ⊢
  by_cases h3 : (takeNum s).1 > (takeNum s).2.1.size
  · rw [if_pos h3] at h
    cases h
  rw [if_neg h3]
  have h1' : (takeNum s).2.2 = 0 := Decidable.not_not.mp h1
  obtain ⟨n, e1, e2, e⟩ := take_was (s := s) (v := (takeNum s).1) (r := (takeNum s).2.1) (by rw [← h1'])
  clear h h1 h1'
  generalize (takeNum s).2.1 = r at *
  generalize (takeNum s).1 = v at *
  subst e1
  simp only [Int.toNat_natCast]
  have hn : n ≤ r.size := by omega
  have hsz : (r.extract 0 n).size = n := by
    rw [ByteArray.size_extract]
    omega
  refine ⟨?_, by rw [hsz]; omega, by rw [hsz]; exact e2⟩
  rw [e]
  unfold textS
  rw [hsz, ByteArray.append_assoc]
  congr 1
  apply bytes_ext
  rw [data_append, ext_upto, ext_from, List.take_append_drop]
end Go.Proofs.YtlpcidjmaeicoaaDoor.DecPure

/-! Enc -/
/- Numbers and texts written and taken, one behind the other: plain laws. -/
namespace Go.Proofs.YtlpcidjmaeicoaaDoor.Enc
open Go Go.RowKit Go.Proofs.YtlpcidjmaeicoaaDoor.DecM Go.Proofs.YtlpcidjmaeicoaaDoor.Giv Go.Proofs.YtlpcidjmaeicoaaDoor.Wire Go.Proofs.YtlpcidjmaeicoaaDoor.Reader

theorem asc (a b c : ByteArray) : a ++ b ++ c = a ++ (b ++ c) := by
  apply bytes_ext
  simp only [data_append, List.append_assoc]
theorem app_empty (a : ByteArray) : a ++ (⟨#[]⟩ : ByteArray) = a := by
  apply bytes_ext
  simp only [data_append, List.append_nil]
theorem size_nil {s : ByteArray} (h : s.size = 0) : s = (⟨#[]⟩ : ByteArray) := by
  apply bytes_ext
  have := len_size s
  rw [h] at this
  exact List.eq_nil_of_length_eq_zero this
/-! ### a number, a text -/
theorem nx_bad {α : Type} (s : ByteArray) (m : Int) (f : Int → ByteArray × Bool → α) : nx (s, true) m f = f 0 (s, true) :=
  nx_of (x := (s, true)) (v := (0, s, true)) f (if_pos (.inl rfl))
theorem tx_bad {α : Type} (s : ByteArray) (m : Int) (f : ByteArray → ByteArray × Bool → α) : tx (s, true) m f = f ByteArray.empty (s, true) :=
  tx_of (x := (s, true)) (v := (ByteArray.empty, s, true)) f (if_pos (.inl rfl))
theorem nx_back {α : Type} (n : Int) (r : ByteArray) (m : Int) (f : Int → ByteArray × Bool → α) (hn : 0 ≤ n ∧ n ≤ m) (hm : m ≤ 1073741824) : nx (numS n.toNat ++ r, false) m f = f n (r, false) := by
  have e := take_back n.toNat (by unfold two64; omega) r
  have en : ((n.toNat : Nat) : Int) = n := by omega
  rw [en] at e
  refine nx_of f (?_ : _ = (n, r, false))
  show numR (numS n.toNat ++ r) false m = _
  unfold numR
  rw [e]
  exact if_neg (by simp; omega)
theorem tx_back {α : Type} (t r : ByteArray) (m : Int) (f : ByteArray → ByteArray × Bool → α) (ht : (t.size : Int) ≤ m) (hm : m ≤ 1073741824) : tx (textS t ++ r, false) m f = f t (r, false) := by
  have e := DecPure.text_back t r m (by omega)
  rw [if_neg (by omega)] at e
  refine tx_of f (?_ : _ = (t, r, false))
  show textR (textS t ++ r) false m = _
  unfold textR
  rw [e]
  exact if_neg (by simp)
/-- What holds of a number's end: of the one that failed, and of what was written. -/
theorem nx_rule {s : ByteArray} {m : Int} {f : Int → ByteArray × Bool → Prop} (h0 : f 0 (s, true)) (h1 : ∀ (n : Int) (r : ByteArray), 0 ≤ n ∧ n ≤ m → s = numS n.toNat ++ r → f n (r, false)) : nx (s, false) m f := by
  by_cases hc : false = true ∨ ¬ (takeNum s).2.2 = 0 ∨ (takeNum s).1 > m
  · rw [nx_of f (show numR s false m = (0, s, true) from if_pos hc)]
    exact h0
  · rw [nx_of f (show numR s false m = ((takeNum s).1, (takeNum s).2.1, false) from if_neg hc)]
    simp only [not_or, Classical.not_not] at hc
    obtain ⟨n, e1, e2, e3⟩ := take_was (s := s) (v := (takeNum s).1) (r := (takeNum s).2.1) (by rw [← hc.2.1])
    refine h1 _ _ ⟨by omega, by omega⟩ ?_
    rw [e1, Int.toNat_natCast]
    exact e3
theorem tx_rule {s : ByteArray} {m : Int} {f : ByteArray → ByteArray × Bool → Prop} (h0 : f ByteArray.empty (s, true)) (h1 : ∀ (t r : ByteArray), (t.size : Int) ≤ m → s = textS t ++ r → f t (r, false)) : tx (s, false) m f := by
  by_cases hc : false = true ∨ ¬ (takeText s m).2.2 = 0
  · rw [tx_of f (show textR s false m = (ByteArray.empty, s, true) from if_pos hc)]
    exact h0
  · rw [tx_of f (show textR s false m = ((takeText s m).1, (takeText s m).2.1, false) from if_neg hc)]
    simp only [not_or, Classical.not_not] at hc
    obtain ⟨e1, e2, e3⟩ := DecPure.text_was s m hc.2
    exact h1 _ _ e2 e1
/-! ### what is written -/
theorem nums_one (a : Int) : numsS [a] = numS a.toNat := by
  apply bytes_ext
  simp [numsS, numP, glue]
theorem nums_cons (a b : Int) (l : List Int) : numsS (a :: b :: l) = numS a.toNat ++ numsS (b :: l) := by
  apply bytes_ext
  rw [data_append]
  simp [numsS, numP, glue]
theorem texts_one (t : ByteArray) : textsW [t] = textS t := by
  apply bytes_ext
  simp [textsW, textP, glue, textW, textS]
theorem texts_cons (t u : ByteArray) (l : List ByteArray) : textsW (t :: u :: l) = textS t ++ textsW (u :: l) := by
  apply bytes_ext
  rw [data_append]
  simp [textsW, textP, glue, textW, textS]
theorem numS_le (d n : Nat) (h : n < 10 ^ (d + 1)) : (numS n).size ≤ d + 2 := by
  have h1 := numL_len d n h
  unfold numS
  rw [strOfNums_size, List.length_append]
  simp
  omega
theorem numS_ge (n : Nat) : 1 ≤ (numS n).size := by
  unfold numS
  rw [strOfNums_size, List.length_append]
  simp
theorem num_size (n : Int) (h : 0 ≤ n ∧ n ≤ 1073741824) : (numS n.toNat).size ≤ 11 := numS_le 9 n.toNat (by omega)
theorem text_size (t : ByteArray) (h : t.size ≤ 64) : (textS t).size ≤ 3 + t.size := by
  have := numS_le 1 t.size (by omega)
  unfold textS
  rw [ByteArray.size_append]
  omega
theorem glue_len (l : List ByteArray) (d : Nat) (h : ∀ t ∈ l, t.size ≤ d) : (glue l).length ≤ d * l.length := by
  induction l with
  | nil => exact Nat.zero_le _
  | cons t l ih =>
    have e : glue (t :: l) = t.data.toList ++ glue l := rfl
    have h1 := h t (List.mem_cons_self ..)
    have h2 := ih fun u hu => h u (List.mem_cons_of_mem _ hu)
    rw [e, List.length_append, List.length_cons, len_size, Nat.mul_succ]
    omega
theorem nums_some (l : List Int) (hl : l.length ≤ 16) (h : ∀ x ∈ l, 0 ≤ x ∧ x ≤ 1073741824) : QWi.wire_nums.f l = some (numsS l) := by
  unfold QWi.wire_nums.f
  rw [if_pos ⟨by omega, List.all_eq_true.2 fun x hx => by have := h x hx; simp; omega⟩]
theorem texts_some (l : List ByteArray) (hl : l.length ≤ 16) (h : ∀ t ∈ l, t.size ≤ 64) : QWi.wire_texts.f l = some (textsW l) := by
  unfold QWi.wire_texts.f
  have h1 := glue_len (textP l) 67 (fun t ht => by
    obtain ⟨u, hu, rfl⟩ := List.mem_map.1 ht
    have := h u hu
    have h2 : (textW u).size ≤ 3 + u.size := text_size u this
    omega)
  have h2 : (textP l).length = l.length := List.length_map ..
  rw [h2] at h1
  rw [if_pos ⟨by omega, by omega⟩]
end Go.Proofs.YtlpcidjmaeicoaaDoor.Enc

/-! ReqP -/
/- Requests as bytes: plain laws. -/
namespace Go.Proofs.YtlpcidjmaeicoaaDoor.Enc
open Go Go.RowKit Go.Proofs.YtlpcidjmaeicoaaDoor.DecM Go.Proofs.YtlpcidjmaeicoaaDoor.Giv Go.Proofs.YtlpcidjmaeicoaaDoor.Wire Go.Proofs.YtlpcidjmaeicoaaDoor.Reader Go.Proofs.YtlpcidjmaeicoaaDoor.QWi

/-- A request's bytes. -/
def encQ (a0 a1 a2 a3 : Int) (t : ByteArray) (o : Int) (y v l h : ByteArray) (m : Int) : ByteArray :=
  numS a0.toNat ++ (numS a1.toNat ++ (numS a2.toNat ++ (numS a3.toNat ++ (textS t ++ (if a0 = 5 then numS o.toNat ++ (textS y ++ (textS v ++ (textS l ++ (textS h ++ numS m.toNat)))) else ⟨#[]⟩)))))
theorem encQ_size {a0 a1 a2 a3 : Int} {t : ByteArray} {o : Int} {y v l h : ByteArray} {m : Int} (hm : mayQ a0 a1 a2 a3 t o y v l h m) : 1 ≤ (encQ a0 a1 a2 a3 t o y v l h m).size ∧ (encQ a0 a1 a2 a3 t o y v l h m).size ≤ 2000 := by
  obtain ⟨p0, p1, p2, p3, p4, p5⟩ := hm
  have n0 := num_size a0 (by omega)
  have n1 := num_size a1 p1
  have n2 := num_size a2 p2
  have n3 := num_size a3 p3
  have n4 := text_size t (by omega)
  have n5 := numS_ge a0.toNat
  unfold encQ
  by_cases h5 : a0 = 5
  · rcases p5 with ⟨_, _, q2, q3, q4, q5, q6, q7⟩ | ⟨q0, _⟩
    · have m0 := num_size o (by omega)
      have m1 := num_size m q7
      have m2 := text_size y (by omega)
      have m3 := text_size v (by omega)
      have m4 := text_size l (by omega)
      have m5 := text_size h (by omega)
      simp only [if_pos h5, ByteArray.size_append]
      omega
    · exact absurd h5 q0
  · have e : (⟨#[]⟩ : ByteArray).size = 0 := rfl
    simp only [if_neg h5, ByteArray.size_append, e]
    omega
/-- What wire.Req gives. -/
theorem req_f (k : Nat) (a0 a1 a2 a3 : Int) (t : ByteArray) (o : Int) (y v l h : ByteArray) (m : Int) :
    wire_Req.f (k + 1) a0 a1 a2 a3 t o y v l h m = some (if mayQ a0 a1 a2 a3 t o y v l h m then (encQ a0 a1 a2 a3 t o y v l h m, 0) else (⟨#[]⟩, 1)) := by
  unfold wire_Req.f
  rw [wire_may, bsm]
  by_cases hm : mayQ a0 a1 a2 a3 t o y v l h m
  · rw [if_pos hm, if_pos (decide_eq_true hm)]
    have hs := encQ_size hm
    obtain ⟨p0, p1, p2, p3, p4, p5⟩ := hm
    have e1 : numsS [a0, a1, a2, a3] ++ textsW [t] = numS a0.toNat ++ (numS a1.toNat ++ (numS a2.toNat ++ (numS a3.toNat ++ textS t))) := by
      rw [nums_cons, nums_cons, nums_cons, nums_one, texts_one, asc, asc, asc]
    have k1 : (numsS [a0, a1, a2, a3]).size + (textsW [t]).size ≤ 9223372036854775807 := by
      rw [← ByteArray.size_append, e1]
      have n0 := num_size a0 (by omega)
      have n1 := num_size a1 p1
      have n2 := num_size a2 p2
      have n3 := num_size a3 p3
      have n4 := text_size t (by omega)
      simp only [ByteArray.size_append]
      omega
    rw [nums_some [a0, a1, a2, a3] (by simp) (by
      intro x hx
      simp only [List.mem_cons, List.not_mem_nil, or_false] at hx
      rcases hx with rfl | rfl | rfl | rfl
      · omega
      · exact p1
      · exact p2
      · exact p3), bsm, texts_some [t] (by simp) (by
      intro x hx
      rw [List.mem_singleton.1 hx]
      omega), bsm, if_pos k1]
    by_cases h5 : a0 = 5
    · rcases p5 with ⟨_, _, q2, q3, q4, q5, q6, q7⟩ | ⟨q0, _⟩
      · have e2 : numsS [o] ++ textsW [y, v, l, h] = numS o.toNat ++ (textS y ++ (textS v ++ (textS l ++ textS h))) := by
          rw [nums_one, texts_cons, texts_cons, texts_cons, texts_one]
        have m0 := num_size o (by omega)
        have m1 := num_size m q7
        have m2 := text_size y (by omega)
        have m3 := text_size v (by omega)
        have m4 := text_size l (by omega)
        have m5 := text_size h (by omega)
        have e3 : (numsS [o] ++ textsW [y, v, l, h]) ++ numsS [m] = numS o.toNat ++ (textS y ++ (textS v ++ (textS l ++ (textS h ++ numS m.toNat)))) := by
          rw [e2, nums_one, asc, asc, asc, asc]
        have e4 : (numsS [a0, a1, a2, a3] ++ textsW [t]) ++ ((numsS [o] ++ textsW [y, v, l, h]) ++ numsS [m]) = encQ a0 a1 a2 a3 t o y v l h m := by
          unfold encQ
          rw [e1, e3, if_pos h5, asc, asc, asc, asc]
        rw [if_pos h5, nums_some [o] (by simp) (by
          intro x hx
          rw [List.mem_singleton.1 hx]
          omega), bsm, texts_some [y, v, l, h] (by simp) (by
          intro x hx
          simp only [List.mem_cons, List.not_mem_nil, or_false] at hx
          rcases hx with rfl | rfl | rfl | rfl
          · omega
          · omega
          · omega
          · omega), bsm, if_pos (by rw [← ByteArray.size_append, e2]; simp only [ByteArray.size_append]; omega), nums_some [m] (by simp) (by
          intro x hx
          rw [List.mem_singleton.1 hx]
          exact q7), bsm, if_pos (by rw [← ByteArray.size_append, e3]; simp only [ByteArray.size_append]; omega), if_pos (by rw [← ByteArray.size_append, e4]; omega), e4]
      · exact absurd h5 q0
    · have e4 : numsS [a0, a1, a2, a3] ++ textsW [t] = encQ a0 a1 a2 a3 t o y v l h m := by
        unfold encQ
        rw [e1, if_neg h5, app_empty]
      rw [if_neg h5, e4]
  · rw [if_neg hm, if_neg (fun h => hm (of_decide_eq_true h))]
/-- The fields, one behind the other. -/
def parseQ {α : Type} (x : ByteArray × Bool) (f : Int → Int → Int → Int → ByteArray → Int → ByteArray → ByteArray → ByteArray → ByteArray → Int → ByteArray × Bool → α) : α :=
  nx x 6 fun a1 x1 => nx x1 1073741824 fun a2 x2 => nx x2 1073741824 fun a3 x3 => nx x3 1073741824 fun a4 x4 => tx x4 16 fun a5 x5 =>
  if a1 = 5 then nx x5 6 fun a6 x6 => tx x6 32 fun a7 x7 => tx x7 64 fun a8 x8 => tx x8 32 fun a9 x9 => tx x9 32 fun a10 x10 => nx x10 1073741824 fun a11 x11 => f a1 a2 a3 a4 a5 a6 a7 a8 a9 a10 a11 x11
  else f a1 a2 a3 a4 a5 0 ⟨#[]⟩ ⟨#[]⟩ ⟨#[]⟩ ⟨#[]⟩ 0 x5
theorem takeReq_parse (s : ByteArray) : takeReqF s = if 2048 < s.size then zq 4 else parseQ (s, false) fun a0 a1 a2 a3 t o y v l h m x => lastQ x (goodQ a0 a1 a2 a3 t o y v l h m) := rfl
/-- A parse, by its fields. -/
theorem parse_at (x : ByteArray × Bool) : ∃ a0 a1 a2 a3 t o y v l h m z, ∀ {α : Type} (f : Int → Int → Int → Int → ByteArray → Int → ByteArray → ByteArray → ByteArray → ByteArray → Int → ByteArray × Bool → α), parseQ x f = f a0 a1 a2 a3 t o y v l h m z := by
  unfold parseQ nx tx
  by_cases h5 : (numR x.1 x.2 6).1 = 5
  · simp only [if_pos h5]
    exact ⟨_, _, _, _, _, _, _, _, _, _, _, _, fun f => rfl⟩
  · simp only [if_neg h5]
    exact ⟨_, _, _, _, _, _, _, _, _, _, _, _, fun f => rfl⟩
theorem parse_back {α : Type} {a0 a1 a2 a3 : Int} {t : ByteArray} {o : Int} {y v l h : ByteArray} {m : Int} (hm : mayQ a0 a1 a2 a3 t o y v l h m) (r : ByteArray) (f : Int → Int → Int → Int → ByteArray → Int → ByteArray → ByteArray → ByteArray → ByteArray → Int → ByteArray × Bool → α) :
    parseQ (encQ a0 a1 a2 a3 t o y v l h m ++ r, false) f = f a0 a1 a2 a3 t o y v l h m (r, false) := by
  obtain ⟨p0, p1, p2, p3, p4, p5⟩ := hm
  unfold parseQ encQ
  rw [asc, nx_back a0 _ 6 _ (by omega) (by omega), asc, nx_back a1 _ _ _ p1 (by omega), asc, nx_back a2 _ _ _ p2 (by omega), asc, nx_back a3 _ _ _ p3 (by omega), asc, tx_back t _ _ _ (by omega) (by omega)]
  rcases p5 with ⟨q0, q1, q2, q3, q4, q5, q6, q7⟩ | ⟨q0, q1, q2, q3, q4, q5, q6, _⟩
  · rw [if_pos q0, if_pos q0, asc, nx_back o _ 6 _ (by omega) (by omega), asc, tx_back y _ _ _ (by omega) (by omega), asc, tx_back v _ _ _ (by omega) (by omega), asc, tx_back l _ _ _ (by omega) (by omega), asc, tx_back h _ _ _ (by omega) (by omega), nx_back m _ _ _ q7 (by omega)]
  · rw [if_neg q0, if_neg q0, q1, size_nil q2, size_nil q3, size_nil q4, size_nil q5, q6]
    have e : (⟨#[]⟩ : ByteArray) ++ r = r := by
      apply bytes_ext
      simp only [data_append, List.nil_append]
    rw [e]
/-- What was parsed whole was written. -/
theorem parse_was (s : ByteArray) : parseQ (s, false) fun a0 a1 a2 a3 t o y v l h m x => x.2 = false → s = encQ a0 a1 a2 a3 t o y v l h m ++ x.1 := by
  unfold parseQ
  refine nx_rule (by simp only [nx_bad, tx_bad]; intro h; cases h) fun a0 r0 b0 e0 => ?_
  refine nx_rule (by simp only [nx_bad, tx_bad]; split <;> (intro h; cases h)) fun a1 r1 b1 e1 => ?_
  refine nx_rule (by simp only [nx_bad, tx_bad]; split <;> (intro h; cases h)) fun a2 r2 b2 e2 => ?_
  refine nx_rule (by simp only [nx_bad, tx_bad]; split <;> (intro h; cases h)) fun a3 r3 b3 e3 => ?_
  refine tx_rule (by simp only [nx_bad, tx_bad]; split <;> (intro h; cases h)) fun t r4 b4 e4 => ?_
  subst e4 e3 e2 e1
  by_cases h5 : a0 = 5
  · rw [if_pos h5]
    refine nx_rule (by simp only [nx_bad, tx_bad]; intro h; cases h) fun o r5 b5 e5 => ?_
    refine tx_rule (by simp only [nx_bad, tx_bad]; intro h; cases h) fun y r6 b6 e6 => ?_
    refine tx_rule (by simp only [nx_bad, tx_bad]; intro h; cases h) fun v r7 b7 e7 => ?_
    refine tx_rule (by simp only [nx_bad, tx_bad]; intro h; cases h) fun l r8 b8 e8 => ?_
    refine tx_rule (by simp only [nx_bad]; intro h; cases h) fun h r9 b9 e9 => ?_
    refine nx_rule (by intro h; cases h) fun m r10 b10 e10 => ?_
    subst e10 e9 e8 e7 e6 e5
    intro _
    rw [e0]
    unfold encQ
    rw [if_pos h5]
    simp only [asc]
  · rw [if_neg h5]
    intro _
    rw [e0]
    unfold encQ
    rw [if_neg h5]
    have e : ∀ r : ByteArray, (⟨#[]⟩ : ByteArray) ++ r = r := fun r => by
      apply bytes_ext
      simp only [data_append, List.nil_append]
    simp only [asc, e]
/-- What is taken was written by the same bytes; else it is ErrBig or ErrForm. -/
theorem take_req (s : ByteArray) : (∃ a0 a1 a2 a3 t o y v l h m, mayQ a0 a1 a2 a3 t o y v l h m ∧ s = encQ a0 a1 a2 a3 t o y v l h m ∧ takeReqF s = (a0, a1, a2, a3, t, o, y, v, l, h, m, 0)) ∨ takeReqF s = (if 2048 < s.size then zq 4 else zq 3) := by
  rw [takeReq_parse]
  by_cases hs : 2048 < s.size
  · exact .inr (by rw [if_pos hs, if_pos hs])
  rw [if_neg hs, if_neg hs]
  obtain ⟨a0, a1, a2, a3, t, o, y, v, l, h, m, x, hp⟩ := parse_at (s, false)
  have hw := parse_was s
  rw [hp] at hw
  rw [hp]
  unfold lastQ
  by_cases hx : x.2 = true ∨ ¬ x.1.size = 0
  · exact .inr (if_pos hx)
  · rw [if_neg hx]
    unfold goodQ
    by_cases hm : mayQ a0 a1 a2 a3 t o y v l h m
    · rw [if_pos hm]
      simp only [not_or, Classical.not_not] at hx
      have e := hw (by simpa using hx.1)
      rw [size_nil hx.2, app_empty] at e
      exact .inl ⟨a0, a1, a2, a3, t, o, y, v, l, h, m, hm, e, rfl⟩
    · exact .inr (if_neg hm)
theorem take_of {a0 a1 a2 a3 : Int} {t : ByteArray} {o : Int} {y v l h : ByteArray} {m : Int} (hm : mayQ a0 a1 a2 a3 t o y v l h m) : takeReqF (encQ a0 a1 a2 a3 t o y v l h m) = (a0, a1, a2, a3, t, o, y, v, l, h, m, 0) := by
  have hs := encQ_size hm
  have e := parse_back hm (⟨#[]⟩ : ByteArray) (fun a0 a1 a2 a3 t o y v l h m x => lastQ x (goodQ a0 a1 a2 a3 t o y v l h m))
  rw [app_empty] at e
  rw [takeReq_parse, if_neg (by omega), e]
  unfold lastQ goodQ
  rw [if_neg (by rintro (h | h); · cases h
                 · exact h rfl), if_pos hm]
/-- The document's example. -/
theorem shown_f (k : Nat) : stanchionlaw16_shown.f (k + 1) = some true := by
  unfold stanchionlaw16_shown.f
  have h1 : (⟨#[116]⟩ : ByteArray).size = 1 := rfl
  have h0 : (⟨#[]⟩ : ByteArray).size = 0 := rfl
  have hm : mayQ 4 1 2 3 (⟨#[116]⟩ : ByteArray) 0 (⟨#[]⟩ : ByteArray) (⟨#[]⟩ : ByteArray) (⟨#[]⟩ : ByteArray) (⟨#[]⟩ : ByteArray) 0 := by
    unfold mayQ
    rw [h1, h0]
    decide
  rw [req_f, bsm, if_pos hm]
  have e : (encQ 4 1 2 3 (⟨#[116]⟩ : ByteArray) 0 (⟨#[]⟩ : ByteArray) (⟨#[]⟩ : ByteArray) (⟨#[]⟩ : ByteArray) (⟨#[]⟩ : ByteArray) 0).toList = ([52, 59, 49, 59, 50, 59, 51, 59, 49, 59, 116] : List UInt8) := by
    rw [Lib.toList_data]
    unfold encQ textS
    simp only [data_append, numS_data, h1]
    rw [show (4 : Int).toNat = 4 from rfl, show (1 : Int).toNat = 1 from rfl, show (2 : Int).toNat = 2 from rfl, show (3 : Int).toNat = 3 from rfl, figL_small (by omega), figL_small (by omega), figL_small (by omega), figL_small (by omega)]
    rfl
  rw [if_pos e]
  rfl
end Go.Proofs.YtlpcidjmaeicoaaDoor.Enc

/-! EncR -/
/- Numbers and texts, as the reference takes and writes them: plain laws. -/
namespace Go.Proofs.YtlpcidjmaeicoaaDoor.Enc
open Go Go.RowKit Go.Proofs.YtlpcidjmaeicoaaDoor.DecM Go.Proofs.YtlpcidjmaeicoaaDoor.Giv Go.Proofs.YtlpcidjmaeicoaaDoor.Wire Go.Proofs.YtlpcidjmaeicoaaDoor.Reader Go.Proofs.YtlpcidjmaeicoaaDoor.QWi

theorem nr_bad {α : Type} (s : ByteArray) (f : Int → ByteArray × Bool → α) : nr (s, false) f = f 0 (⟨#[]⟩, false) :=
  nr_of (x := (s, false)) (v := (0, ⟨#[]⟩, false)) f (if_neg (by simp))
theorem tr_bad {α : Type} (s : ByteArray) (m : Int) (f : ByteArray → ByteArray × Bool → α) : tr (s, false) m f = f ⟨#[]⟩ (⟨#[]⟩, false) :=
  tr_of (x := (s, false)) (v := (⟨#[]⟩, ⟨#[]⟩, false)) f (if_neg (by simp))
theorem nr_back {α : Type} (n : Int) (r : ByteArray) (f : Int → ByteArray × Bool → α) (hn : 0 ≤ n ∧ n ≤ 1073741824) : nr (numS n.toNat ++ r, true) f = f n (r, true) := by
  have e := take_back n.toNat (by unfold two64; omega) r
  have en : ((n.toNat : Nat) : Int) = n := by omega
  rw [en] at e
  refine nr_of (v := (n, r, true)) f ?_
  show tkR (numS n.toNat ++ r) true = _
  unfold tkR
  rw [e]
  exact if_pos ⟨rfl, rfl, hn.2⟩
theorem tr_back {α : Type} (t r : ByteArray) (m : Int) (f : ByteArray → ByteArray × Bool → α) (ht : (t.size : Int) ≤ m) (hm : m ≤ 1073741824) : tr (textS t ++ r, true) m f = f t (r, true) := by
  have e := DecPure.text_back t r m (by omega)
  rw [if_neg (by omega)] at e
  refine tr_of (v := (t, r, true)) f ?_
  show rdR (textS t ++ r) true m = _
  unfold rdR
  rw [e]
  exact if_pos ⟨rfl, rfl⟩
theorem nr_rule {s : ByteArray} {f : Int → ByteArray × Bool → Prop} (h0 : f 0 (⟨#[]⟩, false)) (h1 : ∀ (n : Int) (r : ByteArray), 0 ≤ n ∧ n ≤ 1073741824 → s = numS n.toNat ++ r → f n (r, true)) : nr (s, true) f := by
  by_cases hc : true = true ∧ (takeNum s).2.2 = 0 ∧ (takeNum s).1 ≤ 1073741824
  · rw [nr_of (x := (s, true)) (v := ((takeNum s).1, (takeNum s).2.1, true)) f (if_pos hc)]
    obtain ⟨n, e1, e2, e3⟩ := take_was (s := s) (v := (takeNum s).1) (r := (takeNum s).2.1) (by rw [← hc.2.1])
    refine h1 _ _ ⟨by omega, hc.2.2⟩ ?_
    rw [e1, Int.toNat_natCast]
    exact e3
  · rw [nr_of (x := (s, true)) (v := (0, ⟨#[]⟩, false)) f (if_neg hc)]
    exact h0
theorem tr_rule {s : ByteArray} {m : Int} {f : ByteArray → ByteArray × Bool → Prop} (h0 : f ⟨#[]⟩ (⟨#[]⟩, false)) (h1 : ∀ (t r : ByteArray), (t.size : Int) ≤ m → s = textS t ++ r → f t (r, true)) : tr (s, true) m f := by
  by_cases hc : true = true ∧ (takeText s m).2.2 = 0
  · rw [tr_of (x := (s, true)) (v := ((takeText s m).1, (takeText s m).2.1, true)) f (if_pos hc)]
    obtain ⟨e1, e2, e3⟩ := DecPure.text_was s m hc.2
    exact h1 _ _ e2 e1
  · rw [tr_of (x := (s, true)) (v := (⟨#[]⟩, ⟨#[]⟩, false)) f (if_neg hc)]
    exact h0
theorem num_r (a : Int) (h : 0 ≤ a ∧ a ≤ 1073741824) : stanchionref16_num.f a = some (numS a.toNat) := by
  unfold stanchionref16_num.f QWi.stanchionref01_Num.f
  have hw : IntKind.u64.wrap a = a := by
    unfold IntKind.wrap
    simp [IntKind.bits, IntKind.signed]
    omega
  rw [hw, DecPure.refn_some (by omega)]
  rfl
theorem text_r (t : ByteArray) (h : t.size ≤ 64) : stanchionref16_text.f t = some (textS t) := by
  unfold stanchionref16_text.f QWi.stanchionref01_Text.f QDec.stanchionref01_Text.f
  rw [if_pos (by omega)]
  rfl
end Go.Proofs.YtlpcidjmaeicoaaDoor.Enc

/-! ReqsP -/
/- WireReqs in plain Lean: requests' bytes, and the request of bytes, are the document's. -/
namespace Go.Proofs.YtlpcidjmaeicoaaDoor.Enc
open Go Go.RowKit Go.Proofs.YtlpcidjmaeicoaaDoor.DecM Go.Proofs.YtlpcidjmaeicoaaDoor.Giv Go.Proofs.YtlpcidjmaeicoaaDoor.Wire Go.Proofs.YtlpcidjmaeicoaaDoor.Reader Go.Proofs.YtlpcidjmaeicoaaDoor.QWi

/-- The fields, as the reference takes them. -/
def parseR {α : Type} (x : ByteArray × Bool) (f : Int → Int → Int → Int → ByteArray → Int → ByteArray → ByteArray → ByteArray → ByteArray → Int → ByteArray × Bool → α) : α :=
  nr x fun a1 x1 => nr x1 fun a2 x2 => nr x2 fun a3 x3 => nr x3 fun a4 x4 => tr x4 16 fun a5 x5 =>
  if a1 = 5 then nr x5 fun a6 x6 => tr x6 32 fun a7 x7 => tr x7 64 fun a8 x8 => tr x8 32 fun a9 x9 => tr x9 32 fun a10 x10 => nr x10 fun a11 x11 => f a1 a2 a3 a4 a5 a6 a7 a8 a9 a10 a11 x11
  else f a1 a2 a3 a4 a5 0 ⟨#[]⟩ ⟨#[]⟩ ⟨#[]⟩ ⟨#[]⟩ 0 x5
theorem refReq_parse (s : ByteArray) : refReqF s = if 2048 < s.size then zq 4 else parseR (s, true) fun a0 a1 a2 a3 t o y v l h m x => refQ x a0 a1 a2 a3 t o y v l h m := rfl
theorem parseR_at (x : ByteArray × Bool) : ∃ a0 a1 a2 a3 t o y v l h m z, ∀ {α : Type} (f : Int → Int → Int → Int → ByteArray → Int → ByteArray → ByteArray → ByteArray → ByteArray → Int → ByteArray × Bool → α), parseR x f = f a0 a1 a2 a3 t o y v l h m z := by
  unfold parseR nr tr
  by_cases h5 : (tkR x.1 x.2).1 = 5
  · simp only [if_pos h5]
    exact ⟨_, _, _, _, _, _, _, _, _, _, _, _, fun f => rfl⟩
  · simp only [if_neg h5]
    exact ⟨_, _, _, _, _, _, _, _, _, _, _, _, fun f => rfl⟩
theorem parseR_back {α : Type} {a0 a1 a2 a3 : Int} {t : ByteArray} {o : Int} {y v l h : ByteArray} {m : Int} (hm : mayQ a0 a1 a2 a3 t o y v l h m) (r : ByteArray) (f : Int → Int → Int → Int → ByteArray → Int → ByteArray → ByteArray → ByteArray → ByteArray → Int → ByteArray × Bool → α) :
    parseR (encQ a0 a1 a2 a3 t o y v l h m ++ r, true) f = f a0 a1 a2 a3 t o y v l h m (r, true) := by
  obtain ⟨p0, p1, p2, p3, p4, p5⟩ := hm
  unfold parseR encQ
  rw [asc, nr_back a0 _ _ (by omega), asc, nr_back a1 _ _ p1, asc, nr_back a2 _ _ p2, asc, nr_back a3 _ _ p3, asc, tr_back t _ _ _ (by omega) (by omega)]
  rcases p5 with ⟨q0, q1, q2, q3, q4, q5, q6, q7⟩ | ⟨q0, q1, q2, q3, q4, q5, q6, _⟩
  · rw [if_pos q0, if_pos q0, asc, nr_back o _ _ (by omega), asc, tr_back y _ _ _ (by omega) (by omega), asc, tr_back v _ _ _ (by omega) (by omega), asc, tr_back l _ _ _ (by omega) (by omega), asc, tr_back h _ _ _ (by omega) (by omega), nr_back m _ _ q7]
  · rw [if_neg q0, if_neg q0, q1, size_nil q2, size_nil q3, size_nil q4, size_nil q5, q6]
    have e : (⟨#[]⟩ : ByteArray) ++ r = r := by
      apply bytes_ext
      simp only [data_append, List.nil_append]
    rw [e]
theorem parseR_was (s : ByteArray) : parseR (s, true) fun a0 a1 a2 a3 t o y v l h m x => x.2 = true → s = encQ a0 a1 a2 a3 t o y v l h m ++ x.1 := by
  unfold parseR
  refine nr_rule (by simp only [nr_bad, tr_bad]; split <;> (intro h; cases h)) fun a0 r0 b0 e0 => ?_
  refine nr_rule (by simp only [nr_bad, tr_bad]; split <;> (intro h; cases h)) fun a1 r1 b1 e1 => ?_
  refine nr_rule (by simp only [nr_bad, tr_bad]; split <;> (intro h; cases h)) fun a2 r2 b2 e2 => ?_
  refine nr_rule (by simp only [nr_bad, tr_bad]; split <;> (intro h; cases h)) fun a3 r3 b3 e3 => ?_
  refine tr_rule (by simp only [nr_bad, tr_bad]; split <;> (intro h; cases h)) fun t r4 b4 e4 => ?_
  subst e4 e3 e2 e1
  by_cases h5 : a0 = 5
  · rw [if_pos h5]
    refine nr_rule (by simp only [nr_bad, tr_bad]; intro h; cases h) fun o r5 b5 e5 => ?_
    refine tr_rule (by simp only [nr_bad, tr_bad]; intro h; cases h) fun y r6 b6 e6 => ?_
    refine tr_rule (by simp only [nr_bad, tr_bad]; intro h; cases h) fun v r7 b7 e7 => ?_
    refine tr_rule (by simp only [nr_bad, tr_bad]; intro h; cases h) fun l r8 b8 e8 => ?_
    refine tr_rule (by simp only [nr_bad]; intro h; cases h) fun h r9 b9 e9 => ?_
    refine nr_rule (by intro h; cases h) fun m r10 b10 e10 => ?_
    subst e10 e9 e8 e7 e6 e5
    intro _
    rw [e0]
    unfold encQ
    rw [if_pos h5]
    simp only [asc]
  · rw [if_neg h5]
    intro _
    rw [e0]
    unfold encQ
    rw [if_neg h5]
    have e : ∀ r : ByteArray, (⟨#[]⟩ : ByteArray) ++ r = r := fun r => by
      apply bytes_ext
      simp only [data_append, List.nil_append]
    simp only [asc, e]
theorem ref_req (s : ByteArray) : (∃ a0 a1 a2 a3 t o y v l h m, mayQ a0 a1 a2 a3 t o y v l h m ∧ s = encQ a0 a1 a2 a3 t o y v l h m ∧ refReqF s = (a0, a1, a2, a3, t, o, y, v, l, h, m, 0)) ∨ refReqF s = (if 2048 < s.size then zq 4 else zq 3) := by
  rw [refReq_parse]
  by_cases hs : 2048 < s.size
  · exact .inr (by rw [if_pos hs, if_pos hs])
  rw [if_neg hs, if_neg hs]
  obtain ⟨a0, a1, a2, a3, t, o, y, v, l, h, m, x, hp⟩ := parseR_at (s, true)
  have hw := parseR_was s
  rw [hp] at hw
  rw [hp]
  unfold refQ
  by_cases hx : x.2 = false
  · exact .inr (if_pos hx)
  rw [if_neg hx]
  by_cases hz : ¬ x.1.size = 0
  · exact .inr (if_pos hz)
  rw [if_neg hz]
  by_cases hm : mayQ a0 a1 a2 a3 t o y v l h m
  · rw [if_pos (decide_eq_true hm)]
    have e := hw (by simpa using hx)
    rw [size_nil (Classical.not_not.mp hz), app_empty] at e
    exact .inl ⟨a0, a1, a2, a3, t, o, y, v, l, h, m, hm, e, rfl⟩
  · exact .inr (if_neg (fun h => hm (of_decide_eq_true h)))
theorem ref_of {a0 a1 a2 a3 : Int} {t : ByteArray} {o : Int} {y v l h : ByteArray} {m : Int} (hm : mayQ a0 a1 a2 a3 t o y v l h m) : refReqF (encQ a0 a1 a2 a3 t o y v l h m) = (a0, a1, a2, a3, t, o, y, v, l, h, m, 0) := by
  have hs := encQ_size hm
  have e := parseR_back hm (⟨#[]⟩ : ByteArray) (fun a0 a1 a2 a3 t o y v l h m x => refQ x a0 a1 a2 a3 t o y v l h m)
  rw [app_empty] at e
  rw [refReq_parse, if_neg (by omega), e]
  unfold refQ
  rw [if_neg (by decide), if_neg (fun h => h rfl), if_pos (decide_eq_true hm)]
/-- Both take the same. -/
theorem both_take (s : ByteArray) : refReqF s = takeReqF s := by
  rcases take_req s with ⟨a0, a1, a2, a3, t, o, y, v, l, h, m, hm, e1, e2⟩ | e
  · rw [e2, e1, ref_of hm]
  · rcases ref_req s with ⟨a0, a1, a2, a3, t, o, y, v, l, h, m, hm, e1, e2⟩ | e'
    · rw [e2, e1, take_of hm]
    · rw [e, e']
/-- The reference's Req is the same. -/
theorem refreq_f (k : Nat) (a0 a1 a2 a3 : Int) (t : ByteArray) (o : Int) (y v l h : ByteArray) (m : Int) :
    stanchionref16_Req.f (k + 4) a0 a1 a2 a3 t o y v l h m = some (if mayQ a0 a1 a2 a3 t o y v l h m then (encQ a0 a1 a2 a3 t o y v l h m, 0) else (⟨#[]⟩, 1)) := by
  unfold stanchionref16_Req.f
  rw [ref_may, bsm]
  by_cases hm : mayQ a0 a1 a2 a3 t o y v l h m
  · rw [if_pos hm, if_pos (decide_eq_true hm)]
    obtain ⟨p0, p1, p2, p3, p4, p5⟩ := hm
    have n0 := num_size a0 (by omega)
    have n1 := num_size a1 p1
    have n2 := num_size a2 p2
    have n3 := num_size a3 p3
    have n4 := text_size t (by omega)
    rw [num_r a0 (by omega), bsm, num_r a1 p1, bsm, if_pos (by omega), num_r a2 p2, bsm, if_pos (by simp only [ByteArray.size_append]; omega), num_r a3 p3, bsm, if_pos (by simp only [ByteArray.size_append]; omega), text_r t (by omega), bsm, if_pos (by simp only [ByteArray.size_append]; omega)]
    by_cases h5 : a0 = 5
    · rcases p5 with ⟨_, _, q2, q3, q4, q5, q6, q7⟩ | ⟨q0, _⟩
      · have m0 := num_size o (by omega)
        have m1 := num_size m q7
        have m2 := text_size y (by omega)
        have m3 := text_size v (by omega)
        have m4 := text_size l (by omega)
        have m5 := text_size h (by omega)
        rw [if_pos h5, num_r o (by omega), bsm, if_pos (by simp only [ByteArray.size_append]; omega), text_r y (by omega), bsm, if_pos (by simp only [ByteArray.size_append]; omega), text_r v (by omega), bsm, if_pos (by simp only [ByteArray.size_append]; omega), text_r l (by omega), bsm, if_pos (by simp only [ByteArray.size_append]; omega), text_r h (by omega), bsm, if_pos (by simp only [ByteArray.size_append]; omega), num_r m q7, bsm, if_pos (by simp only [ByteArray.size_append]; omega)]
        unfold encQ
        rw [if_pos h5]
        simp only [asc]
      · exact absurd h5 q0
    · rw [if_neg h5]
      unfold encQ
      rw [if_neg h5, app_empty]
      simp only [asc]
  · rw [if_neg hm, if_neg (fun h => hm (of_decide_eq_true h))]
theorem fields_self (a0 a1 a2 a3 : Int) (t : ByteArray) (o : Int) (y v l h : ByteArray) (m : Int) :
    (a0 == a0 && (a1 == a1 && (a2 == a2 && (a3 == a3 && (t.toList == t.toList && ((o == o && (y.toList == y.toList && (v.toList == v.toList && (l.toList == l.toList && (h.toList == h.toList && (m == m)))))))))))) = true := by
  simp only [beq_self_eq_true, Bool.and_self]
theorem Reqs (a0 a1 a2 a3 : Int) (t : ByteArray) (o : Int) (y v l h : ByteArray) (m : Int) (s : ByteArray) : ∃ k, stanchionlaw16_WireReqs.f k a0 a1 a2 a3 t o y v l h m s = some true := by
  refine ⟨0 + 4, ?_⟩
  unfold stanchionlaw16_WireReqs.f wire_TakeReq.f stanchionref16_TakeReq.f
  rw [shown_f, bsm, req_f, bsm, refreq_f, bsm, bsm, bsm, both_take, if_pos rfl, if_pos rfl, if_pos rfl, fields_self, if_pos rfl, if_pos rfl, wire_may, bsm, ref_may, bsm, beq_self_eq_true]
end Go.Proofs.YtlpcidjmaeicoaaDoor.Enc

/-! OpenRow -/
/- A row of texts (or of numbers) among the arguments, opened for the printed contracts; what the bound on the bulk says of it. -/
namespace Go.Proofs.YtlpcidjmaeicoaaDoor.OpenRow
open Go Go.ChangeShapes Go.WideShapes Go.RowKit Go.Proofs.YtlpcidjmaeicoaaDoorW.PrintWords

/-- How many letters and texts a row holds. -/
def rowBulk : List ByteArray → Nat
  | [] => 0
  | t :: l => t.size + 1 + rowBulk l
section
variable {H : Type} {enc : TypeId × Value → H} {P : Program} {W : World} {t e : TypeId} {fuel : Nat} {A0 : Option Addr} {n0 c0 : Nat} {x : DataW H × List MemPlace}
end
theorem agg_bulk {H : Type} {d : DataW H} {p : List MemPlace} {xs : List (DataW H × List MemPlace)} (h : (d, p) = (.agg (xs.map (·.1)), xs.flatMap (·.2))) : Rows.uptoBulk d = Rows.uptoBulkAll (xs.map (·.1)) + 1 := by
  obtain rfl := (Prod.mk.inj h).1
  simp only [Rows.uptoBulk]
theorem agg_bulk1 {H : Type} {y : DataW H × List MemPlace} {xs : List (DataW H × List MemPlace)} (h : y = (.agg (xs.map (·.1)), xs.flatMap (·.2))) : Rows.uptoBulk y.1 = Rows.uptoBulkAll (xs.map (·.1)) + 1 := by
  subst h
  simp only [Rows.uptoBulk]
theorem str_bulk0 {H : Type} (s : ByteArray) : Rows.uptoBulk (DataW.lit (H := H) (.string s.data.toList)) = s.size + 1 := by
  simp only [Rows.uptoBulk]
  rw [Array.length_toList]
  rfl
theorem str_bulk {H : Type} {y : DataW H × List MemPlace} {s : ByteArray} (h : y = (.lit (.string s.data.toList), [])) : Rows.uptoBulk y.1 = s.size + 1 := by
  subst h
  exact str_bulk0 s
end Go.Proofs.YtlpcidjmaeicoaaDoor.OpenRow

/-! Laid -/
/- The one variable that the rows list, errors.errorType: what the condition gives a walk, and a world that meets it (after the worked proof Toyas). -/
namespace Go.Proofs.YtlpcidjmaeicoaaDoor.Laid
open Go Go.RowKit Go.ChangeShapes Go.WideShapes Go.ChangeAt

def list : List (String × DataW Unit) := [("errors.errorType", Rows.laid_errors_errorType)]
theorem et : Tryd.prog.globalNamed "errors.errorType" = some 0 := by kernel_rfl
theorem rt : (Tryd.prog.cutTypes.find? (·.1 == "internal/reflectlite.rtype")).map (·.2) = some 129 := by kernel_rfl
theorem oneRow : ((List.range 172).filter fun t => Tryd.prog.rowNamed t [101, 114, 114, 111, 114]) = [58] := by kernel_rfl
theorem size : Tryd.prog.types.size = 172 := by kernel_rfl
theorem handle_of_laid {W : World} (h : laidMetH Tryd.prog list W) : Reader.Handle W := by
  have h' : laidMet Tryd.prog [] W ∧ handlesMet Tryd.prog list W := h
  obtain ⟨name, u, ty, e1, e2, e3, e4, e5⟩ := h'.2 _ (List.mem_singleton.2 rfl)
  have en : name = [101, 114, 114, 111, 114] := (Option.some.inj e1).symm
  subst en
  obtain rfl := Option.some.inj (rt.symm.trans e2)
  have hm : ty ∈ (List.range 172).filter fun t => Tryd.prog.rowNamed t [101, 114, 114, 111, 114] := List.mem_filter.2 ⟨List.mem_range.2 (by rw [← size]; exact e3), e4⟩
  rw [oneRow] at hm
  obtain rfl := List.mem_singleton.1 hm
  have hh : typeHandle Tryd.prog 58 = .pointer (some ⟨1, 58, none⟩) := by kernel_rfl
  rw [hh] at e5
  unfold Reader.Handle
  simpa using World.var?_cell et e5 0
/-- A world that meets the condition: the settled one, the variable's cell laid. -/
noncomputable def world (os : Os) : World :=
  { World.holding Tryd.prog os ⟨#[], #[], []⟩ with heap := (World.holding Tryd.prog os ⟨#[], #[], []⟩).heap.modify 0 fun
      | .cells _ t frozen => .cells #[.iface 129 (.agg #[.pointer (some ⟨1, 58, none⟩)])] t frozen
      | o => o }
theorem world_met (os : Os) (args : Array Value) : laidMetH Tryd.prog list ((world os).forCall (fun _ _ => 0) ⟨#[], args, []⟩).memory :=
  laidMetH_of_parts (laidMet_nil _ _) (by kernel_rfl)
end Go.Proofs.YtlpcidjmaeicoaaDoor.Laid

/-! UpWireReqs -/
/- WireReqs returns true for every input that can be read, the package-level variable errors.errorType reading as its initialiser lays it (which the card ties to the program's text): the card, out of the printed contract and the plain law. -/
namespace Go.Proofs.YtlpcidjmaeicoaaDoor.wireReqs
open Go.ChangeShapes Go.WideShapes Go.ChangeAt Go.RowKit
open Go.ChangeMaps (open_string shut_string)
set_option linter.unusedVariables false
theorem len6 {α : Type} {l : List α} (h : l.length = 6) : ∃ a0 a1 a2 a3 a4 a5, l = [a0, a1, a2, a3, a4, a5] :=
  match l, h with
  | [a0, a1, a2, a3, a4, a5], _ => ⟨a0, a1, a2, a3, a4, a5, rfl⟩
theorem len11 {α : Type} {l : List α} (h : l.length = 11) : ∃ a0 a1 a2 a3 a4 a5 a6 a7 a8 a9 a10, l = [a0, a1, a2, a3, a4, a5, a6, a7, a8, a9, a10] :=
  match l, h with
  | [a0, a1, a2, a3, a4, a5, a6, a7, a8, a9, a10], _ => ⟨a0, a1, a2, a3, a4, a5, a6, a7, a8, a9, a10, rfl⟩
theorem own : ownKnob Tryd.prog.godebug = none := by kernel_rfl
theorem laidOut : laidOutB Tryd.prog = true := by kernel_rfl
theorem c3 : Tryd.prog.cellsOf 3 = 1 := by kernel_rfl
theorem c9 : Tryd.prog.cellsOf 9 = 1 := by kernel_rfl
theorem c23 : Tryd.prog.cellsOf 23 = 6 := by kernel_rfl
theorem c25 : Tryd.prog.cellsOf 25 = 11 := by kernel_rfl
set_option maxRecDepth 100000 in
theorem contract (H : Type) (enc : TypeId × Value → H) (W : World) (base : Nat) (args : Array Value) (ds gs : List (DataW H)) (before : List MemPlace)
    (hval0 : ∀ (j : Nat) t v, Tryd.f3.params[j]? = some t → args[j]? = some v → Value.okWide Tryd.prog W .any base t v)
    (hW : DataW.Whole enc Tryd.prog Tryd.f3.params.toList Rows.wireReqsSpec.vars false W args.toList ds gs before) (hL : laidMetH Tryd.prog Rows.wireReqsRow.laid W) :
    Calls Tryd.prog 3 args W fun e W' => ∃ v, e = .returned v ∧ Rows.wireReqsSpec.post enc Tryd.prog Tryd.f3 false true false false W args v W' := by
  have hval : ∀ (j : Nat) t v, Tryd.f3.params[j]? = some t → args[j]? = some v → Value.okWide Tryd.prog W .any base t v := hval0
  have hW' := hW
  obtain ⟨p, q, hA0, hV, rfl, hfz, hnd⟩ := hW
  have hA : DataW.TrodAll enc Tryd.prog W 0 (fun _ => true) true Tryd.f3.params.toList args.toList ds p := hA0
  rw [Tryd.params3] at hA hval
  obtain ⟨v0, vs0, d0, ds0, p0, q0, hargs, rfl, rfl, h0, r0⟩ := trodAll_cons hA
  obtain ⟨v1, vs1, d1, ds1, p1, q1, rfl, rfl, rfl, h1, r1⟩ := trodAll_cons r0
  obtain ⟨rfl, rfl, rfl⟩ := trodAll_nil r1
  obtain rfl : args = #[v0, v1] := by cases args; simp_all
  obtain ⟨rfl, rfl⟩ := trodVars_none hV
  have h0k := h0
  obtain ⟨cs0, rfl, hs0⟩ := okWide_struct Tryd.underlying25 (hval 0 25 v0 rfl rfl)
  obtain ⟨lx0⟩ := cs0
  rw [c25] at hs0
  obtain ⟨c0_0c, c0_1c, c0_2c, c0_3c, c0_4c, c0_5c, c0_6c, c0_7c, c0_8c, c0_9c, c0_10c, rfl⟩ := len11 hs0
  obtain ⟨n0, f0⟩ := h0
  have f0x : DataW.trod enc Tryd.prog W 0 (fun _ => true) true n0 25 [c0_0c, c0_1c, c0_2c, c0_3c, c0_4c, c0_5c, c0_6c, c0_7c, c0_8c, c0_9c, c0_10c] = some (d0, p0) := f0
  obtain ⟨xs0, n0, _, ex0, _, hl0, hg0⟩ := DataW.trod_struct Tryd.underlying25 f0x
  obtain ⟨y0_0, y0_1, y0_2, y0_3, y0_4, y0_5, rfl⟩ := len6 hl0
  have eb0 := OpenRow.agg_bulk ex0
  simp only [Rows.uptoBulkAll, List.map_cons, List.map_nil] at eb0
  have g0_0 : DataW.trod enc Tryd.prog W 0 (fun _ => true) true n0 3 [c0_0c] = some y0_0 := by
    have z : DataW.trod enc Tryd.prog W 0 (fun _ => true) true n0 3 (([c0_0c, c0_1c, c0_2c, c0_3c, c0_4c, c0_5c, c0_6c, c0_7c, c0_8c, c0_9c, c0_10c].drop 0).take (Tryd.prog.cellsOf 3)) = [y0_0, y0_1, y0_2, y0_3, y0_4, y0_5][0]? := hg0 0 _ rfl
    rw [c3] at z
    exact z
  have g0_1 : DataW.trod enc Tryd.prog W 0 (fun _ => true) true n0 3 [c0_1c] = some y0_1 := by
    have z : DataW.trod enc Tryd.prog W 0 (fun _ => true) true n0 3 (([c0_0c, c0_1c, c0_2c, c0_3c, c0_4c, c0_5c, c0_6c, c0_7c, c0_8c, c0_9c, c0_10c].drop 1).take (Tryd.prog.cellsOf 3)) = [y0_0, y0_1, y0_2, y0_3, y0_4, y0_5][1]? := hg0 1 _ rfl
    rw [c3] at z
    exact z
  have g0_2 : DataW.trod enc Tryd.prog W 0 (fun _ => true) true n0 3 [c0_2c] = some y0_2 := by
    have z : DataW.trod enc Tryd.prog W 0 (fun _ => true) true n0 3 (([c0_0c, c0_1c, c0_2c, c0_3c, c0_4c, c0_5c, c0_6c, c0_7c, c0_8c, c0_9c, c0_10c].drop 2).take (Tryd.prog.cellsOf 3)) = [y0_0, y0_1, y0_2, y0_3, y0_4, y0_5][2]? := hg0 2 _ rfl
    rw [c3] at z
    exact z
  have g0_3 : DataW.trod enc Tryd.prog W 0 (fun _ => true) true n0 3 [c0_3c] = some y0_3 := by
    have z : DataW.trod enc Tryd.prog W 0 (fun _ => true) true n0 3 (([c0_0c, c0_1c, c0_2c, c0_3c, c0_4c, c0_5c, c0_6c, c0_7c, c0_8c, c0_9c, c0_10c].drop 3).take (Tryd.prog.cellsOf 3)) = [y0_0, y0_1, y0_2, y0_3, y0_4, y0_5][3]? := hg0 3 _ rfl
    rw [c3] at z
    exact z
  have g0_4 : DataW.trod enc Tryd.prog W 0 (fun _ => true) true n0 9 [c0_4c] = some y0_4 := by
    have z : DataW.trod enc Tryd.prog W 0 (fun _ => true) true n0 9 (([c0_0c, c0_1c, c0_2c, c0_3c, c0_4c, c0_5c, c0_6c, c0_7c, c0_8c, c0_9c, c0_10c].drop 4).take (Tryd.prog.cellsOf 9)) = [y0_0, y0_1, y0_2, y0_3, y0_4, y0_5][4]? := hg0 4 _ rfl
    rw [c9] at z
    exact z
  have g0_5 : DataW.trod enc Tryd.prog W 0 (fun _ => true) true n0 23 [c0_5c, c0_6c, c0_7c, c0_8c, c0_9c, c0_10c] = some y0_5 := by
    have z : DataW.trod enc Tryd.prog W 0 (fun _ => true) true n0 23 (([c0_0c, c0_1c, c0_2c, c0_3c, c0_4c, c0_5c, c0_6c, c0_7c, c0_8c, c0_9c, c0_10c].drop 5).take (Tryd.prog.cellsOf 23)) = [y0_0, y0_1, y0_2, y0_3, y0_4, y0_5][5]? := hg0 5 _ rfl
    rw [c23] at z
    exact z
  obtain ⟨a0_0, e0_0, q0_0, w0_0⟩ := DataW.trod_int Tryd.underlying3 g0_0
  simp only [List.cons.injEq, and_true] at e0_0
  subst e0_0
  obtain ⟨a0_1, e0_1, q0_1, w0_1⟩ := DataW.trod_int Tryd.underlying3 g0_1
  simp only [List.cons.injEq, and_true] at e0_1
  subst e0_1
  obtain ⟨a0_2, e0_2, q0_2, w0_2⟩ := DataW.trod_int Tryd.underlying3 g0_2
  simp only [List.cons.injEq, and_true] at e0_2
  subst e0_2
  obtain ⟨a0_3, e0_3, q0_3, w0_3⟩ := DataW.trod_int Tryd.underlying3 g0_3
  simp only [List.cons.injEq, and_true] at e0_3
  subst e0_3
  obtain ⟨a0_4, e0_4, q0_4, w0_4⟩ := DataW.trod_string Tryd.underlying9 g0_4
  simp only [List.cons.injEq, and_true] at e0_4
  subst e0_4
  have b0_4 := OpenRow.str_bulk q0_4
  obtain ⟨xs0_5, n0_5, _, ex0_5, _, hl0_5, hg0_5⟩ := DataW.trod_struct Tryd.underlying23 g0_5
  obtain ⟨y0_5_0, y0_5_1, y0_5_2, y0_5_3, y0_5_4, y0_5_5, rfl⟩ := len6 hl0_5
  have eb0_5 := OpenRow.agg_bulk1 ex0_5
  simp only [Rows.uptoBulkAll, List.map_cons, List.map_nil] at eb0_5
  have g0_5_0 : DataW.trod enc Tryd.prog W 0 (fun _ => true) true n0_5 3 [c0_5c] = some y0_5_0 := by
    have z : DataW.trod enc Tryd.prog W 0 (fun _ => true) true n0_5 3 (([c0_5c, c0_6c, c0_7c, c0_8c, c0_9c, c0_10c].drop 0).take (Tryd.prog.cellsOf 3)) = [y0_5_0, y0_5_1, y0_5_2, y0_5_3, y0_5_4, y0_5_5][0]? := hg0_5 0 _ rfl
    rw [c3] at z
    exact z
  have g0_5_1 : DataW.trod enc Tryd.prog W 0 (fun _ => true) true n0_5 9 [c0_6c] = some y0_5_1 := by
    have z : DataW.trod enc Tryd.prog W 0 (fun _ => true) true n0_5 9 (([c0_5c, c0_6c, c0_7c, c0_8c, c0_9c, c0_10c].drop 1).take (Tryd.prog.cellsOf 9)) = [y0_5_0, y0_5_1, y0_5_2, y0_5_3, y0_5_4, y0_5_5][1]? := hg0_5 1 _ rfl
    rw [c9] at z
    exact z
  have g0_5_2 : DataW.trod enc Tryd.prog W 0 (fun _ => true) true n0_5 9 [c0_7c] = some y0_5_2 := by
    have z : DataW.trod enc Tryd.prog W 0 (fun _ => true) true n0_5 9 (([c0_5c, c0_6c, c0_7c, c0_8c, c0_9c, c0_10c].drop 2).take (Tryd.prog.cellsOf 9)) = [y0_5_0, y0_5_1, y0_5_2, y0_5_3, y0_5_4, y0_5_5][2]? := hg0_5 2 _ rfl
    rw [c9] at z
    exact z
  have g0_5_3 : DataW.trod enc Tryd.prog W 0 (fun _ => true) true n0_5 9 [c0_8c] = some y0_5_3 := by
    have z : DataW.trod enc Tryd.prog W 0 (fun _ => true) true n0_5 9 (([c0_5c, c0_6c, c0_7c, c0_8c, c0_9c, c0_10c].drop 3).take (Tryd.prog.cellsOf 9)) = [y0_5_0, y0_5_1, y0_5_2, y0_5_3, y0_5_4, y0_5_5][3]? := hg0_5 3 _ rfl
    rw [c9] at z
    exact z
  have g0_5_4 : DataW.trod enc Tryd.prog W 0 (fun _ => true) true n0_5 9 [c0_9c] = some y0_5_4 := by
    have z : DataW.trod enc Tryd.prog W 0 (fun _ => true) true n0_5 9 (([c0_5c, c0_6c, c0_7c, c0_8c, c0_9c, c0_10c].drop 4).take (Tryd.prog.cellsOf 9)) = [y0_5_0, y0_5_1, y0_5_2, y0_5_3, y0_5_4, y0_5_5][4]? := hg0_5 4 _ rfl
    rw [c9] at z
    exact z
  have g0_5_5 : DataW.trod enc Tryd.prog W 0 (fun _ => true) true n0_5 3 [c0_10c] = some y0_5_5 := by
    have z : DataW.trod enc Tryd.prog W 0 (fun _ => true) true n0_5 3 (([c0_5c, c0_6c, c0_7c, c0_8c, c0_9c, c0_10c].drop 5).take (Tryd.prog.cellsOf 3)) = [y0_5_0, y0_5_1, y0_5_2, y0_5_3, y0_5_4, y0_5_5][5]? := hg0_5 5 _ rfl
    rw [c3] at z
    exact z
  obtain ⟨a0_5_0, e0_5_0, q0_5_0, w0_5_0⟩ := DataW.trod_int Tryd.underlying3 g0_5_0
  simp only [List.cons.injEq, and_true] at e0_5_0
  subst e0_5_0
  obtain ⟨a0_5_1, e0_5_1, q0_5_1, w0_5_1⟩ := DataW.trod_string Tryd.underlying9 g0_5_1
  simp only [List.cons.injEq, and_true] at e0_5_1
  subst e0_5_1
  have b0_5_1 := OpenRow.str_bulk q0_5_1
  obtain ⟨a0_5_2, e0_5_2, q0_5_2, w0_5_2⟩ := DataW.trod_string Tryd.underlying9 g0_5_2
  simp only [List.cons.injEq, and_true] at e0_5_2
  subst e0_5_2
  have b0_5_2 := OpenRow.str_bulk q0_5_2
  obtain ⟨a0_5_3, e0_5_3, q0_5_3, w0_5_3⟩ := DataW.trod_string Tryd.underlying9 g0_5_3
  simp only [List.cons.injEq, and_true] at e0_5_3
  subst e0_5_3
  have b0_5_3 := OpenRow.str_bulk q0_5_3
  obtain ⟨a0_5_4, e0_5_4, q0_5_4, w0_5_4⟩ := DataW.trod_string Tryd.underlying9 g0_5_4
  simp only [List.cons.injEq, and_true] at e0_5_4
  subst e0_5_4
  have b0_5_4 := OpenRow.str_bulk q0_5_4
  obtain ⟨a0_5_5, e0_5_5, q0_5_5, w0_5_5⟩ := DataW.trod_int Tryd.underlying3 g0_5_5
  simp only [List.cons.injEq, and_true] at e0_5_5
  subst e0_5_5
  have h1k := h1
  obtain ⟨a1, rfl, rfl, rfl, y1⟩ := open_string Tryd.underlying9 (hval 1 9 v1 rfl rfl) h1
  have b1 := OpenRow.str_bulk0 (H := H) a1
  clear hA0 hval0
  have hlt0 : ∀ x ∈ p0, x.block < W.heap.size := by
    obtain ⟨m0, hm0⟩ := h0k
    exact DataW.trod_lt m0 _ _ _ hm0
  obtain ⟨k, hk⟩ := Enc.Reqs a0_0 a0_1 a0_2 a0_3 a0_4 a0_5_0 a0_5_1 a0_5_2 a0_5_3 a0_5_4 a0_5_5 a1 
  refine (QWi.stanchionlaw16_WireReqs.calls k a0_0 a0_1 a0_2 a0_3 a0_4 a0_5_0 a0_5_1 a0_5_2 a0_5_3 a0_5_4 a0_5_5 a1 true W  hk rfl (Laid.handle_of_laid hL)).mono fun e W' ⟨he, bel⟩ => ?_
  subst he
  exact ⟨_, rfl, _, _, _, [], _, [], hW', trodAll_mk1 (shut_bool Tryd.underlying4 _), (trodAll_cons_mk (Below.trod laidOut (by kernel_rfl) (of_decide_eq_true (by kernel_rfl)) h0k bel hlt0) (trodAll_cons_mk (shut_string Tryd.underlying9 y1) trodAll_mk0)), rfl, bel.frame _, fun h => by cases h⟩
theorem reads (os : Os) {H : Type} (enc : TypeId × Value → H) : ∃ places, DataW.whole enc Tryd.prog ((Laid.world os).forCall (fun _ _ => 0) ⟨#[], #[.agg #[.int .i64 0, .int .i64 0, .int .i64 0, .int .i64 0, .string ByteArray.empty, .int .i64 0, .string ByteArray.empty, .string ByteArray.empty, .string ByteArray.empty, .string ByteArray.empty, .int .i64 0], .string ByteArray.empty], []⟩).memory Tryd.f3.params.toList Rows.wireReqsSpec.vars false (#[.agg #[.int .i64 0, .int .i64 0, .int .i64 0, .int .i64 0, .string ByteArray.empty, .int .i64 0, .string ByteArray.empty, .string ByteArray.empty, .string ByteArray.empty, .string ByteArray.empty, .int .i64 0], .string ByteArray.empty] : Array Value).toList 8 = some ([.agg [.lit (.int .i64 0), .lit (.int .i64 0), .lit (.int .i64 0), .lit (.int .i64 0), .lit (.string []), .agg [.lit (.int .i64 0), .lit (.string []), .lit (.string []), .lit (.string []), .lit (.string []), .lit (.int .i64 0)]], .lit (.string [])], [], places) :=
  ⟨[], by kernel_rfl⟩
set_option maxRecDepth 100000 in
theorem lifted (os : Os) (started : os.Started) (H : Type) (enc : TypeId × Value → H) (F : Stop.Interp) :
    ReturnsInHanded {} Tryd.checked os 3 .any ((OpenSpec.ofChange Rows.wireReqsSpec).preRow enc Tryd.prog Tryd.f3 Rows.wireReqsRow.domain false Rows.wireReqsRow.laid) (((OpenSpec.ofChange Rows.wireReqsSpec).at F).post enc Tryd.prog Tryd.f3 false true false false) := by
  obtain ⟨places, hx⟩ := reads os enc
  refine returnsInHanded_of_row (C := Tryd.checked) (s := OpenSpec.ofChange Rows.wireReqsSpec) own started (by kernel_rfl) Tryd.func3
    (witness_row_at (enc := enc) (C := Tryd.checked) false (Laid.world os) #[.agg #[.int .i64 0, .int .i64 0, .int .i64 0, .int .i64 0, .string ByteArray.empty, .int .i64 0, .string ByteArray.empty, .string ByteArray.empty, .string ByteArray.empty, .string ByteArray.empty, .int .i64 0], .string ByteArray.empty] rfl (by kernel_rfl) (by kernel_rfl) (by kernel_rfl)
      (OpenSpec.preRow_of_cond 8 hx (by kernel_rfl) (fun k hk => by cases hk) (by kernel_rfl) (Laid.world_met os _))) ?_
  intro W base args ds gs before hval hW _ _ _ hL _ _
  exact contract H enc W base args ds gs before hval hW hL
theorem said : Rows.WireReqsSaid :=
  OpenClaim.holds_of_cond 3 Tryd.f3 rfl rfl rfl rfl rfl rfl rfl ⟨rfl, rfl, rfl, rfl, rfl⟩ rfl rfl rfl rfl rfl (by kernel_rfl) Tryd.func3 (by kernel_rfl)
    (of_decide_eq_true (by kernel_rfl)) (by unfold Func.isWrapper; first | (rw [if_pos (by decide +kernel)]; kernel_rfl) | (rw [if_neg (by decide +kernel)]; exact ⟨rfl, rfl⟩))
    (fun os started H enc _ F => by rw [OpenClaim.pre_eq_preRow]; exact lifted os started H enc F)
theorem plain (f : FuncId) (fn : Func) (hf : Tryd.pinned.checked.prog.funcNamed "stanchion/stanchionlaw16.WireReqs" = some f) (hfn : Tryd.pinned.checked.prog.funcs[f]? = some fn) :
    true = Tryd.pinned.checked.prog.looks [] ∧ ∀ (j : Nat) t, fn.params[j]? = some t → Tryd.pinned.checked.prog.wantsStandIn t = false := by
  obtain rfl : f = 3 := Option.some.inj ((show Tryd.prog.funcNamed "stanchion/stanchionlaw16.WireReqs" = some 3 by kernel_rfl).symm.trans hf) |>.symm
  obtain rfl : fn = Tryd.f3 := (Option.some.inj (Tryd.func3.symm.trans hfn)).symm
  refine ⟨by kernel_rfl, fun j t ht => ?_⟩
  rw [Tryd.params3] at ht
  have hm := Array.mem_of_getElem? ht
  simp only [List.mem_toArray, List.mem_cons, List.not_mem_nil, or_false] at hm
  rcases hm with rfl | rfl
  · exact (show Tryd.prog.wantsStandIn 25 = false by kernel_rfl)
  · exact (show Tryd.prog.wantsStandIn 9 = false by kernel_rfl)
/-- The card. -/
theorem proved : Rows.WireReqsCardSaid :=
  Claim7.holds_tied_plain_at .later [] _ _ _ _ said (fun _ h => by cases h) (by kernel_rfl) (fun _ h => by cases h) wireReqs_row_tie rfl ⟨rfl, rfl⟩ (by kernel_rfl) rfl plain (by kernel_rfl)
#print axioms proved
end Go.Proofs.YtlpcidjmaeicoaaDoor.wireReqs
namespace Go.Proofs.YtlpcidjmaeicoaaDoor
/-- The card, under a short name, for the claim. -/
theorem wireReqs_card : Rows.WireReqsCardSaid := wireReqs.proved
end Go.Proofs.YtlpcidjmaeicoaaDoor
