/- Part of the proof of the statement WireReplies, as a card; what is proved, and on which condition, stands at the head of YtlpcidjmaeicoaaDoorPP6 (texts QWix6, Long, MayReply, TakeReply, TakeReplyC, QWix3, QWix16, RefTake) -/
import Derived.Lib.Hide
import Derived.Deep.QuietTactic
import Derived.BigQuiet
import Derived.Deep.LoopGhost
import Derived.RangeFuncRecord
import Derived.Handy
import Derived.Test.YtlpcidjmaeicoaaDoorPP2
namespace Go.Proofs.YtlpcidjmaeicoaaDoor.QWi
open Go.RowKit Go.Proofs.YtlpcidjmaeicoaaDoorW.PrintWords Go.Proofs.YtlpcidjmaeicoaaDoorW.PrintLast Go.Proofs.YtlpcidjmaeicoaaDoorW.PrintMore
attribute [local go_sem] max2_int min2_int max_two min_two max_three min_three max_four min_four
set_option linter.unusedVariables false
set_option linter.unusedSimpArgs false
def stanchionlaw16_shown.f (k : Nat)  : Option (Bool) := (wire_Req.f k 4 1 2 3 (⟨#[116]⟩ : ByteArray) 0 (⟨#[]⟩ : ByteArray) (⟨#[]⟩ : ByteArray) (⟨#[]⟩ : ByteArray) (⟨#[]⟩ : ByteArray) 0).bind fun bt129 => (if bt129.1.toList = ([52, 59, 49, 59, 50, 59, 51, 59, 49, 59, 116] : List UInt8) then (some (bt129.2 == 0)) else (some false))
set_option maxHeartbeats 8000000 in
set_option maxRecDepth 100000 in
theorem stanchionlaw16_shown.calls (k : Nat)  (r : Bool) (w : World) (h : stanchionlaw16_shown.f k  = some r) :
    Calls Tryd.prog 8 #[] w fun e w' => e = .returned (.bool r) ∧ Below w.heap.size w w' := by
  have hu25 := Tryd.underlying25
  have HB := Aside0.mk (Below.refl w.heap.size w)
  have H : ((wire_Req.f k 4 1 2 3 (⟨#[116]⟩ : ByteArray) 0 (⟨#[]⟩ : ByteArray) (⟨#[]⟩ : ByteArray) (⟨#[]⟩ : ByteArray) (⟨#[]⟩ : ByteArray) 0).bind fun bt129 => (if bt129.1.toList = ([52, 59, 49, 59, 50, 59, 51, 59, 49, 59, 116] : List UInt8) then (some (bt129.2 == 0)) else (some false))) = some r := h
  clear h
  replace H := Option.bind_eq_some_iff.mp H
  obtain ⟨⟨t129, t130⟩, A10, H⟩ := H
  replace H : (if t129.toList = ([52, 59, 49, 59, 50, 59, 51, 59, 49, 59, 116] : List UInt8) then (some (t130 == 0)) else (some false)) = some r := H
  have A1 := Aside0.mk A10
  clear A10
  by_cases c2 : t129.toList = ([52, 59, 49, 59, 50, 59, 51, 59, 49, 59, 116] : List UInt8)
  · rw [if_pos c2] at H
    have c2b0 : (t129.toList == ([52, 59, 49, 59, 50, 59, 51, 59, 49, 59, 116] : List UInt8)) = true := beq_iff_eq.mpr c2
    have c2b1 : (t129.toList != ([52, 59, 49, 59, 50, 59, 51, 59, 49, 59, 116] : List UInt8)) = false := bne_eq_false_iff_eq.mpr c2
    clear c2
    obtain rfl := Option.some.inj H
    go_enter Tryd.func8, Tryd.ntmps8
    go_wp2_with (first | ((with_reducible refine gate_callee (f := 9) rfl ?_); refine goesL_ (some 5) rfl rfl Tryd.func9 (by kernel_rfl) rfl #[.agg #[.int .i64 4, .int .i64 1, .int .i64 2, .int .i64 3, .string (⟨#[116]⟩ : ByteArray), .int .i64 0, .string (⟨#[]⟩ : ByteArray), .string (⟨#[]⟩ : ByteArray), .string (⟨#[]⟩ : ByteArray), .string (⟨#[]⟩ : ByteArray), .int .i64 0]] rfl (by (try simp only [List.map_toArray, List.map_cons, List.map_nil]); first | done | rfl | (simp only [List.length_drop, List.length_take]; rfl)) ?_; (with_reducible refine (wire_Req.calls k 4 1 2 3 (⟨#[116]⟩ : ByteArray) 0 (⟨#[]⟩ : ByteArray) (⟨#[]⟩ : ByteArray) (⟨#[]⟩ : ByteArray) (⟨#[]⟩ : ByteArray) 0 t129 t130 _ A1.out).mono ?_); rintro e w3 ⟨rfl, hb⟩; refine ⟨_, rfl, ?_⟩; have n0_ := Aside0.mk (below_step (by repeat (first | (with_reducible first | exact HB.out | apply below_alloc | apply pw_below_drewN | apply below_drew1) | exact HB.out)) hb); clear HB; have HB := n0_; clear n0_; (try clear hb); (try clear hb2); (try clear hk); (try clear hi)))
    go_ret
    exact ⟨by first | rfl | (simp [errW_none, errW_some] <;> rfl) | (simp [*, errW_none, errW_some] <;> rfl), by repeat (first | (with_reducible first | exact HB.out | apply below_alloc | apply pw_below_drewN | apply below_drew1) | exact HB.out)⟩
  · rw [if_neg c2] at H
    have c2b0 : (t129.toList == ([52, 59, 49, 59, 50, 59, 51, 59, 49, 59, 116] : List UInt8)) = false := beq_eq_false_iff_ne.mpr c2
    have c2b1 : (t129.toList != ([52, 59, 49, 59, 50, 59, 51, 59, 49, 59, 116] : List UInt8)) = true := bne_iff_ne.mpr c2
    obtain rfl := Option.some.inj H
    go_enter Tryd.func8, Tryd.ntmps8
    go_wp2_with (first | ((with_reducible refine gate_callee (f := 9) rfl ?_); refine goesL_ (some 5) rfl rfl Tryd.func9 (by kernel_rfl) rfl #[.agg #[.int .i64 4, .int .i64 1, .int .i64 2, .int .i64 3, .string (⟨#[116]⟩ : ByteArray), .int .i64 0, .string (⟨#[]⟩ : ByteArray), .string (⟨#[]⟩ : ByteArray), .string (⟨#[]⟩ : ByteArray), .string (⟨#[]⟩ : ByteArray), .int .i64 0]] rfl (by (try simp only [List.map_toArray, List.map_cons, List.map_nil]); first | done | rfl | (simp only [List.length_drop, List.length_take]; rfl)) ?_; (with_reducible refine (wire_Req.calls k 4 1 2 3 (⟨#[116]⟩ : ByteArray) 0 (⟨#[]⟩ : ByteArray) (⟨#[]⟩ : ByteArray) (⟨#[]⟩ : ByteArray) (⟨#[]⟩ : ByteArray) 0 t129 t130 _ A1.out).mono ?_); rintro e w4 ⟨rfl, hb⟩; refine ⟨_, rfl, ?_⟩; have n0_ := Aside0.mk (below_step (by repeat (first | (with_reducible first | exact HB.out | apply below_alloc | apply pw_below_drewN | apply below_drew1) | exact HB.out)) hb); clear HB; have HB := n0_; clear n0_; (try clear hb); (try clear hb2); (try clear hk); (try clear hi)))
    go_ret
    exact ⟨by first | rfl | (simp [errW_none, errW_some] <;> rfl) | (simp [*, errW_none, errW_some] <;> rfl), by repeat (first | (with_reducible first | exact HB.out | apply below_alloc | apply pw_below_drewN | apply below_drew1) | exact HB.out)⟩
def wire_flag.f (a0 : Bool) : Option (Int) := if a0 = true then (some 1) else (some 0)
set_option maxHeartbeats 8000000 in
set_option maxRecDepth 100000 in
theorem wire_flag.calls (a0 : Bool) (r : Int) (w : World) (h : wire_flag.f a0 = some r) :
    Calls Tryd.prog 33 #[.bool a0] w fun e w' => e = .returned (.int .i64 r) ∧ Drawn0 w w' := by
  have H : (if a0 = true then (some 1) else (some 0)) = some r := h
  clear h
  by_cases c2 : a0 = true
  · subst c2
    have H1 : (some 1) = some r := by rw [if_pos rfl] at H; exact H
    clear H
    have H := H1
    clear H1
    obtain rfl := Option.some.inj H
    go_enter Tryd.func33, Tryd.ntmps33
    go_wp2
    go_ret
    exact ⟨by first | rfl | (simp; done) | (simp [*]; done), by repeat (first | exact Drawn0.refl _ | apply Drawn0.step)⟩
  · replace c2 := Bool.eq_false_iff.mpr c2
    subst c2
    have H1 : (some 0) = some r := by rw [if_neg (show ¬ (false = true) by decide)] at H; exact H
    clear H
    have H := H1
    clear H1
    obtain rfl := Option.some.inj H
    go_enter Tryd.func33, Tryd.ntmps33
    go_wp2
    go_ret
    exact ⟨by first | rfl | (simp; done) | (simp [*]; done), by repeat (first | exact Drawn0.refl _ | apply Drawn0.step)⟩
def table_Right.l0 : Nat → List (S74) → Int → Option (Bool)
  | 0, _, _ => none
  | k + 1, x0, x3 => if x3 < (x0.length : Int) then (if 0 ≤ (wrap64 (x3 - 1)) then (if (wrap64 (x3 - 1)) < (x0.length : Int) then (if 0 ≤ x3 then (if ((Op.bytesLess (((rd_T74 x0 (wrap64 (x3 - 1))).f0).toList) (((rd_T74 x0 x3).f0).toList)) = true) then (table_Right.l0 k x0 (wrap64 (x3 + 1))) else (some false)) else (none)) else (none)) else (none)) else (some true)
def table_Right.f (k : Nat) (l0 : List (S74)) : Option (Bool) := table_Right.l0 k l0 1
set_option maxHeartbeats 8000000 in
set_option maxRecDepth 100000 in
theorem table_Right.calls (k : Nat) (A0 : Option Addr) (c0 : Nat) (l0 : List (S74)) (r : Bool) (w : World) (hr0 : Kd.C k74 w A0 l0.length l0) (hc0 : l0.length ≤ c0) (h : table_Right.f k l0 = some r) :
    Calls Tryd.prog 52 #[.slice A0 l0.length c0] w fun e w' => e = .returned (.bool r) ∧ Drawn0 w w' := by
  have HR0 := Aside0.mk hr0
  have HC0 := Aside0.mk hc0
  clear hr0 hc0
  have H : (table_Right.l0 k l0 1) = some r := h
  clear h
  have H' := Aside0.mk H
  clear H
  go_enter Tryd.func52, Tryd.ntmps52
  go_wp2
  repeat (go_quiet (fail); try go_wp2)
  go_loopg [3] k (fun kq v3 w' => ∃ (x3_1 : Int), v3 = .int .i64 x3_1 ∧ Aside0 (table_Right.l0 kq l0 x3_1 = some r) ∧ Aside0 (kq ≤ k) ∧ Drawn0 w w')
  case atStart => exact ⟨(1), (by first | rfl | (simp; done) | (simp [*]; done)), H', ⟨Nat.le_refl _⟩, by repeat (first | exact Drawn0.refl _ | apply Drawn0.step)⟩
  case round =>
    clear H'
    obtain ⟨x3_1, rfl, HA, HK1, ⟨m1, rfl⟩⟩ := hrel
    cases gk with
    | zero => exact absurd HA.out (by simp [table_Right.l0])
    | succ k1 =>
      have H := HA.out
      clear HA
      simp only [table_Right.l0] at H
      by_cases c2 : x3_1 < (l0.length : Int)
      · rw [if_pos c2] at H
        have c2b0 : decide (x3_1 < (l0.length : Int)) = true := decide_eq_true c2
        clear c2
        obtain ⟨ji3, hji3⟩ : ∃ j_ : Int, (wrap64 (x3_1 - 1)) = j_ := ⟨_, rfl⟩
        replace H : (if 0 ≤ (ji3) then (if (ji3) < (l0.length : Int) then (if 0 ≤ x3_1 then (if ((Op.bytesLess (((rd_T74 l0 (ji3)).f0).toList) (((rd_T74 l0 x3_1).f0).toList)) = true) then (table_Right.l0 k1 l0 (wrap64 (x3_1 + 1))) else (some false)) else (none)) else (none)) else (none)) = some r := by first | (rw [hji3] at H; exact H) | (simp only [hji3] at H ⊢; exact H)
        have hji3w : (IntKind.i64.wrap (x3_1 - 1)) = ji3 := (i64_w _).trans hji3
        by_cases c4 : 0 ≤ (ji3)
        · rw [if_pos c4] at H
          have c4b0 : decide (0 ≤ (ji3)) = true := decide_eq_true c4
          clear c4
          by_cases c5 : (ji3) < (l0.length : Int)
          · rw [if_pos c5] at H
            have c5b0 : decide ((ji3) < (l0.length : Int)) = true := decide_eq_true c5
            clear c5
            by_cases c6 : 0 ≤ x3_1
            · rw [if_pos c6] at H
              have c6b0 : decide (0 ≤ x3_1) = true := decide_eq_true c6
              clear c6
              by_cases c7 : ((Op.bytesLess (((rd_T74 l0 (ji3)).f0).toList) (((rd_T74 l0 x3_1).f0).toList)) = true)
              · rw [if_pos c7] at H
                have c7b0 : (Op.bytesLess (((rd_T74 l0 (ji3)).f0).toList) (((rd_T74 l0 x3_1).f0).toList)) = true := c7
                clear c7
                have H' := Aside0.mk H
                clear H
                have p131 : 0 ≤ ((ji3) : Int) := of_decide_eq_true (by first | (with_reducible assumption) | assumption)
                have q131 : (ji3) < (l0.length : Int) := of_decide_eq_true (by first | (with_reducible assumption) | assumption)
                obtain ⟨ad131, e131, hx131_0, hx131_1⟩ := at_T74 HR0.out (ji3) p131 q131
                cases e131
                replace p131 := eq_true p131
                replace q131 := eq_true q131
                have p132 : 0 ≤ (x3_1 : Int) := of_decide_eq_true (by first | (with_reducible assumption) | assumption)
                have q132 : x3_1 < (l0.length : Int) := of_decide_eq_true (by first | (with_reducible assumption) | assumption)
                obtain ⟨ad132, e132, hx132_0, hx132_1⟩ := at_T74 HR0.out x3_1 p132 q132
                obtain rfl : ad131 = ad132 := (by injection e132)
                replace p132 := eq_true p132
                replace q132 := eq_true q132
                go_wp2
                repeat (go_quiet (fail); try go_wp2)
                go_roundg k1
                case measure => have := HK1.out; omega
                case rel => exact ⟨(wrap64 (x3_1 + 1)), (by first | rfl | (simp; done) | (simp [*]; done)), H', ⟨by have := HK1.out; omega⟩, by repeat (first | exact Drawn0.refl _ | apply Drawn0.step)⟩
              · rw [if_neg c7] at H
                have c7b0 : (Op.bytesLess (((rd_T74 l0 (ji3)).f0).toList) (((rd_T74 l0 x3_1).f0).toList)) = false := by simpa using c7
                clear c7
                obtain rfl := Option.some.inj H
                have p131 : 0 ≤ ((ji3) : Int) := of_decide_eq_true (by first | (with_reducible assumption) | assumption)
                have q131 : (ji3) < (l0.length : Int) := of_decide_eq_true (by first | (with_reducible assumption) | assumption)
                obtain ⟨ad131, e131, hx131_0, hx131_1⟩ := at_T74 HR0.out (ji3) p131 q131
                cases e131
                replace p131 := eq_true p131
                replace q131 := eq_true q131
                have p132 : 0 ≤ (x3_1 : Int) := of_decide_eq_true (by first | (with_reducible assumption) | assumption)
                have q132 : x3_1 < (l0.length : Int) := of_decide_eq_true (by first | (with_reducible assumption) | assumption)
                obtain ⟨ad132, e132, hx132_0, hx132_1⟩ := at_T74 HR0.out x3_1 p132 q132
                obtain rfl : ad131 = ad132 := (by injection e132)
                replace p132 := eq_true p132
                replace q132 := eq_true q132
                go_wp2
                repeat (go_quiet (fail); try go_wp2)
                go_ret
                exact ⟨by first | rfl | (simp; done) | (simp only [← hji3] <;> (first | rfl | simp)) | (simp [*]; done), by repeat (first | exact Drawn0.refl _ | apply Drawn0.step)⟩
            · rw [if_neg c6] at H
              exact absurd H (by simp)
          · rw [if_neg c5] at H
            exact absurd H (by simp)
        · rw [if_neg c4] at H
          exact absurd H (by simp)
      · rw [if_neg c2] at H
        have c2b0 : decide (x3_1 < (l0.length : Int)) = false := decide_eq_false c2
        clear c2
        obtain rfl := Option.some.inj H
        go_wp2
        repeat (go_quiet (fail); try go_wp2)
        go_ret
        exact ⟨by first | rfl | (simp; done) | (simp [*]; done), by repeat (first | exact Drawn0.refl _ | apply Drawn0.step)⟩
end Go.Proofs.YtlpcidjmaeicoaaDoor.QWi
namespace Go.Proofs.YtlpcidjmaeicoaaDoor.QWi
open Go Go.RowKit Go.Proofs.YtlpcidjmaeicoaaDoorW.PrintWords Go.Proofs.YtlpcidjmaeicoaaDoorW.PrintLast Go.Proofs.YtlpcidjmaeicoaaDoorW.PrintMore
def longP (x : S74) : Bool := decide (32 < x.f0.size) || decide (64 < x.f1.size)
theorem rd_pair (l : List S74) (i : Nat) (hi : i < l.length) : rd_T74 l (i : Int) = l[i] := by
  unfold rd_T74
  simp [List.getElem?_eq_getElem hi]
set_option maxHeartbeats 1000000 in
theorem long_yes (x : S74) (w : World) (h : longP x = true) : Calls Tryd.prog 51 #[.agg #[.string x.f0, .string x.f1]] w fun e w' => e = .returned (.bool true) ∧ Below w.heap.size w w' := by
  unfold longP at h
  obtain ⟨a, b⟩ := x
  simp only at h ⊢
  by_cases h1 : (32 : Int) < a.size
  · clear h
    go_enter Tryd.func51, Tryd.ntmps51
    go_wp2
    go_ret
    exact ⟨rfl, (Below.refl _ _).alloc (Nat.le_refl _) _⟩
  · have h2 : (64 : Int) < b.size := by simp at h; omega
    clear h
    go_enter Tryd.func51, Tryd.ntmps51
    go_wp2
    go_ret
    exact ⟨rfl, (Below.refl _ _).alloc (Nat.le_refl _) _⟩
set_option maxHeartbeats 1000000 in
theorem long_no (x : S74) (w : World) (h : longP x = false) : Calls Tryd.prog 51 #[.agg #[.string x.f0, .string x.f1]] w fun e w' => e = .returned (.bool false) ∧ Below w.heap.size w w' := by
  unfold longP at h
  obtain ⟨a, b⟩ := x
  simp only at h ⊢
  have h1 : ¬ (32 : Int) < a.size := by simp at h; omega
  have h2 : ¬ (64 : Int) < b.size := by simp at h; omega
  clear h
  go_enter Tryd.func51, Tryd.ntmps51
  go_wp2
  go_ret
  exact ⟨rfl, (Below.refl _ _).alloc (Nat.le_refl _) _⟩
def Found (l : List S74) (w : World) (e : Ending) (w' : World) : Prop := ∃ z : Int, e = .returned (.int .i64 z) ∧ -1 ≤ z ∧ z ≤ 4611686018427387904 ∧ decide (0 ≤ z) = l.any longP ∧ Below w.heap.size w w'
set_option maxHeartbeats 2000000 in
theorem index_calls (A0 : Option Addr) (c0 : Nat) (l0 : List S74) (w : World) (hr0 : Kd.C k74 w A0 l0.length l0) (hc0 : l0.length ≤ c0) (hl : l0.length ≤ 1048576) :
    Calls Tryd.prog 63 #[.slice A0 l0.length c0, .func (.func 51) #[] #[]] w (Found l0 w) := by
  have HF : Hid (∀ (z : Int) (w' : World), -1 ≤ z → z ≤ 4611686018427387904 → decide (0 ≤ z) = l0.any longP → Below w.heap.size w w' → Found l0 w (.returned (.int .i64 z)) w') := Lib.hid fun z w' h1 h2 h3 h4 => ⟨z, rfl, h1, h2, h3, h4⟩
  have HR := Lib.hid hr0
  have HC := Lib.hid hc0
  have HL := Lib.hid hl
  have b0' : Aside0 (Below w.heap.size w w) := ⟨Below.refl _ _⟩
  clear hr0 hc0 hl
  go_enter Tryd.func63, Tryd.ntmps63
  go_wp2
  go_loopg [8] l0.length (fun kq v8 w' => ∃ i : Nat, v8 = .int .i64 i ∧ Aside0 (kq + i = l0.length) ∧ Aside0 (∀ j (h : j < l0.length), j < i → longP l0[j] = false) ∧ Aside0 (Below w.heap.size w w'))
  case atStart => exact ⟨0, rfl, ⟨by omega⟩, ⟨fun j _ h => absurd h (Nat.not_lt_zero j)⟩, b0'⟩
  case round =>
    obtain ⟨i, rfl, HK, HN, HW⟩ := hrel
    clear b0'
    by_cases hi : i < l0.length
    · have c0b : decide ((i : Int) < (l0.length : Int)) = true := decide_eq_true (by omega)
      obtain ⟨ad, e1, hx0, hx1⟩ := at_T74 (Kd.C_below HR.out HW.out) (i : Int) (by omega) (by omega)
      cases e1
      rw [rd_pair l0 i hi, Int.toNat_natCast] at hx0 hx1
      have hp : ((0 : Int) ≤ (i : Int)) = True := eq_true (by omega)
      have hq : ((i : Int) < (l0.length : Int)) = True := eq_true (by omega)
      have hi40 : (i : Int) ≤ 1048576 := by have := HL.out; omega
      by_cases hlg : longP l0[i] = true
      · have HY := Lib.hid fun w => long_yes l0[i] w hlg
        have HZ := Lib.hid (show decide ((0 : Int) ≤ (i : Int)) = l0.any longP by rw [decide_eq_true (by omega)]; exact (List.any_eq_true.2 ⟨_, List.getElem_mem hi, hlg⟩).symm)
        clear hlg
        generalize l0[i] = x at hx0 hx1 HY
        go_wp2_with (go_at_call 51; refine (HY.out _).mono ?_)
        rintro e w3 ⟨rfl, b3⟩
        have HB3 := Lib.hid b3
        clear b3
        go_wp2
        go_ret
        exact HF.out _ _ (by omega) (by omega) HZ.out (HW.out.trans (HB3.out.mono HW.out.size))
      · have hlg := Bool.eq_false_iff.mpr hlg
        have HY := Lib.hid fun w => long_no l0[i] w hlg
        have HN' : Aside0 (∀ j (h : j < l0.length), j < i + 1 → longP l0[j] = false) := ⟨fun j h hj => by
          by_cases e : j = i
          · subst e
            exact hlg
          · exact HN.out j h (by omega)⟩
        clear hlg
        generalize l0[i] = x at hx0 hx1 HY
        go_wp2_with (go_at_call 51; refine (HY.out _).mono ?_)
        rintro e w3 ⟨rfl, b3⟩
        have b3' : Aside0 (Below w.heap.size w w3) := ⟨HW.out.trans (b3.mono HW.out.size)⟩
        clear b3
        go_wp2
        go_roundg (gk - 1)
        case measure => have := HK.out; omega
        case rel => exact ⟨i + 1, by go_num, ⟨by have := HK.out; omega⟩, HN', b3'⟩
    · have c0b : decide ((i : Int) < (l0.length : Int)) = false := decide_eq_false (by omega)
      have e : i = l0.length := by have := HK.out; omega
      have HZ := Lib.hid (show decide ((0 : Int) ≤ -1) = l0.any longP by
        have h : l0.any longP = false := by
          rw [List.any_eq_false]
          intro x hx
          obtain ⟨j, hj, rfl⟩ := List.getElem_of_mem hx
          rw [HN.out j hj (by omega)]
          decide
        rw [h]
        rfl)
      clear e
      go_wp2
      go_ret
      exact HF.out _ _ (by omega) (by omega) HZ.out HW.out
set_option maxHeartbeats 1000000 in
theorem contains_yes (A0 : Option Addr) (c0 : Nat) (l0 : List S74) (w : World) (hr0 : Kd.C k74 w A0 l0.length l0) (hc0 : l0.length ≤ c0) (hl : l0.length ≤ 1048576) (hm : l0.any longP = true) :
    Calls Tryd.prog 53 #[.slice A0 l0.length c0, .func (.func 51) #[] #[]] w fun e w' => e = .returned (.bool true) ∧ Below w.heap.size w w' := by
  have HI := Lib.hid (index_calls A0 c0 l0 w hr0 hc0 hl)
  have HM := Lib.hid hm
  clear hr0 hc0 hl hm
  go_enter Tryd.func53, Tryd.ntmps53
  go_wp2_with fail
  refine HI.out.mono ?_
  rintro e w1 ⟨z, rfl, h1, h2, h3, h4⟩
  have HB := Lib.hid h4
  have hz : (0 : Int) ≤ z := by
    rw [HM.out] at h3
    simpa using h3
  clear h3 h4
  go_wp2
  go_ret
  exact ⟨rfl, HB.out⟩
set_option maxHeartbeats 1000000 in
theorem contains_no (A0 : Option Addr) (c0 : Nat) (l0 : List S74) (w : World) (hr0 : Kd.C k74 w A0 l0.length l0) (hc0 : l0.length ≤ c0) (hl : l0.length ≤ 1048576) (hm : l0.any longP = false) :
    Calls Tryd.prog 53 #[.slice A0 l0.length c0, .func (.func 51) #[] #[]] w fun e w' => e = .returned (.bool false) ∧ Below w.heap.size w w' := by
  have HI := Lib.hid (index_calls A0 c0 l0 w hr0 hc0 hl)
  have HM := Lib.hid hm
  clear hr0 hc0 hl hm
  go_enter Tryd.func53, Tryd.ntmps53
  go_wp2_with fail
  refine HI.out.mono ?_
  rintro e w1 ⟨z, rfl, h1, h2, h3, h4⟩
  have HB := Lib.hid h4
  have hz : z < (0 : Int) := by
    rw [HM.out] at h3
    simpa using h3
  have hzb : decide ((0 : Int) ≤ z) = false := decide_eq_false (by omega)
  clear h3 h4
  go_wp2
  go_ret
  exact ⟨rfl, HB.out⟩
end Go.Proofs.YtlpcidjmaeicoaaDoor.QWi
namespace Go.Proofs.YtlpcidjmaeicoaaDoor.QWi
open Go Go.RowKit Go.Proofs.YtlpcidjmaeicoaaDoorW.PrintWords Go.Proofs.YtlpcidjmaeicoaaDoorW.PrintLast Go.Proofs.YtlpcidjmaeicoaaDoorW.PrintMore
def numB (x : Int) : Bool := decide (0 ≤ x) && decide (x ≤ 1073741824)
theorem num_f (x : Int) : wire_num.f x = some (numB x) := by
  unfold wire_num.f numB
  by_cases h : x ≥ 0
  · rw [if_pos h, decide_eq_true (show 0 ≤ x from h), Bool.true_and]
  · rw [if_neg h, decide_eq_false (show ¬ 0 ≤ x from h), Bool.false_and]
theorem num_is (x : Int) (b : Bool) (h : numB x = b) (w : World) : Calls Tryd.prog 30 #[.int .i64 x] w fun e w' => e = .returned (.bool b) ∧ Below w.heap.size w w' := by
  refine (wire_num.calls x b w (by rw [num_f, h])).mono ?_
  rintro e w' ⟨rfl, nd, rfl⟩
  exact ⟨rfl, ⟨rfl, rfl, rfl, Nat.le_refl _, fun _ _ => rfl⟩⟩
theorem right_is (A0 : Option Addr) (c0 : Nat) (l0 : List S74) (k : Nat) (b : Bool) (h : table_Right.f k l0 = some b) (w : World) (hr0 : Kd.C k74 w A0 l0.length l0) (hc0 : l0.length ≤ c0) :
    Calls Tryd.prog 52 #[.slice A0 l0.length c0] w fun e w' => e = .returned (.bool b) ∧ Below w.heap.size w w' := by
  refine (table_Right.calls k A0 c0 l0 b w hr0 hc0 h).mono ?_
  rintro e w' ⟨rfl, nd, rfl⟩
  exact ⟨rfl, ⟨rfl, rfl, rfl, Nat.le_refl _, fun _ _ => rfl⟩⟩
theorem contains_is (A0 : Option Addr) (c0 : Nat) (l0 : List S74) (b : Bool) (w : World) (hr0 : Kd.C k74 w A0 l0.length l0) (hc0 : l0.length ≤ c0) (hl : l0.length ≤ 1048576) (hm : l0.any longP = b) :
    Calls Tryd.prog 53 #[.slice A0 l0.length c0, .func (.func 51) #[] #[]] w fun e w' => e = .returned (.bool b) ∧ Below w.heap.size w w' := by
  cases b with
  | true => exact contains_yes A0 c0 l0 w hr0 hc0 hl hm
  | false => exact contains_no A0 c0 l0 w hr0 hc0 hl hm
theorem cell_in {w : World} {b : Nat} {cs : Array Value} {T : TypeId} {fr : Nat × Nat} (hb : w.heap[b]? = some (.cells cs T fr)) (j : Nat) (v : Value) (h : cs[j]? = some v) : w.cell? ⟨b, j, none⟩ = some v := by
  rw [← h]
  simp [World.cell?, hb]
set_option maxRecDepth 100000 in
set_option maxHeartbeats 4000000 in
theorem may_0 (a0 a1 a2 a3 : Int) (a4 : ByteArray) (a5 : Bool) (A6 : Option Addr) (c6 : Nat) (l6 : List S74) (a7 : Bool) (w : World) (hr : Kd.C k74 w A6 l6.length l6) (hc : l6.length ≤ c6) (q0 : numB a0 = false) :
    Calls Tryd.prog 32 #[.agg #[.int .i64 a0, .int .i64 a1, .int .i64 a2, .int .i64 a3, .string a4, .bool a5, .slice A6 l6.length c6, .bool a7]] w fun e w' => e = .returned (.bool false) ∧ Below w.heap.size w w' := by
  have HR := Lib.hid hr
  have HC := Lib.hid hc
  have HB := Lib.hid ((Below.refl w.heap.size w).alloc (Nat.le_refl _) (.cells #[.int .i64 a0, .int .i64 a1, .int .i64 a2, .int .i64 a3, .string a4, .bool a5, .slice A6 l6.length c6, .bool a7] 41))
  clear hr hc
  have N0 := Lib.hid (num_is a0 _ q0)
  clear q0
  go_enter Tryd.func32, Tryd.ntmps32
  have HK : Hid ((w.alloc (.cells #[.int .i64 a0, .int .i64 a1, .int .i64 a2, .int .i64 a3, .string a4, .bool a5, .slice A6 l6.length c6, .bool a7] 41)).heap[w.heap.size]? = some (.cells #[.int .i64 a0, .int .i64 a1, .int .i64 a2, .int .i64 a3, .string a4, .bool a5, .slice A6 l6.length c6, .bool a7] 41 (0, 0))) := Lib.hid (World.alloc_heap_new w _)
  go_wp2_with fail
  refine (N0.out _).mono ?_
  rintro e v0 ⟨rfl, b0⟩
  have K0 := Lib.hid ((b0.block w.heap.size (Array.getElem?_eq_some_iff.1 HK.out).1).trans HK.out)
  have B0 := Lib.hid (HB.out.trans (b0.mono HB.out.size))
  have d0_0 := cell_in K0.out 0 _ rfl
  have d0_1 := cell_in K0.out 1 _ rfl
  have d0_2 := cell_in K0.out 2 _ rfl
  have d0_3 := cell_in K0.out 3 _ rfl
  have d0_4 := cell_in K0.out 4 _ rfl
  have d0_5 := cell_in K0.out 5 _ rfl
  have d0_6 := cell_in K0.out 6 _ rfl
  have d0_7 := cell_in K0.out 7 _ rfl
  clear b0
  go_wp2
  go_ret
  exact ⟨rfl, B0.out⟩
set_option maxRecDepth 100000 in
set_option maxHeartbeats 4000000 in
theorem may_1 (a0 a1 a2 a3 : Int) (a4 : ByteArray) (a5 : Bool) (A6 : Option Addr) (c6 : Nat) (l6 : List S74) (a7 : Bool) (w : World) (hr : Kd.C k74 w A6 l6.length l6) (hc : l6.length ≤ c6) (q0 : numB a0 = true) (q1 : numB a1 = false) :
    Calls Tryd.prog 32 #[.agg #[.int .i64 a0, .int .i64 a1, .int .i64 a2, .int .i64 a3, .string a4, .bool a5, .slice A6 l6.length c6, .bool a7]] w fun e w' => e = .returned (.bool false) ∧ Below w.heap.size w w' := by
  have HR := Lib.hid hr
  have HC := Lib.hid hc
  have HB := Lib.hid ((Below.refl w.heap.size w).alloc (Nat.le_refl _) (.cells #[.int .i64 a0, .int .i64 a1, .int .i64 a2, .int .i64 a3, .string a4, .bool a5, .slice A6 l6.length c6, .bool a7] 41))
  clear hr hc
  have N0 := Lib.hid (num_is a0 _ q0)
  have N1 := Lib.hid (num_is a1 _ q1)
  clear q0 q1
  go_enter Tryd.func32, Tryd.ntmps32
  have HK : Hid ((w.alloc (.cells #[.int .i64 a0, .int .i64 a1, .int .i64 a2, .int .i64 a3, .string a4, .bool a5, .slice A6 l6.length c6, .bool a7] 41)).heap[w.heap.size]? = some (.cells #[.int .i64 a0, .int .i64 a1, .int .i64 a2, .int .i64 a3, .string a4, .bool a5, .slice A6 l6.length c6, .bool a7] 41 (0, 0))) := Lib.hid (World.alloc_heap_new w _)
  go_wp2_with fail
  refine (N0.out _).mono ?_
  rintro e v0 ⟨rfl, b0⟩
  have K0 := Lib.hid ((b0.block w.heap.size (Array.getElem?_eq_some_iff.1 HK.out).1).trans HK.out)
  have B0 := Lib.hid (HB.out.trans (b0.mono HB.out.size))
  have d0_0 := cell_in K0.out 0 _ rfl
  have d0_1 := cell_in K0.out 1 _ rfl
  have d0_2 := cell_in K0.out 2 _ rfl
  have d0_3 := cell_in K0.out 3 _ rfl
  have d0_4 := cell_in K0.out 4 _ rfl
  have d0_5 := cell_in K0.out 5 _ rfl
  have d0_6 := cell_in K0.out 6 _ rfl
  have d0_7 := cell_in K0.out 7 _ rfl
  clear b0
  go_wp2_with fail
  refine (N1.out _).mono ?_
  rintro e v1 ⟨rfl, b1⟩
  have K1 := Lib.hid ((b1.block w.heap.size (Array.getElem?_eq_some_iff.1 K0.out).1).trans K0.out)
  have B1 := Lib.hid (B0.out.trans (b1.mono B0.out.size))
  have d1_0 := cell_in K1.out 0 _ rfl
  have d1_1 := cell_in K1.out 1 _ rfl
  have d1_2 := cell_in K1.out 2 _ rfl
  have d1_3 := cell_in K1.out 3 _ rfl
  have d1_4 := cell_in K1.out 4 _ rfl
  have d1_5 := cell_in K1.out 5 _ rfl
  have d1_6 := cell_in K1.out 6 _ rfl
  have d1_7 := cell_in K1.out 7 _ rfl
  clear b1 d0_0 d0_1 d0_2 d0_3 d0_4 d0_5 d0_6 d0_7
  go_wp2
  go_ret
  exact ⟨rfl, B1.out⟩
set_option maxRecDepth 100000 in
set_option maxHeartbeats 4000000 in
theorem may_2 (a0 a1 a2 a3 : Int) (a4 : ByteArray) (a5 : Bool) (A6 : Option Addr) (c6 : Nat) (l6 : List S74) (a7 : Bool) (w : World) (hr : Kd.C k74 w A6 l6.length l6) (hc : l6.length ≤ c6) (q0 : numB a0 = true) (q1 : numB a1 = true) (q2 : numB a2 = false) :
    Calls Tryd.prog 32 #[.agg #[.int .i64 a0, .int .i64 a1, .int .i64 a2, .int .i64 a3, .string a4, .bool a5, .slice A6 l6.length c6, .bool a7]] w fun e w' => e = .returned (.bool false) ∧ Below w.heap.size w w' := by
  have HR := Lib.hid hr
  have HC := Lib.hid hc
  have HB := Lib.hid ((Below.refl w.heap.size w).alloc (Nat.le_refl _) (.cells #[.int .i64 a0, .int .i64 a1, .int .i64 a2, .int .i64 a3, .string a4, .bool a5, .slice A6 l6.length c6, .bool a7] 41))
  clear hr hc
  have N0 := Lib.hid (num_is a0 _ q0)
  have N1 := Lib.hid (num_is a1 _ q1)
  have N2 := Lib.hid (num_is a2 _ q2)
  clear q0 q1 q2
  go_enter Tryd.func32, Tryd.ntmps32
  have HK : Hid ((w.alloc (.cells #[.int .i64 a0, .int .i64 a1, .int .i64 a2, .int .i64 a3, .string a4, .bool a5, .slice A6 l6.length c6, .bool a7] 41)).heap[w.heap.size]? = some (.cells #[.int .i64 a0, .int .i64 a1, .int .i64 a2, .int .i64 a3, .string a4, .bool a5, .slice A6 l6.length c6, .bool a7] 41 (0, 0))) := Lib.hid (World.alloc_heap_new w _)
  go_wp2_with fail
  refine (N0.out _).mono ?_
  rintro e v0 ⟨rfl, b0⟩
  have K0 := Lib.hid ((b0.block w.heap.size (Array.getElem?_eq_some_iff.1 HK.out).1).trans HK.out)
  have B0 := Lib.hid (HB.out.trans (b0.mono HB.out.size))
  have d0_0 := cell_in K0.out 0 _ rfl
  have d0_1 := cell_in K0.out 1 _ rfl
  have d0_2 := cell_in K0.out 2 _ rfl
  have d0_3 := cell_in K0.out 3 _ rfl
  have d0_4 := cell_in K0.out 4 _ rfl
  have d0_5 := cell_in K0.out 5 _ rfl
  have d0_6 := cell_in K0.out 6 _ rfl
  have d0_7 := cell_in K0.out 7 _ rfl
  clear b0
  go_wp2_with fail
  refine (N1.out _).mono ?_
  rintro e v1 ⟨rfl, b1⟩
  have K1 := Lib.hid ((b1.block w.heap.size (Array.getElem?_eq_some_iff.1 K0.out).1).trans K0.out)
  have B1 := Lib.hid (B0.out.trans (b1.mono B0.out.size))
  have d1_0 := cell_in K1.out 0 _ rfl
  have d1_1 := cell_in K1.out 1 _ rfl
  have d1_2 := cell_in K1.out 2 _ rfl
  have d1_3 := cell_in K1.out 3 _ rfl
  have d1_4 := cell_in K1.out 4 _ rfl
  have d1_5 := cell_in K1.out 5 _ rfl
  have d1_6 := cell_in K1.out 6 _ rfl
  have d1_7 := cell_in K1.out 7 _ rfl
  clear b1 d0_0 d0_1 d0_2 d0_3 d0_4 d0_5 d0_6 d0_7
  go_wp2_with fail
  refine (N2.out _).mono ?_
  rintro e v2 ⟨rfl, b2⟩
  have K2 := Lib.hid ((b2.block w.heap.size (Array.getElem?_eq_some_iff.1 K1.out).1).trans K1.out)
  have B2 := Lib.hid (B1.out.trans (b2.mono B1.out.size))
  have d2_0 := cell_in K2.out 0 _ rfl
  have d2_1 := cell_in K2.out 1 _ rfl
  have d2_2 := cell_in K2.out 2 _ rfl
  have d2_3 := cell_in K2.out 3 _ rfl
  have d2_4 := cell_in K2.out 4 _ rfl
  have d2_5 := cell_in K2.out 5 _ rfl
  have d2_6 := cell_in K2.out 6 _ rfl
  have d2_7 := cell_in K2.out 7 _ rfl
  clear b2 d1_0 d1_1 d1_2 d1_3 d1_4 d1_5 d1_6 d1_7
  go_wp2
  go_ret
  exact ⟨rfl, B2.out⟩
set_option maxRecDepth 100000 in
set_option maxHeartbeats 4000000 in
theorem may_3 (a0 a1 a2 a3 : Int) (a4 : ByteArray) (a5 : Bool) (A6 : Option Addr) (c6 : Nat) (l6 : List S74) (a7 : Bool) (w : World) (hr : Kd.C k74 w A6 l6.length l6) (hc : l6.length ≤ c6) (q0 : numB a0 = true) (q1 : numB a1 = true) (q2 : numB a2 = true) (q3 : a3 < (0 : Int)) :
    Calls Tryd.prog 32 #[.agg #[.int .i64 a0, .int .i64 a1, .int .i64 a2, .int .i64 a3, .string a4, .bool a5, .slice A6 l6.length c6, .bool a7]] w fun e w' => e = .returned (.bool false) ∧ Below w.heap.size w w' := by
  have HR := Lib.hid hr
  have HC := Lib.hid hc
  have HB := Lib.hid ((Below.refl w.heap.size w).alloc (Nat.le_refl _) (.cells #[.int .i64 a0, .int .i64 a1, .int .i64 a2, .int .i64 a3, .string a4, .bool a5, .slice A6 l6.length c6, .bool a7] 41))
  clear hr hc
  have N0 := Lib.hid (num_is a0 _ q0)
  have N1 := Lib.hid (num_is a1 _ q1)
  have N2 := Lib.hid (num_is a2 _ q2)
  clear q0 q1 q2
  go_enter Tryd.func32, Tryd.ntmps32
  have HK : Hid ((w.alloc (.cells #[.int .i64 a0, .int .i64 a1, .int .i64 a2, .int .i64 a3, .string a4, .bool a5, .slice A6 l6.length c6, .bool a7] 41)).heap[w.heap.size]? = some (.cells #[.int .i64 a0, .int .i64 a1, .int .i64 a2, .int .i64 a3, .string a4, .bool a5, .slice A6 l6.length c6, .bool a7] 41 (0, 0))) := Lib.hid (World.alloc_heap_new w _)
  go_wp2_with fail
  refine (N0.out _).mono ?_
  rintro e v0 ⟨rfl, b0⟩
  have K0 := Lib.hid ((b0.block w.heap.size (Array.getElem?_eq_some_iff.1 HK.out).1).trans HK.out)
  have B0 := Lib.hid (HB.out.trans (b0.mono HB.out.size))
  have d0_0 := cell_in K0.out 0 _ rfl
  have d0_1 := cell_in K0.out 1 _ rfl
  have d0_2 := cell_in K0.out 2 _ rfl
  have d0_3 := cell_in K0.out 3 _ rfl
  have d0_4 := cell_in K0.out 4 _ rfl
  have d0_5 := cell_in K0.out 5 _ rfl
  have d0_6 := cell_in K0.out 6 _ rfl
  have d0_7 := cell_in K0.out 7 _ rfl
  clear b0
  go_wp2_with fail
  refine (N1.out _).mono ?_
  rintro e v1 ⟨rfl, b1⟩
  have K1 := Lib.hid ((b1.block w.heap.size (Array.getElem?_eq_some_iff.1 K0.out).1).trans K0.out)
  have B1 := Lib.hid (B0.out.trans (b1.mono B0.out.size))
  have d1_0 := cell_in K1.out 0 _ rfl
  have d1_1 := cell_in K1.out 1 _ rfl
  have d1_2 := cell_in K1.out 2 _ rfl
  have d1_3 := cell_in K1.out 3 _ rfl
  have d1_4 := cell_in K1.out 4 _ rfl
  have d1_5 := cell_in K1.out 5 _ rfl
  have d1_6 := cell_in K1.out 6 _ rfl
  have d1_7 := cell_in K1.out 7 _ rfl
  clear b1 d0_0 d0_1 d0_2 d0_3 d0_4 d0_5 d0_6 d0_7
  go_wp2_with fail
  refine (N2.out _).mono ?_
  rintro e v2 ⟨rfl, b2⟩
  have K2 := Lib.hid ((b2.block w.heap.size (Array.getElem?_eq_some_iff.1 K1.out).1).trans K1.out)
  have B2 := Lib.hid (B1.out.trans (b2.mono B1.out.size))
  have d2_0 := cell_in K2.out 0 _ rfl
  have d2_1 := cell_in K2.out 1 _ rfl
  have d2_2 := cell_in K2.out 2 _ rfl
  have d2_3 := cell_in K2.out 3 _ rfl
  have d2_4 := cell_in K2.out 4 _ rfl
  have d2_5 := cell_in K2.out 5 _ rfl
  have d2_6 := cell_in K2.out 6 _ rfl
  have d2_7 := cell_in K2.out 7 _ rfl
  clear b2 d1_0 d1_1 d1_2 d1_3 d1_4 d1_5 d1_6 d1_7
  go_wp2
  go_ret
  exact ⟨rfl, B2.out⟩
set_option maxRecDepth 100000 in
set_option maxHeartbeats 4000000 in
theorem may_4 (a0 a1 a2 a3 : Int) (a4 : ByteArray) (a5 : Bool) (A6 : Option Addr) (c6 : Nat) (l6 : List S74) (a7 : Bool) (w : World) (hr : Kd.C k74 w A6 l6.length l6) (hc : l6.length ≤ c6) (q0 : numB a0 = true) (q1 : numB a1 = true) (q2 : numB a2 = true) (q3 : (0 : Int) ≤ a3) (q4 : (16 : Int) < a3) :
    Calls Tryd.prog 32 #[.agg #[.int .i64 a0, .int .i64 a1, .int .i64 a2, .int .i64 a3, .string a4, .bool a5, .slice A6 l6.length c6, .bool a7]] w fun e w' => e = .returned (.bool false) ∧ Below w.heap.size w w' := by
  have HR := Lib.hid hr
  have HC := Lib.hid hc
  have HB := Lib.hid ((Below.refl w.heap.size w).alloc (Nat.le_refl _) (.cells #[.int .i64 a0, .int .i64 a1, .int .i64 a2, .int .i64 a3, .string a4, .bool a5, .slice A6 l6.length c6, .bool a7] 41))
  clear hr hc
  have N0 := Lib.hid (num_is a0 _ q0)
  have N1 := Lib.hid (num_is a1 _ q1)
  have N2 := Lib.hid (num_is a2 _ q2)
  clear q0 q1 q2
  go_enter Tryd.func32, Tryd.ntmps32
  have HK : Hid ((w.alloc (.cells #[.int .i64 a0, .int .i64 a1, .int .i64 a2, .int .i64 a3, .string a4, .bool a5, .slice A6 l6.length c6, .bool a7] 41)).heap[w.heap.size]? = some (.cells #[.int .i64 a0, .int .i64 a1, .int .i64 a2, .int .i64 a3, .string a4, .bool a5, .slice A6 l6.length c6, .bool a7] 41 (0, 0))) := Lib.hid (World.alloc_heap_new w _)
  go_wp2_with fail
  refine (N0.out _).mono ?_
  rintro e v0 ⟨rfl, b0⟩
  have K0 := Lib.hid ((b0.block w.heap.size (Array.getElem?_eq_some_iff.1 HK.out).1).trans HK.out)
  have B0 := Lib.hid (HB.out.trans (b0.mono HB.out.size))
  have d0_0 := cell_in K0.out 0 _ rfl
  have d0_1 := cell_in K0.out 1 _ rfl
  have d0_2 := cell_in K0.out 2 _ rfl
  have d0_3 := cell_in K0.out 3 _ rfl
  have d0_4 := cell_in K0.out 4 _ rfl
  have d0_5 := cell_in K0.out 5 _ rfl
  have d0_6 := cell_in K0.out 6 _ rfl
  have d0_7 := cell_in K0.out 7 _ rfl
  clear b0
  go_wp2_with fail
  refine (N1.out _).mono ?_
  rintro e v1 ⟨rfl, b1⟩
  have K1 := Lib.hid ((b1.block w.heap.size (Array.getElem?_eq_some_iff.1 K0.out).1).trans K0.out)
  have B1 := Lib.hid (B0.out.trans (b1.mono B0.out.size))
  have d1_0 := cell_in K1.out 0 _ rfl
  have d1_1 := cell_in K1.out 1 _ rfl
  have d1_2 := cell_in K1.out 2 _ rfl
  have d1_3 := cell_in K1.out 3 _ rfl
  have d1_4 := cell_in K1.out 4 _ rfl
  have d1_5 := cell_in K1.out 5 _ rfl
  have d1_6 := cell_in K1.out 6 _ rfl
  have d1_7 := cell_in K1.out 7 _ rfl
  clear b1 d0_0 d0_1 d0_2 d0_3 d0_4 d0_5 d0_6 d0_7
  go_wp2_with fail
  refine (N2.out _).mono ?_
  rintro e v2 ⟨rfl, b2⟩
  have K2 := Lib.hid ((b2.block w.heap.size (Array.getElem?_eq_some_iff.1 K1.out).1).trans K1.out)
  have B2 := Lib.hid (B1.out.trans (b2.mono B1.out.size))
  have d2_0 := cell_in K2.out 0 _ rfl
  have d2_1 := cell_in K2.out 1 _ rfl
  have d2_2 := cell_in K2.out 2 _ rfl
  have d2_3 := cell_in K2.out 3 _ rfl
  have d2_4 := cell_in K2.out 4 _ rfl
  have d2_5 := cell_in K2.out 5 _ rfl
  have d2_6 := cell_in K2.out 6 _ rfl
  have d2_7 := cell_in K2.out 7 _ rfl
  clear b2 d1_0 d1_1 d1_2 d1_3 d1_4 d1_5 d1_6 d1_7
  go_wp2
  go_ret
  exact ⟨rfl, B2.out⟩
set_option maxRecDepth 100000 in
set_option maxHeartbeats 4000000 in
theorem may_5 (a0 a1 a2 a3 : Int) (a4 : ByteArray) (a5 : Bool) (A6 : Option Addr) (c6 : Nat) (l6 : List S74) (a7 : Bool) (w : World) (hr : Kd.C k74 w A6 l6.length l6) (hc : l6.length ≤ c6) (q0 : numB a0 = true) (q1 : numB a1 = true) (q2 : numB a2 = true) (q3 : (0 : Int) ≤ a3) (q4 : a3 ≤ (16 : Int)) (q5 : (64 : Int) < (a4.size : Int)) :
    Calls Tryd.prog 32 #[.agg #[.int .i64 a0, .int .i64 a1, .int .i64 a2, .int .i64 a3, .string a4, .bool a5, .slice A6 l6.length c6, .bool a7]] w fun e w' => e = .returned (.bool false) ∧ Below w.heap.size w w' := by
  have HR := Lib.hid hr
  have HC := Lib.hid hc
  have HB := Lib.hid ((Below.refl w.heap.size w).alloc (Nat.le_refl _) (.cells #[.int .i64 a0, .int .i64 a1, .int .i64 a2, .int .i64 a3, .string a4, .bool a5, .slice A6 l6.length c6, .bool a7] 41))
  clear hr hc
  have N0 := Lib.hid (num_is a0 _ q0)
  have N1 := Lib.hid (num_is a1 _ q1)
  have N2 := Lib.hid (num_is a2 _ q2)
  clear q0 q1 q2
  go_enter Tryd.func32, Tryd.ntmps32
  have HK : Hid ((w.alloc (.cells #[.int .i64 a0, .int .i64 a1, .int .i64 a2, .int .i64 a3, .string a4, .bool a5, .slice A6 l6.length c6, .bool a7] 41)).heap[w.heap.size]? = some (.cells #[.int .i64 a0, .int .i64 a1, .int .i64 a2, .int .i64 a3, .string a4, .bool a5, .slice A6 l6.length c6, .bool a7] 41 (0, 0))) := Lib.hid (World.alloc_heap_new w _)
  go_wp2_with fail
  refine (N0.out _).mono ?_
  rintro e v0 ⟨rfl, b0⟩
  have K0 := Lib.hid ((b0.block w.heap.size (Array.getElem?_eq_some_iff.1 HK.out).1).trans HK.out)
  have B0 := Lib.hid (HB.out.trans (b0.mono HB.out.size))
  have d0_0 := cell_in K0.out 0 _ rfl
  have d0_1 := cell_in K0.out 1 _ rfl
  have d0_2 := cell_in K0.out 2 _ rfl
  have d0_3 := cell_in K0.out 3 _ rfl
  have d0_4 := cell_in K0.out 4 _ rfl
  have d0_5 := cell_in K0.out 5 _ rfl
  have d0_6 := cell_in K0.out 6 _ rfl
  have d0_7 := cell_in K0.out 7 _ rfl
  clear b0
  go_wp2_with fail
  refine (N1.out _).mono ?_
  rintro e v1 ⟨rfl, b1⟩
  have K1 := Lib.hid ((b1.block w.heap.size (Array.getElem?_eq_some_iff.1 K0.out).1).trans K0.out)
  have B1 := Lib.hid (B0.out.trans (b1.mono B0.out.size))
  have d1_0 := cell_in K1.out 0 _ rfl
  have d1_1 := cell_in K1.out 1 _ rfl
  have d1_2 := cell_in K1.out 2 _ rfl
  have d1_3 := cell_in K1.out 3 _ rfl
  have d1_4 := cell_in K1.out 4 _ rfl
  have d1_5 := cell_in K1.out 5 _ rfl
  have d1_6 := cell_in K1.out 6 _ rfl
  have d1_7 := cell_in K1.out 7 _ rfl
  clear b1 d0_0 d0_1 d0_2 d0_3 d0_4 d0_5 d0_6 d0_7
  go_wp2_with fail
  refine (N2.out _).mono ?_
  rintro e v2 ⟨rfl, b2⟩
  have K2 := Lib.hid ((b2.block w.heap.size (Array.getElem?_eq_some_iff.1 K1.out).1).trans K1.out)
  have B2 := Lib.hid (B1.out.trans (b2.mono B1.out.size))
  have d2_0 := cell_in K2.out 0 _ rfl
  have d2_1 := cell_in K2.out 1 _ rfl
  have d2_2 := cell_in K2.out 2 _ rfl
  have d2_3 := cell_in K2.out 3 _ rfl
  have d2_4 := cell_in K2.out 4 _ rfl
  have d2_5 := cell_in K2.out 5 _ rfl
  have d2_6 := cell_in K2.out 6 _ rfl
  have d2_7 := cell_in K2.out 7 _ rfl
  clear b2 d1_0 d1_1 d1_2 d1_3 d1_4 d1_5 d1_6 d1_7
  go_wp2
  go_ret
  exact ⟨rfl, B2.out⟩
set_option maxRecDepth 100000 in
set_option maxHeartbeats 4000000 in
theorem may_6 (a0 a1 a2 a3 : Int) (a4 : ByteArray) (a5 : Bool) (A6 : Option Addr) (c6 : Nat) (l6 : List S74) (a7 : Bool) (w : World) (hr : Kd.C k74 w A6 l6.length l6) (hc : l6.length ≤ c6) (q0 : numB a0 = true) (q1 : numB a1 = true) (q2 : numB a2 = true) (q3 : (0 : Int) ≤ a3) (q4 : a3 ≤ (16 : Int)) (q5 : (a4.size : Int) ≤ 64) (q6 : (16 : Int) < (l6.length : Int)) :
    Calls Tryd.prog 32 #[.agg #[.int .i64 a0, .int .i64 a1, .int .i64 a2, .int .i64 a3, .string a4, .bool a5, .slice A6 l6.length c6, .bool a7]] w fun e w' => e = .returned (.bool false) ∧ Below w.heap.size w w' := by
  have HR := Lib.hid hr
  have HC := Lib.hid hc
  have HB := Lib.hid ((Below.refl w.heap.size w).alloc (Nat.le_refl _) (.cells #[.int .i64 a0, .int .i64 a1, .int .i64 a2, .int .i64 a3, .string a4, .bool a5, .slice A6 l6.length c6, .bool a7] 41))
  clear hr hc
  have N0 := Lib.hid (num_is a0 _ q0)
  have N1 := Lib.hid (num_is a1 _ q1)
  have N2 := Lib.hid (num_is a2 _ q2)
  clear q0 q1 q2
  go_enter Tryd.func32, Tryd.ntmps32
  have HK : Hid ((w.alloc (.cells #[.int .i64 a0, .int .i64 a1, .int .i64 a2, .int .i64 a3, .string a4, .bool a5, .slice A6 l6.length c6, .bool a7] 41)).heap[w.heap.size]? = some (.cells #[.int .i64 a0, .int .i64 a1, .int .i64 a2, .int .i64 a3, .string a4, .bool a5, .slice A6 l6.length c6, .bool a7] 41 (0, 0))) := Lib.hid (World.alloc_heap_new w _)
  go_wp2_with fail
  refine (N0.out _).mono ?_
  rintro e v0 ⟨rfl, b0⟩
  have K0 := Lib.hid ((b0.block w.heap.size (Array.getElem?_eq_some_iff.1 HK.out).1).trans HK.out)
  have B0 := Lib.hid (HB.out.trans (b0.mono HB.out.size))
  have d0_0 := cell_in K0.out 0 _ rfl
  have d0_1 := cell_in K0.out 1 _ rfl
  have d0_2 := cell_in K0.out 2 _ rfl
  have d0_3 := cell_in K0.out 3 _ rfl
  have d0_4 := cell_in K0.out 4 _ rfl
  have d0_5 := cell_in K0.out 5 _ rfl
  have d0_6 := cell_in K0.out 6 _ rfl
  have d0_7 := cell_in K0.out 7 _ rfl
  clear b0
  go_wp2_with fail
  refine (N1.out _).mono ?_
  rintro e v1 ⟨rfl, b1⟩
  have K1 := Lib.hid ((b1.block w.heap.size (Array.getElem?_eq_some_iff.1 K0.out).1).trans K0.out)
  have B1 := Lib.hid (B0.out.trans (b1.mono B0.out.size))
  have d1_0 := cell_in K1.out 0 _ rfl
  have d1_1 := cell_in K1.out 1 _ rfl
  have d1_2 := cell_in K1.out 2 _ rfl
  have d1_3 := cell_in K1.out 3 _ rfl
  have d1_4 := cell_in K1.out 4 _ rfl
  have d1_5 := cell_in K1.out 5 _ rfl
  have d1_6 := cell_in K1.out 6 _ rfl
  have d1_7 := cell_in K1.out 7 _ rfl
  clear b1 d0_0 d0_1 d0_2 d0_3 d0_4 d0_5 d0_6 d0_7
  go_wp2_with fail
  refine (N2.out _).mono ?_
  rintro e v2 ⟨rfl, b2⟩
  have K2 := Lib.hid ((b2.block w.heap.size (Array.getElem?_eq_some_iff.1 K1.out).1).trans K1.out)
  have B2 := Lib.hid (B1.out.trans (b2.mono B1.out.size))
  have d2_0 := cell_in K2.out 0 _ rfl
  have d2_1 := cell_in K2.out 1 _ rfl
  have d2_2 := cell_in K2.out 2 _ rfl
  have d2_3 := cell_in K2.out 3 _ rfl
  have d2_4 := cell_in K2.out 4 _ rfl
  have d2_5 := cell_in K2.out 5 _ rfl
  have d2_6 := cell_in K2.out 6 _ rfl
  have d2_7 := cell_in K2.out 7 _ rfl
  clear b2 d1_0 d1_1 d1_2 d1_3 d1_4 d1_5 d1_6 d1_7
  go_wp2
  go_ret
  exact ⟨rfl, B2.out⟩
set_option maxRecDepth 100000 in
set_option maxHeartbeats 4000000 in
theorem may_7 (a0 a1 a2 a3 : Int) (a4 : ByteArray) (a5 : Bool) (A6 : Option Addr) (c6 : Nat) (l6 : List S74) (a7 : Bool) (w : World) (hr : Kd.C k74 w A6 l6.length l6) (hc : l6.length ≤ c6) (q0 : numB a0 = true) (q1 : numB a1 = true) (q2 : numB a2 = true) (q3 : (0 : Int) ≤ a3) (q4 : a3 ≤ (16 : Int)) (q5 : (a4.size : Int) ≤ 64) (q6 : (l6.length : Int) ≤ 16) (q7 : table_Right.f 20 l6 = some false) :
    Calls Tryd.prog 32 #[.agg #[.int .i64 a0, .int .i64 a1, .int .i64 a2, .int .i64 a3, .string a4, .bool a5, .slice A6 l6.length c6, .bool a7]] w fun e w' => e = .returned (.bool false) ∧ Below w.heap.size w w' := by
  have HR := Lib.hid hr
  have HC := Lib.hid hc
  have HB := Lib.hid ((Below.refl w.heap.size w).alloc (Nat.le_refl _) (.cells #[.int .i64 a0, .int .i64 a1, .int .i64 a2, .int .i64 a3, .string a4, .bool a5, .slice A6 l6.length c6, .bool a7] 41))
  clear hr hc
  have N0 := Lib.hid (num_is a0 _ q0)
  have N1 := Lib.hid (num_is a1 _ q1)
  have N2 := Lib.hid (num_is a2 _ q2)
  have NR := Lib.hid (right_is A6 c6 l6 20 _ q7)
  have NL : Hid (l6.length ≤ 16) := Lib.hid (by omega)
  clear q0 q1 q2 q7
  go_enter Tryd.func32, Tryd.ntmps32
  have HK : Hid ((w.alloc (.cells #[.int .i64 a0, .int .i64 a1, .int .i64 a2, .int .i64 a3, .string a4, .bool a5, .slice A6 l6.length c6, .bool a7] 41)).heap[w.heap.size]? = some (.cells #[.int .i64 a0, .int .i64 a1, .int .i64 a2, .int .i64 a3, .string a4, .bool a5, .slice A6 l6.length c6, .bool a7] 41 (0, 0))) := Lib.hid (World.alloc_heap_new w _)
  go_wp2_with fail
  refine (N0.out _).mono ?_
  rintro e v0 ⟨rfl, b0⟩
  have K0 := Lib.hid ((b0.block w.heap.size (Array.getElem?_eq_some_iff.1 HK.out).1).trans HK.out)
  have B0 := Lib.hid (HB.out.trans (b0.mono HB.out.size))
  have d0_0 := cell_in K0.out 0 _ rfl
  have d0_1 := cell_in K0.out 1 _ rfl
  have d0_2 := cell_in K0.out 2 _ rfl
  have d0_3 := cell_in K0.out 3 _ rfl
  have d0_4 := cell_in K0.out 4 _ rfl
  have d0_5 := cell_in K0.out 5 _ rfl
  have d0_6 := cell_in K0.out 6 _ rfl
  have d0_7 := cell_in K0.out 7 _ rfl
  clear b0
  go_wp2_with fail
  refine (N1.out _).mono ?_
  rintro e v1 ⟨rfl, b1⟩
  have K1 := Lib.hid ((b1.block w.heap.size (Array.getElem?_eq_some_iff.1 K0.out).1).trans K0.out)
  have B1 := Lib.hid (B0.out.trans (b1.mono B0.out.size))
  have d1_0 := cell_in K1.out 0 _ rfl
  have d1_1 := cell_in K1.out 1 _ rfl
  have d1_2 := cell_in K1.out 2 _ rfl
  have d1_3 := cell_in K1.out 3 _ rfl
  have d1_4 := cell_in K1.out 4 _ rfl
  have d1_5 := cell_in K1.out 5 _ rfl
  have d1_6 := cell_in K1.out 6 _ rfl
  have d1_7 := cell_in K1.out 7 _ rfl
  clear b1 d0_0 d0_1 d0_2 d0_3 d0_4 d0_5 d0_6 d0_7
  go_wp2_with fail
  refine (N2.out _).mono ?_
  rintro e v2 ⟨rfl, b2⟩
  have K2 := Lib.hid ((b2.block w.heap.size (Array.getElem?_eq_some_iff.1 K1.out).1).trans K1.out)
  have B2 := Lib.hid (B1.out.trans (b2.mono B1.out.size))
  have d2_0 := cell_in K2.out 0 _ rfl
  have d2_1 := cell_in K2.out 1 _ rfl
  have d2_2 := cell_in K2.out 2 _ rfl
  have d2_3 := cell_in K2.out 3 _ rfl
  have d2_4 := cell_in K2.out 4 _ rfl
  have d2_5 := cell_in K2.out 5 _ rfl
  have d2_6 := cell_in K2.out 6 _ rfl
  have d2_7 := cell_in K2.out 7 _ rfl
  clear b2 d1_0 d1_1 d1_2 d1_3 d1_4 d1_5 d1_6 d1_7
  go_wp2_with fail
  refine (NR.out _ (Kd.C_below HR.out B2.out) HC.out).mono ?_
  rintro e v3 ⟨rfl, b3⟩
  have K3 := Lib.hid ((b3.block w.heap.size (Array.getElem?_eq_some_iff.1 K2.out).1).trans K2.out)
  have B3 := Lib.hid (B2.out.trans (b3.mono B2.out.size))
  have d3_0 := cell_in K3.out 0 _ rfl
  have d3_1 := cell_in K3.out 1 _ rfl
  have d3_2 := cell_in K3.out 2 _ rfl
  have d3_3 := cell_in K3.out 3 _ rfl
  have d3_4 := cell_in K3.out 4 _ rfl
  have d3_5 := cell_in K3.out 5 _ rfl
  have d3_6 := cell_in K3.out 6 _ rfl
  have d3_7 := cell_in K3.out 7 _ rfl
  clear b3 d2_0 d2_1 d2_2 d2_3 d2_4 d2_5 d2_6 d2_7
  go_wp2
  go_ret
  exact ⟨rfl, B3.out⟩
set_option maxRecDepth 100000 in
set_option maxHeartbeats 4000000 in
theorem may_8 (a0 a1 a2 a3 : Int) (a4 : ByteArray) (a5 : Bool) (A6 : Option Addr) (c6 : Nat) (l6 : List S74) (a7 : Bool) (w : World) (hr : Kd.C k74 w A6 l6.length l6) (hc : l6.length ≤ c6) (q0 : numB a0 = true) (q1 : numB a1 = true) (q2 : numB a2 = true) (q3 : (0 : Int) ≤ a3) (q4 : a3 ≤ (16 : Int)) (q5 : (a4.size : Int) ≤ 64) (q6 : (l6.length : Int) ≤ 16) (q7 : table_Right.f 20 l6 = some true) (q8 : l6.any longP = true) :
    Calls Tryd.prog 32 #[.agg #[.int .i64 a0, .int .i64 a1, .int .i64 a2, .int .i64 a3, .string a4, .bool a5, .slice A6 l6.length c6, .bool a7]] w fun e w' => e = .returned (.bool false) ∧ Below w.heap.size w w' := by
  have HR := Lib.hid hr
  have HC := Lib.hid hc
  have HB := Lib.hid ((Below.refl w.heap.size w).alloc (Nat.le_refl _) (.cells #[.int .i64 a0, .int .i64 a1, .int .i64 a2, .int .i64 a3, .string a4, .bool a5, .slice A6 l6.length c6, .bool a7] 41))
  clear hr hc
  have N0 := Lib.hid (num_is a0 _ q0)
  have N1 := Lib.hid (num_is a1 _ q1)
  have N2 := Lib.hid (num_is a2 _ q2)
  have NR := Lib.hid (right_is A6 c6 l6 20 _ q7)
  have NL : Hid (l6.length ≤ 16) := Lib.hid (by omega)
  have NA := Lib.hid q8
  clear q0 q1 q2 q7 q8
  go_enter Tryd.func32, Tryd.ntmps32
  have HK : Hid ((w.alloc (.cells #[.int .i64 a0, .int .i64 a1, .int .i64 a2, .int .i64 a3, .string a4, .bool a5, .slice A6 l6.length c6, .bool a7] 41)).heap[w.heap.size]? = some (.cells #[.int .i64 a0, .int .i64 a1, .int .i64 a2, .int .i64 a3, .string a4, .bool a5, .slice A6 l6.length c6, .bool a7] 41 (0, 0))) := Lib.hid (World.alloc_heap_new w _)
  go_wp2_with fail
  refine (N0.out _).mono ?_
  rintro e v0 ⟨rfl, b0⟩
  have K0 := Lib.hid ((b0.block w.heap.size (Array.getElem?_eq_some_iff.1 HK.out).1).trans HK.out)
  have B0 := Lib.hid (HB.out.trans (b0.mono HB.out.size))
  have d0_0 := cell_in K0.out 0 _ rfl
  have d0_1 := cell_in K0.out 1 _ rfl
  have d0_2 := cell_in K0.out 2 _ rfl
  have d0_3 := cell_in K0.out 3 _ rfl
  have d0_4 := cell_in K0.out 4 _ rfl
  have d0_5 := cell_in K0.out 5 _ rfl
  have d0_6 := cell_in K0.out 6 _ rfl
  have d0_7 := cell_in K0.out 7 _ rfl
  clear b0
  go_wp2_with fail
  refine (N1.out _).mono ?_
  rintro e v1 ⟨rfl, b1⟩
  have K1 := Lib.hid ((b1.block w.heap.size (Array.getElem?_eq_some_iff.1 K0.out).1).trans K0.out)
  have B1 := Lib.hid (B0.out.trans (b1.mono B0.out.size))
  have d1_0 := cell_in K1.out 0 _ rfl
  have d1_1 := cell_in K1.out 1 _ rfl
  have d1_2 := cell_in K1.out 2 _ rfl
  have d1_3 := cell_in K1.out 3 _ rfl
  have d1_4 := cell_in K1.out 4 _ rfl
  have d1_5 := cell_in K1.out 5 _ rfl
  have d1_6 := cell_in K1.out 6 _ rfl
  have d1_7 := cell_in K1.out 7 _ rfl
  clear b1 d0_0 d0_1 d0_2 d0_3 d0_4 d0_5 d0_6 d0_7
  go_wp2_with fail
  refine (N2.out _).mono ?_
  rintro e v2 ⟨rfl, b2⟩
  have K2 := Lib.hid ((b2.block w.heap.size (Array.getElem?_eq_some_iff.1 K1.out).1).trans K1.out)
  have B2 := Lib.hid (B1.out.trans (b2.mono B1.out.size))
  have d2_0 := cell_in K2.out 0 _ rfl
  have d2_1 := cell_in K2.out 1 _ rfl
  have d2_2 := cell_in K2.out 2 _ rfl
  have d2_3 := cell_in K2.out 3 _ rfl
  have d2_4 := cell_in K2.out 4 _ rfl
  have d2_5 := cell_in K2.out 5 _ rfl
  have d2_6 := cell_in K2.out 6 _ rfl
  have d2_7 := cell_in K2.out 7 _ rfl
  clear b2 d1_0 d1_1 d1_2 d1_3 d1_4 d1_5 d1_6 d1_7
  go_wp2_with fail
  refine (NR.out _ (Kd.C_below HR.out B2.out) HC.out).mono ?_
  rintro e v3 ⟨rfl, b3⟩
  have K3 := Lib.hid ((b3.block w.heap.size (Array.getElem?_eq_some_iff.1 K2.out).1).trans K2.out)
  have B3 := Lib.hid (B2.out.trans (b3.mono B2.out.size))
  have d3_0 := cell_in K3.out 0 _ rfl
  have d3_1 := cell_in K3.out 1 _ rfl
  have d3_2 := cell_in K3.out 2 _ rfl
  have d3_3 := cell_in K3.out 3 _ rfl
  have d3_4 := cell_in K3.out 4 _ rfl
  have d3_5 := cell_in K3.out 5 _ rfl
  have d3_6 := cell_in K3.out 6 _ rfl
  have d3_7 := cell_in K3.out 7 _ rfl
  clear b3 d2_0 d2_1 d2_2 d2_3 d2_4 d2_5 d2_6 d2_7
  go_wp2_with fail
  refine (contains_is A6 c6 l6 _ _ (Kd.C_below HR.out B3.out) HC.out (by have := NL.out; omega) NA.out).mono ?_
  rintro e v4 ⟨rfl, b4⟩
  have K4 := Lib.hid ((b4.block w.heap.size (Array.getElem?_eq_some_iff.1 K3.out).1).trans K3.out)
  have B4 := Lib.hid (B3.out.trans (b4.mono B3.out.size))
  have d4_0 := cell_in K4.out 0 _ rfl
  have d4_1 := cell_in K4.out 1 _ rfl
  have d4_2 := cell_in K4.out 2 _ rfl
  have d4_3 := cell_in K4.out 3 _ rfl
  have d4_4 := cell_in K4.out 4 _ rfl
  have d4_5 := cell_in K4.out 5 _ rfl
  have d4_6 := cell_in K4.out 6 _ rfl
  have d4_7 := cell_in K4.out 7 _ rfl
  clear b4 d3_0 d3_1 d3_2 d3_3 d3_4 d3_5 d3_6 d3_7
  go_wp2
  go_ret
  exact ⟨rfl, B4.out⟩
set_option maxRecDepth 100000 in
set_option maxHeartbeats 4000000 in
theorem may_9 (a0 a1 a2 a3 : Int) (a4 : ByteArray) (a5 : Bool) (A6 : Option Addr) (c6 : Nat) (l6 : List S74) (a7 : Bool) (w : World) (hr : Kd.C k74 w A6 l6.length l6) (hc : l6.length ≤ c6) (q0 : numB a0 = true) (q1 : numB a1 = true) (q2 : numB a2 = true) (q3 : (0 : Int) ≤ a3) (q4 : a3 ≤ (16 : Int)) (q5 : (a4.size : Int) ≤ 64) (q6 : (l6.length : Int) ≤ 16) (q7 : table_Right.f 20 l6 = some true) (q8 : l6.any longP = false) :
    Calls Tryd.prog 32 #[.agg #[.int .i64 a0, .int .i64 a1, .int .i64 a2, .int .i64 a3, .string a4, .bool a5, .slice A6 l6.length c6, .bool a7]] w fun e w' => e = .returned (.bool true) ∧ Below w.heap.size w w' := by
  have HR := Lib.hid hr
  have HC := Lib.hid hc
  have HB := Lib.hid ((Below.refl w.heap.size w).alloc (Nat.le_refl _) (.cells #[.int .i64 a0, .int .i64 a1, .int .i64 a2, .int .i64 a3, .string a4, .bool a5, .slice A6 l6.length c6, .bool a7] 41))
  clear hr hc
  have N0 := Lib.hid (num_is a0 _ q0)
  have N1 := Lib.hid (num_is a1 _ q1)
  have N2 := Lib.hid (num_is a2 _ q2)
  have NR := Lib.hid (right_is A6 c6 l6 20 _ q7)
  have NL : Hid (l6.length ≤ 16) := Lib.hid (by omega)
  have NA := Lib.hid q8
  clear q0 q1 q2 q7 q8
  go_enter Tryd.func32, Tryd.ntmps32
  have HK : Hid ((w.alloc (.cells #[.int .i64 a0, .int .i64 a1, .int .i64 a2, .int .i64 a3, .string a4, .bool a5, .slice A6 l6.length c6, .bool a7] 41)).heap[w.heap.size]? = some (.cells #[.int .i64 a0, .int .i64 a1, .int .i64 a2, .int .i64 a3, .string a4, .bool a5, .slice A6 l6.length c6, .bool a7] 41 (0, 0))) := Lib.hid (World.alloc_heap_new w _)
  go_wp2_with fail
  refine (N0.out _).mono ?_
  rintro e v0 ⟨rfl, b0⟩
  have K0 := Lib.hid ((b0.block w.heap.size (Array.getElem?_eq_some_iff.1 HK.out).1).trans HK.out)
  have B0 := Lib.hid (HB.out.trans (b0.mono HB.out.size))
  have d0_0 := cell_in K0.out 0 _ rfl
  have d0_1 := cell_in K0.out 1 _ rfl
  have d0_2 := cell_in K0.out 2 _ rfl
  have d0_3 := cell_in K0.out 3 _ rfl
  have d0_4 := cell_in K0.out 4 _ rfl
  have d0_5 := cell_in K0.out 5 _ rfl
  have d0_6 := cell_in K0.out 6 _ rfl
  have d0_7 := cell_in K0.out 7 _ rfl
  clear b0
  go_wp2_with fail
  refine (N1.out _).mono ?_
  rintro e v1 ⟨rfl, b1⟩
  have K1 := Lib.hid ((b1.block w.heap.size (Array.getElem?_eq_some_iff.1 K0.out).1).trans K0.out)
  have B1 := Lib.hid (B0.out.trans (b1.mono B0.out.size))
  have d1_0 := cell_in K1.out 0 _ rfl
  have d1_1 := cell_in K1.out 1 _ rfl
  have d1_2 := cell_in K1.out 2 _ rfl
  have d1_3 := cell_in K1.out 3 _ rfl
  have d1_4 := cell_in K1.out 4 _ rfl
  have d1_5 := cell_in K1.out 5 _ rfl
  have d1_6 := cell_in K1.out 6 _ rfl
  have d1_7 := cell_in K1.out 7 _ rfl
  clear b1 d0_0 d0_1 d0_2 d0_3 d0_4 d0_5 d0_6 d0_7
  go_wp2_with fail
  refine (N2.out _).mono ?_
  rintro e v2 ⟨rfl, b2⟩
  have K2 := Lib.hid ((b2.block w.heap.size (Array.getElem?_eq_some_iff.1 K1.out).1).trans K1.out)
  have B2 := Lib.hid (B1.out.trans (b2.mono B1.out.size))
  have d2_0 := cell_in K2.out 0 _ rfl
  have d2_1 := cell_in K2.out 1 _ rfl
  have d2_2 := cell_in K2.out 2 _ rfl
  have d2_3 := cell_in K2.out 3 _ rfl
  have d2_4 := cell_in K2.out 4 _ rfl
  have d2_5 := cell_in K2.out 5 _ rfl
  have d2_6 := cell_in K2.out 6 _ rfl
  have d2_7 := cell_in K2.out 7 _ rfl
  clear b2 d1_0 d1_1 d1_2 d1_3 d1_4 d1_5 d1_6 d1_7
  go_wp2_with fail
  refine (NR.out _ (Kd.C_below HR.out B2.out) HC.out).mono ?_
  rintro e v3 ⟨rfl, b3⟩
  have K3 := Lib.hid ((b3.block w.heap.size (Array.getElem?_eq_some_iff.1 K2.out).1).trans K2.out)
  have B3 := Lib.hid (B2.out.trans (b3.mono B2.out.size))
  have d3_0 := cell_in K3.out 0 _ rfl
  have d3_1 := cell_in K3.out 1 _ rfl
  have d3_2 := cell_in K3.out 2 _ rfl
  have d3_3 := cell_in K3.out 3 _ rfl
  have d3_4 := cell_in K3.out 4 _ rfl
  have d3_5 := cell_in K3.out 5 _ rfl
  have d3_6 := cell_in K3.out 6 _ rfl
  have d3_7 := cell_in K3.out 7 _ rfl
  clear b3 d2_0 d2_1 d2_2 d2_3 d2_4 d2_5 d2_6 d2_7
  go_wp2_with fail
  refine (contains_is A6 c6 l6 _ _ (Kd.C_below HR.out B3.out) HC.out (by have := NL.out; omega) NA.out).mono ?_
  rintro e v4 ⟨rfl, b4⟩
  have K4 := Lib.hid ((b4.block w.heap.size (Array.getElem?_eq_some_iff.1 K3.out).1).trans K3.out)
  have B4 := Lib.hid (B3.out.trans (b4.mono B3.out.size))
  have d4_0 := cell_in K4.out 0 _ rfl
  have d4_1 := cell_in K4.out 1 _ rfl
  have d4_2 := cell_in K4.out 2 _ rfl
  have d4_3 := cell_in K4.out 3 _ rfl
  have d4_4 := cell_in K4.out 4 _ rfl
  have d4_5 := cell_in K4.out 5 _ rfl
  have d4_6 := cell_in K4.out 6 _ rfl
  have d4_7 := cell_in K4.out 7 _ rfl
  clear b4 d3_0 d3_1 d3_2 d3_3 d3_4 d3_5 d3_6 d3_7
  go_wp2
  go_ret
  exact ⟨rfl, B4.out⟩
def wire_mayReply.f (a0 a1 a2 a3 : Int) (a4 : ByteArray) (_a5 : Bool) (l6 : List S74) (_a7 : Bool) : Option (Bool) :=
  if numB a0 = false then some false else if numB a1 = false then some false else if numB a2 = false then some false else if a3 < 0 then some false else if 16 < a3 then some false else if 64 < (a4.size : Int) then some false
  else if 16 < (l6.length : Int) then some false else if table_Right.f 20 l6 = some false then some false else if table_Right.f 20 l6 = some true then (if l6.any longP = true then some false else some true) else none
theorem wire_mayReply.calls (a0 a1 a2 a3 : Int) (a4 : ByteArray) (a5 : Bool) (A6 : Option Addr) (c6 : Nat) (l6 : List S74) (a7 : Bool) (r : Bool) (w : World) (hr : Kd.C k74 w A6 l6.length l6) (hc : l6.length ≤ c6) (h : wire_mayReply.f a0 a1 a2 a3 a4 a5 l6 a7 = some r) :
    Calls Tryd.prog 32 #[.agg #[.int .i64 a0, .int .i64 a1, .int .i64 a2, .int .i64 a3, .string a4, .bool a5, .slice A6 l6.length c6, .bool a7]] w fun e w' => e = .returned (.bool r) ∧ Below w.heap.size w w' := by
  unfold wire_mayReply.f at h
  by_cases c0 : numB a0 = false
  · rw [if_pos c0] at h
    obtain rfl := Option.some.inj h
    exact may_0 a0 a1 a2 a3 a4 a5 A6 c6 l6 a7 w hr hc c0
  rw [if_neg c0] at h
  have c0 : numB a0 = true := by simpa using c0
  by_cases c1 : numB a1 = false
  · rw [if_pos c1] at h
    obtain rfl := Option.some.inj h
    exact may_1 a0 a1 a2 a3 a4 a5 A6 c6 l6 a7 w hr hc c0 c1
  rw [if_neg c1] at h
  have c1 : numB a1 = true := by simpa using c1
  by_cases c2 : numB a2 = false
  · rw [if_pos c2] at h
    obtain rfl := Option.some.inj h
    exact may_2 a0 a1 a2 a3 a4 a5 A6 c6 l6 a7 w hr hc c0 c1 c2
  rw [if_neg c2] at h
  have c2 : numB a2 = true := by simpa using c2
  by_cases c3 : a3 < 0
  · rw [if_pos c3] at h
    obtain rfl := Option.some.inj h
    exact may_3 a0 a1 a2 a3 a4 a5 A6 c6 l6 a7 w hr hc c0 c1 c2 c3
  rw [if_neg c3] at h
  by_cases c4 : 16 < a3
  · rw [if_pos c4] at h
    obtain rfl := Option.some.inj h
    exact may_4 a0 a1 a2 a3 a4 a5 A6 c6 l6 a7 w hr hc c0 c1 c2 (by omega) c4
  rw [if_neg c4] at h
  by_cases c5 : 64 < (a4.size : Int)
  · rw [if_pos c5] at h
    obtain rfl := Option.some.inj h
    exact may_5 a0 a1 a2 a3 a4 a5 A6 c6 l6 a7 w hr hc c0 c1 c2 (by omega) (by omega) c5
  rw [if_neg c5] at h
  by_cases c6' : 16 < (l6.length : Int)
  · rw [if_pos c6'] at h
    obtain rfl := Option.some.inj h
    exact may_6 a0 a1 a2 a3 a4 a5 A6 c6 l6 a7 w hr hc c0 c1 c2 (by omega) (by omega) (by omega) c6'
  rw [if_neg c6'] at h
  by_cases c7 : table_Right.f 20 l6 = some false
  · rw [if_pos c7] at h
    obtain rfl := Option.some.inj h
    exact may_7 a0 a1 a2 a3 a4 a5 A6 c6 l6 a7 w hr hc c0 c1 c2 (by omega) (by omega) (by omega) (by omega) c7
  rw [if_neg c7] at h
  by_cases c8 : table_Right.f 20 l6 = some true
  · rw [if_pos c8] at h
    by_cases c9 : l6.any longP = true
    · rw [if_pos c9] at h
      obtain rfl := Option.some.inj h
      exact may_8 a0 a1 a2 a3 a4 a5 A6 c6 l6 a7 w hr hc c0 c1 c2 (by omega) (by omega) (by omega) (by omega) c8 c9
    · rw [if_neg c9] at h
      obtain rfl := Option.some.inj h
      exact may_9 a0 a1 a2 a3 a4 a5 A6 c6 l6 a7 w hr hc c0 c1 c2 (by omega) (by omega) (by omega) (by omega) c8 (Bool.eq_false_iff.mpr c9)
  · rw [if_neg c8] at h
    cases h
end Go.Proofs.YtlpcidjmaeicoaaDoor.QWi
namespace Go.Proofs.YtlpcidjmaeicoaaDoor.Reader
open Go Go.RowKit Go.Proofs.YtlpcidjmaeicoaaDoor.DecM Go.Proofs.YtlpcidjmaeicoaaDoor.Giv Go.Proofs.YtlpcidjmaeicoaaDoor.Err Go.Proofs.YtlpcidjmaeicoaaDoorW.PrintWords Go.Proofs.YtlpcidjmaeicoaaDoorW.PrintLast Go.Proofs.YtlpcidjmaeicoaaDoor.QWi
set_option linter.unusedSimpArgs false
theorem start_rep (w : World) (s : ByteArray) (hg : Handle w) : St w (w.heap.size + 1) (w.heap.size + 1 + 1) [(w.heap.size + 1 + 1 + 1, [.pointer (some ⟨w.heap.size + 1 + 1, 0, none⟩), .pointer (some ⟨w.heap.size + 1 + 1, 1, none⟩), .pointer (some ⟨w.heap.size + 1 + 1, 2, none⟩)]), (w.heap.size, [.int .i64 0, .int .i64 0, .int .i64 0, .int .i64 0, .string ⟨#[]⟩, .bool false, .slice none 0 0, .bool false])]
    ((((w.alloc (.cells #[.int .i64 0, .int .i64 0, .int .i64 0, .int .i64 0, .string ⟨#[]⟩, .bool false, .slice none 0 0, .bool false] 41)).alloc (.cells #[.string s, .int .i64 0, .nilIface] 60)).alloc (.cells #[.int .i64 0, .int .i64 0, .int .i64 0, .int .i64 0, .string ⟨#[]⟩, .bool false, .slice none 0 0, .bool false] 41)).alloc (.cells #[.pointer (some ⟨w.heap.size + 1 + 1, 0, none⟩), .pointer (some ⟨w.heap.size + 1 + 1, 1, none⟩), .pointer (some ⟨w.heap.size + 1 + 1, 2, none⟩)] 63)) s 0 false [.int .i64 0, .int .i64 0, .int .i64 0, .int .i64 0, .string ⟨#[]⟩, .bool false, .slice none 0 0, .bool false] := by
  have S0 := start_st w s #[.int .i64 0, .int .i64 0, .int .i64 0, .int .i64 0, .string ⟨#[]⟩, .bool false, .slice none 0 0, .bool false] 41 (by decide) hg
  have e2 : ((w.alloc (.cells #[.int .i64 0, .int .i64 0, .int .i64 0, .int .i64 0, .string ⟨#[]⟩, .bool false, .slice none 0 0, .bool false] 41)).alloc (.cells #[.string s, .int .i64 0, .nilIface] 60)).heap.size = w.heap.size + 1 + 1 := by simp
  have S1 := S0.push #[.int .i64 0, .int .i64 0, .int .i64 0, .int .i64 0, .string ⟨#[]⟩, .bool false, .slice none 0 0, .bool false] 41 (by decide)
  rw [e2] at S1
  have S2 := S1.swap (by omega)
  have e3 : (((w.alloc (.cells #[.int .i64 0, .int .i64 0, .int .i64 0, .int .i64 0, .string ⟨#[]⟩, .bool false, .slice none 0 0, .bool false] 41)).alloc (.cells #[.string s, .int .i64 0, .nilIface] 60)).alloc (.cells #[.int .i64 0, .int .i64 0, .int .i64 0, .int .i64 0, .string ⟨#[]⟩, .bool false, .slice none 0 0, .bool false] 41)).heap.size = w.heap.size + 1 + 1 + 1 := by simp
  have S3 := S2.push #[.pointer (some ⟨w.heap.size + 1 + 1, 0, none⟩), .pointer (some ⟨w.heap.size + 1 + 1, 1, none⟩), .pointer (some ⟨w.heap.size + 1 + 1, 2, none⟩)] 63 (by simp)
  rw [e3] at S3
  exact S3
set_option maxHeartbeats 4000000 in
set_option maxRecDepth 10000 in
theorem rep_walk (s : ByteArray) (w : World) (hg : Handle w) (hs : s.size ≤ 9223372036854775807) (v1 : Int × ByteArray × Bool) (v2 : Int × ByteArray × Bool) (v3 : Int × ByteArray × Bool) (v4 : Int × ByteArray × Bool) (v5 : ByteArray × ByteArray × Bool) (v6 : Int × ByteArray × Bool) (v7 : Int × ByteArray × Bool) (m : Nat) (hm : m ≤ 16) (x8 : ByteArray × Bool) (h1 : numR s false 1073741824 = v1) (h2 : numR v1.2.1 v1.2.2 1073741824 = v2) (h3 : numR v2.2.1 v2.2.2 1073741824 = v3) (h4 : numR v3.2.1 v3.2.2 16 = v4) (h5 : textR v4.2.1 v4.2.2 64 = v5) (h6 : numR v5.2.1 v5.2.2 1 = v6) (h7 : numR v6.2.1 v6.2.2 1 = v7) (h8 : numR v7.2.1 v7.2.2 16 = ((m : Int), x8)) (mb : Bool) (hmb : wire_mayReply.f v1.1 v2.1 v3.1 v4.1 v5.1 (v6.1 == 1) (rowsI x8 m).1 (v7.1 == 1) = some mb)
    (P : S41 × Int) (hP : (if ((rowsI x8 m).2.2 = true ∨ ¬ (rowsI x8 m).2.1.size = 0) then (z41, (3 : Int)) else if mb = true then (⟨v1.1, v2.1, v3.1, v4.1, v5.1, v6.1 == 1, (rowsI x8 m).1, v7.1 == 1⟩, 0) else (z41, 3)) = P) :
    Calls Tryd.prog 17 #[.string s] w fun e w' => ∃ vr, e = .returned (repOut P vr) ∧ Kd.R k74 74 w' w.heap.size (fun _ => True) vr P.1.f6 ∧ Below w.heap.size w w' := by
  have z1 : v1.2.1.size ≤ s.size := by have h := numR_size s false 1073741824; rw [h1] at h; omega
  have z2 : v2.2.1.size ≤ s.size := by have h := numR_size v1.2.1 v1.2.2 1073741824; rw [h2] at h; omega
  have z3 : v3.2.1.size ≤ s.size := by have h := numR_size v2.2.1 v2.2.2 1073741824; rw [h3] at h; omega
  have z4 : v4.2.1.size ≤ s.size := by have h := numR_size v3.2.1 v3.2.2 16; rw [h4] at h; omega
  have z5 : v5.2.1.size ≤ s.size := by have h := textR_size v4.2.1 v4.2.2 64; rw [h5] at h; omega
  have z6 : v6.2.1.size ≤ s.size := by have h := numR_size v5.2.1 v5.2.2 1; rw [h6] at h; omega
  have z7 : v7.2.1.size ≤ s.size := by have h := numR_size v6.2.1 v6.2.2 1; rw [h7] at h; omega
  have z8 : x8.1.size ≤ s.size := by have h := numR_size v7.2.1 v7.2.2 16; rw [h8] at h; dsimp only at h; omega
  have h00 : 0 < w.heap.size := Nat.lt_of_le_of_lt (Nat.zero_le _) (cell_lt hg)
  have HS0b := Lib.hid (start_rep w s hg)
  have Z1 := Lib.hid z1
  have H1 := Lib.hid h1
  have Z2 := Lib.hid z2
  have H2 := Lib.hid h2
  have Z3 := Lib.hid z3
  have H3 := Lib.hid h3
  have Z4 := Lib.hid z4
  have H4 := Lib.hid h4
  have Z5 := Lib.hid z5
  have H5 := Lib.hid h5
  have Z6 := Lib.hid z6
  have H6 := Lib.hid h6
  have Z7 := Lib.hid z7
  have H7 := Lib.hid h7
  have Z8 := Lib.hid z8
  have H8 := Lib.hid h8
  have HSS := Lib.hid hs
  have HM := Lib.hid hm
  have HMB := Lib.hid hmb
  have H00 := Lib.hid h00
  have HP := Lib.hid hP
  clear hg hs hm hmb hP h00 z1 h1 z2 h2 z3 h3 z4 h4 z5 h5 z6 h6 z7 h7 z8 h8
  go_enter Tryd.func17, Tryd.ntmps17
  go_wp2
  refine wp_loop_rounds 4 ?_
  rw [rounds_succ]
  go_wp2_with (go_at_call 25; refine (num_calls (w.heap.size + 1) _ _ 0 _ 1073741824 _ HS0b.out.rd (by omega) (by have := HSS.out; have := HSS.out; omega) (by omega)).mono ?_)
  rintro e w1 ⟨rfl, R1, O1⟩
  have S1 := HS0b.out.call R1 O1
  rw [H1.out] at S1 ⊢
  clear R1 O1
  have q1 := S1.qc.c 0 (by simp)
  have g1 := S1.qc.f 0
  simp only [List.getElem_cons_zero, List.getElem_cons_succ] at q1
  have S1b := S1.store 0 (by simp) (.int .i64 v1.1)
  simp only [List.set_cons_zero, List.set_cons_succ] at S1b
  have HS1b := Lib.hid S1b
  have p1 := (S1b.kc _ (List.mem_cons_self ..)).1.c 1 (by simp)
  simp only [List.getElem_cons_zero, List.getElem_cons_succ] at p1
  clear S1 S1b
  go_wp2
  rw [rounds_succ]
  go_wp2_with (go_at_call 25; refine (num_calls (w.heap.size + 1) _ _ 1 _ 1073741824 _ HS1b.out.rd (by omega) (by have := Z1.out; have := HSS.out; omega) (by omega)).mono ?_)
  rintro e w2 ⟨rfl, R2, O2⟩
  have S2 := HS1b.out.call R2 O2
  rw [H2.out] at S2 ⊢
  clear R2 O2
  have q2 := S2.qc.c 1 (by simp)
  have g2 := S2.qc.f 1
  simp only [List.getElem_cons_zero, List.getElem_cons_succ] at q2
  have S2b := S2.store 1 (by simp) (.int .i64 v2.1)
  simp only [List.set_cons_zero, List.set_cons_succ] at S2b
  have HS2b := Lib.hid S2b
  have p2 := (S2b.kc _ (List.mem_cons_self ..)).1.c 2 (by simp)
  simp only [List.getElem_cons_zero, List.getElem_cons_succ] at p2
  clear S2 S2b
  go_wp2
  rw [rounds_succ]
  go_wp2_with (go_at_call 25; refine (num_calls (w.heap.size + 1) _ _ 2 _ 1073741824 _ HS2b.out.rd (by omega) (by have := Z2.out; have := HSS.out; omega) (by omega)).mono ?_)
  rintro e w3 ⟨rfl, R3, O3⟩
  have S3 := HS2b.out.call R3 O3
  rw [H3.out] at S3 ⊢
  clear R3 O3
  have q3 := S3.qc.c 2 (by simp)
  have g3 := S3.qc.f 2
  simp only [List.getElem_cons_zero, List.getElem_cons_succ] at q3
  have S3b := S3.store 2 (by simp) (.int .i64 v3.1)
  simp only [List.set_cons_zero, List.set_cons_succ] at S3b
  have HS3b := Lib.hid S3b
  clear S3 S3b
  go_wp2
  rw [rounds_succ]
  go_wp2_with (go_at_call 25; refine (num_calls (w.heap.size + 1) _ _ 3 _ 16 _ HS3b.out.rd (by omega) (by have := Z3.out; have := HSS.out; omega) (by omega)).mono ?_)
  rintro e w4 ⟨rfl, R4, O4⟩
  have S4 := HS3b.out.call R4 O4
  rw [H4.out] at S4 ⊢
  clear R4 O4
  have q4 := S4.qc.c 3 (by simp)
  have g4 := S4.qc.f 3
  simp only [List.getElem_cons_zero, List.getElem_cons_succ] at q4
  have S4b := S4.store 3 (by simp) (.int .i64 v4.1)
  simp only [List.set_cons_zero, List.set_cons_succ] at S4b
  have HS4b := Lib.hid S4b
  clear S4 S4b
  go_wp2_with (go_at_call 26; refine (text_calls (w.heap.size + 1) _ _ 4 _ 64 _ HS4b.out.rd (by omega) (by have := Z4.out; have := HSS.out; omega) (by omega)).mono ?_)
  rintro e w5 ⟨rfl, R5, O5⟩
  have S5 := HS4b.out.call R5 O5
  rw [H5.out] at S5 ⊢
  clear R5 O5
  have q5 := S5.qc.c 4 (by simp)
  have g5 := S5.qc.f 4
  simp only [List.getElem_cons_zero, List.getElem_cons_succ] at q5
  have S5b := S5.store 4 (by simp) (.string v5.1)
  simp only [List.set_cons_zero, List.set_cons_succ] at S5b
  have HS5b := Lib.hid S5b
  clear S5 S5b
  go_wp2_with (go_at_call 25; refine (num_calls (w.heap.size + 1) _ _ 5 _ 1 _ HS5b.out.rd (by omega) (by have := Z5.out; have := HSS.out; omega) (by omega)).mono ?_)
  rintro e w6 ⟨rfl, R6, O6⟩
  have S6 := HS5b.out.call R6 O6
  rw [H6.out] at S6 ⊢
  clear R6 O6
  have q6 := S6.qc.c 5 (by simp)
  have g6 := S6.qc.f 5
  simp only [List.getElem_cons_zero, List.getElem_cons_succ] at q6
  have S6b := S6.store 5 (by simp) (.bool (v6.1 == 1))
  simp only [List.set_cons_zero, List.set_cons_succ] at S6b
  have HS6b := Lib.hid S6b
  clear S6 S6b
  go_wp2_with (go_at_call 25; refine (num_calls (w.heap.size + 1) _ _ 6 _ 1 _ HS6b.out.rd (by omega) (by have := Z6.out; have := HSS.out; omega) (by omega)).mono ?_)
  rintro e w7 ⟨rfl, R7, O7⟩
  have S7 := HS6b.out.call R7 O7
  rw [H7.out] at S7 ⊢
  clear R7 O7
  have q7 := S7.qc.c 7 (by simp)
  have g7 := S7.qc.f 7
  simp only [List.getElem_cons_zero, List.getElem_cons_succ] at q7
  have S7b := S7.store 7 (by simp) (.bool (v7.1 == 1))
  simp only [List.set_cons_zero, List.set_cons_succ] at S7b
  have HS7b := Lib.hid S7b
  clear S7 S7b
  go_wp2_with (go_at_call 25; refine (num_calls (w.heap.size + 1) _ _ 7 _ 16 _ HS7b.out.rd (by omega) (by have := Z7.out; have := HSS.out; omega) (by omega)).mono ?_)
  rintro e w8 ⟨rfl, R8, O8⟩
  have S8 := HS7b.out.call R8 O8
  rw [H8.out] at S8 ⊢
  dsimp only at S8 ⊢
  clear R8 O8
  have LP0 : Aside0 (Lp w (w.heap.size + 1) (w.heap.size + 1 + 1) (w.heap.size) [w.heap.size + 1 + 1 + 1, w.heap.size, w.heap.size + 1 + 1, w.heap.size + 1] [w.heap.size + 1, w.heap.size + 1 + 1, w.heap.size] w8 (rowsI x8 0).2.1 (8 + 2 * ((0 : Nat) : Int)) (rowsI x8 0).2.2 [.int .i64 v1.1, .int .i64 v2.1, .int .i64 v3.1, .int .i64 v4.1, .string v5.1, .bool (v6.1 == 1), .slice none 0 0, .bool (v7.1 == 1)] [.int .i64 0, .int .i64 0, .int .i64 0, .int .i64 0, .string ⟨#[]⟩, .bool false, .slice none 0 0, .bool false] (.slice none ((rowsI x8 0).1.length) 0) (rowsI x8 0).1) := ⟨Lp.start S8 (by simp) (Nat.le_refl _)⟩
  clear S8
  go_wp2
  go_loopg [43] m (fun kq v43 w' => ∃ (i : Nat) (av : List Nat) (A : Option Addr) (c : Nat), v43 = .int .i64 i ∧ Aside0 (kq + i = m) ∧ Aside0 (Lp w (w.heap.size + 1) (w.heap.size + 1 + 1) (w.heap.size) av [w.heap.size + 1, w.heap.size + 1 + 1, w.heap.size] w' (rowsI x8 i).2.1 (8 + 2 * (i : Int)) (rowsI x8 i).2.2 [.int .i64 v1.1, .int .i64 v2.1, .int .i64 v3.1, .int .i64 v4.1, .string v5.1, .bool (v6.1 == 1), .slice A (rowsI x8 i).1.length c, .bool (v7.1 == 1)] [.int .i64 0, .int .i64 0, .int .i64 0, .int .i64 0, .string ⟨#[]⟩, .bool false, .slice none 0 0, .bool false] (.slice A (rowsI x8 i).1.length c) (rowsI x8 i).1))
  case atStart => exact ⟨0, _, none, 0, rfl, ⟨by omega⟩, LP0⟩
  case round =>
    obtain ⟨i, av, A, c, rfl, HK, HL⟩ := hrel
    clear LP0
    have hsz := Lib.hid (rowsI_size x8 i)
    by_cases hi : i < m
    · have c0b : decide ((i : Int) < (m : Int)) = true := decide_eq_true (by omega)
      obtain ⟨k1, hk1⟩ : ∃ v, textR (rowsI x8 i).2.1 (rowsI x8 i).2.2 32 = v := ⟨_, rfl⟩
      obtain ⟨k2, hk2⟩ : ∃ v, textR k1.2.1 k1.2.2 64 = v := ⟨_, rfl⟩
      have hstep : rowsI x8 (i + 1) = ((rowsI x8 i).1 ++ [⟨k1.1, k2.1⟩], k2.2) := by
        show rowStep _ = _
        unfold rowStep
        rw [tx_of _ hk1, tx_of _ hk2]
      have hz1 : k1.2.1.size ≤ (rowsI x8 i).2.1.size := by have h := textR_size (rowsI x8 i).2.1 (rowsI x8 i).2.2 32; rw [hk1] at h; exact h
      have hlen := rowsI_length x8 i
      have HSTEP := Lib.hid hstep
      have HK1 := Lib.hid hk1
      have HK2 := Lib.hid hk2
      have HZ1 := Lib.hid hz1
      have HLEN := Lib.hid hlen
      clear hstep hk1 hk2 hz1 hlen
      generalize rowsI x8 i = p at *
      go_wp2_with (go_at_call 26; refine (text_calls (w.heap.size + 1) av _ (8 + 2 * (i : Int)) _ 32 _ HL.out.rd (by have := HM.out; omega) (by have := hsz.out; have := Z8.out; have := HSS.out; omega) (by omega)).mono ?_)
      rintro e w20 ⟨rfl, R20, O20⟩
      have L1 := HL.out.call R20 O20
      rw [HK1.out] at L1 ⊢
      have L1p := L1.push #[.string k1.1, .string ⟨#[]⟩] 74
      have X1 : CellsAt (w20.alloc (.cells #[.string k1.1, .string ⟨#[]⟩] 74)) w20.heap.size [.string k1.1, .string ⟨#[]⟩] := cells_new w20 #[.string k1.1, .string ⟨#[]⟩] 74
      have HLT := Lib.hid L1.lt
      have HBZ := Lib.hid L1.bel.size
      have HL1 := Lib.hid L1p
      have HX1 := Lib.hid X1
      clear R20 O20 L1 L1p X1
      go_wp2_with (go_at_call 26; refine (text_calls (w.heap.size + 1) (w20.heap.size :: av) _ (8 + 2 * (i : Int) + 1) _ 64 _ HL1.out.rd (by have := HM.out; omega) (by have := HZ1.out; have := hsz.out; have := Z8.out; have := HSS.out; omega) (by omega)).mono ?_)
      rintro e w21 ⟨rfl, R21, O21⟩
      have L2 := HL1.out.call R21 O21
      rw [HK2.out] at L2 ⊢
      have X2 := HX1.out.only (by simp) O21 (by have := HLT.out; omega)
      have y1 := X2.c 1 (by simp)
      have gy1 := X2.f 1
      have L2s := L2.other (t := w20.heap.size) (by simp) (by simp) (by have := HLT.out; omega) (by have := HLT.out; omega) (by have := HLT.out; omega) HBZ.out 1 (.string k2.1)
      have X2s := X2.set 1 (by simp) (.string k2.1)
      simp only [List.getElem_cons_zero, List.getElem_cons_succ] at y1
      simp only [List.set_cons_zero, List.set_cons_succ] at X2s
      have y2 := X2s.c 0 (by simp)
      have y3 := X2s.c 1 (by simp)
      have L3 := L2s.less (fb' := [w.heap.size + 1, w.heap.size + 1 + 1, w.heap.size]) (fun a ha => List.mem_cons_of_mem _ ha) (by simp) (by simp) (by simp)
      have y4 := L3.qc.c 6 (by simp)
      simp only [List.getElem_cons_zero, List.getElem_cons_succ] at y2 y3 y4
      have HL3 := Lib.hid L3
      clear R21 O21 L2 X2 L2s X2s L3
      go_wp2_with ((with_reducible refine gate_builtin (b := .append) (xs := #[.tmp 52, .tmp 54]) rfl ?_); (try (refine gate_guard (by rfl) ?_; dsimp only)); at_builtin; refine Kd.R_append k74 (w0 := w) w.heap.size rfl (.tmp 52) (.tmp 54) 39 74 (.agg #[(.string ⟨#[]⟩), (.string ⟨#[]⟩)]) 32 rfl Tryd.underlying39 info74 rfl (by decide) (by omega) (.slice A p.1.length c) p.1 (⟨k1.1, k2.1⟩ : S74) [.string k1.1, .string k2.1] (fun k => k ∉ [w.heap.size + 1, w.heap.size + 1 + 1, w.heap.size]) (fun _ => False) rfl (by first | (go_simp; done) | (go_simp; rfl)) ?aP (fun _ hk => hk.elim) ?aF ?aO ?aB ?aS ?aL ?_; (case aP => exact k74_mkM _ _ _ _); (case aF => exact (fun k hk => by have := HL3.out.lt; simp only [List.mem_cons, List.not_mem_nil, or_false]; omega)); (case aO => exact HL3.out.row); (case aB => exact HL3.out.bel); (case aS => exact HL3.out.bel.size); (case aL => exact (by have := HLEN.out; have := HM.out; omega)); intro v1x w22 hR hB hG hAt; have L4 := HL3.out.grown hR hB hG hAt; obtain ⟨A1, c1, e1⟩ := Kd.R_slice hR; have e5 : (p.1 ++ [(⟨k1.1, k2.1⟩ : S74)]).length = p.1.length + 1 := (by simp); rw [e5] at e1; subst e1; have y5 := L4.qc.c 6 (by simp); have gy5 := L4.qc.f 6; have HL5 := Lib.hid (L4.store 6 (by simp) (.slice A1 (p.1.length + 1) c1)); have HE5 := Lib.hid e5; clear e5; simp only [List.getElem_cons_zero, List.getElem_cons_succ] at y5; clear hR hB hG hAt L4)
      go_roundg (gk - 1)
      case measure => have := HK.out; omega
      case rel =>
        refine ⟨i + 1, (Value.slice A1 (p.1.length + 1) c1).ownBlock.toList ++ (w20.heap.size :: av), A1, c1, by rw [w_nat i (by have := HM.out; omega)], ⟨by have := HK.out; omega⟩, ⟨?_⟩⟩
        rw [HSTEP.out]
        have e9 : 8 + 2 * ((i + 1 : Nat) : Int) = 8 + 2 * (i : Int) + 1 + 1 := by omega
        rw [e9]
        dsimp only
        rw [HE5.out]
        exact HL5.out
    · have c0b : decide ((i : Int) < (m : Int)) = false := decide_eq_false (by omega)
      have e : i = m := by have := HK.out; omega
      subst e
      have e0 := Lib.hid (end_calls (w.heap.size + 1) _ _ _ _ _ HL.out.hg (by omega) HL.out.rd (by have := HM.out; omega))
      have HOK := Lib.hid HL.out.row
      by_cases hb : ((rowsI x8 i).2.2 = true ∨ ¬ (rowsI x8 i).2.1.size = 0)
      · rw [if_pos hb] at e0
        have eP := HP.out
        rw [if_pos hb] at eP
        subst eP
        clear hb HP
        go_wp2_with (go_at_call 27; refine e0.out.mono ?_)
        rintro e w90 ⟨rfl, O90⟩
        have B90 := Lib.hid (HL.out.bel.trans (O90.below HL.out.r0 HL.out.bel.size))
        have K90 := HL.out.zc.only (by simp) O90 HL.out.zr
        have y0 : w90.cell? ⟨w.heap.size, 0, none⟩ = some (.int .i64 0) := K90.c 0 (by simp)
        have y1 : w90.cell? ⟨w.heap.size, 1, none⟩ = some (.int .i64 0) := K90.c 1 (by simp)
        have y2 : w90.cell? ⟨w.heap.size, 2, none⟩ = some (.int .i64 0) := K90.c 2 (by simp)
        have y3 : w90.cell? ⟨w.heap.size, 3, none⟩ = some (.int .i64 0) := K90.c 3 (by simp)
        have y4 : w90.cell? ⟨w.heap.size, 4, none⟩ = some (.string ⟨#[]⟩) := K90.c 4 (by simp)
        have y5 : w90.cell? ⟨w.heap.size, 5, none⟩ = some (.bool false) := K90.c 5 (by simp)
        have y6 : w90.cell? ⟨w.heap.size, 6, none⟩ = some (.slice none 0 0) := K90.c 6 (by simp)
        have y7 : w90.cell? ⟨w.heap.size, 7, none⟩ = some (.bool false) := K90.c 7 (by simp)
        have f0 := K90.f 0
        have f1 := K90.f 1
        have f2 := K90.f 2
        have f3 := K90.f 3
        have f4 := K90.f 4
        have f5 := K90.f 5
        have f6 := K90.f 6
        have f7 := K90.f 7
        have HK90 := Lib.hid K90
        clear K90 O90
        go_wp2
        have KF := ((((((((HK90.out).set 0 (by simp) (.int .i64 0)).set 1 (by simp) (.int .i64 0)).set 2 (by simp) (.int .i64 0)).set 3 (by simp) (.int .i64 0)).set 4 (by simp) (.string ⟨#[]⟩)).set 5 (by simp) (.bool false)).set 6 (by simp) (.slice none 0 0)).set 7 (by simp) (.bool false)
        try simp only [Exit.inBlock, Exit.then]
        have HLD := load_rep _ _ _ KF (.int .i64 0) (.int .i64 0) (.int .i64 0) (.int .i64 0) (.string ⟨#[]⟩) (.bool false) (.slice none 0 0) (.bool false) rfl
        refine bodyPost_ret (results_cell_tmp Tryd.results17 _ _ _ ⟨w.heap.size, 0, none⟩ _ rfl HLD) rfl ?_
        refine ⟨.slice none 0 0, ?_, ?_, ?_⟩
        · rfl
        · exact Kd.R_nil _ _ _ _ _
        · exact ((((((((B90.out).setCell (p := ⟨w.heap.size, _, none⟩) (Nat.le_refl _) _).setCell (p := ⟨w.heap.size, _, none⟩) (Nat.le_refl _) _).setCell (p := ⟨w.heap.size, _, none⟩) (Nat.le_refl _) _).setCell (p := ⟨w.heap.size, _, none⟩) (Nat.le_refl _) _).setCell (p := ⟨w.heap.size, _, none⟩) (Nat.le_refl _) _).setCell (p := ⟨w.heap.size, _, none⟩) (Nat.le_refl _) _).setCell (p := ⟨w.heap.size, _, none⟩) (Nat.le_refl _) _).setCell (p := ⟨w.heap.size, _, none⟩) (Nat.le_refl _) _
      · rw [if_neg hb] at e0
        have eP := HP.out
        rw [if_neg hb] at eP
        have HPX := Lib.hid eP
        clear hb HP eP
        go_wp2_with (go_at_call 27; refine e0.out.mono ?_)
        rintro e w90 ⟨rfl, O90⟩
        have B90 := Lib.hid (HL.out.bel.trans (O90.below HL.out.r0 HL.out.bel.size))
        have K90 := HL.out.zc.only (by simp) O90 HL.out.zr
        have Q90 := HL.out.qc.only (by simp) O90 HL.out.qr
        have R90 := Kd.R_step HOK.out (fun k hk hlt => O90.block k hlt (fun e => hk (by rw [e]; simp)))
        obtain ⟨A9, c9, e9, hc9, hC9⟩ := Kd.R_reads R90
        cases e9
        have x0 := Q90.c 0 (by simp)
        have x1 := Q90.c 1 (by simp)
        have x2 := Q90.c 2 (by simp)
        have x3 := Q90.c 3 (by simp)
        have x4 := Q90.c 4 (by simp)
        have x5 := Q90.c 5 (by simp)
        have x6 := Q90.c 6 (by simp)
        have x7 := Q90.c 7 (by simp)
        simp only [List.getElem_cons_zero, List.getElem_cons_succ] at x0 x1 x2 x3 x4 x5 x6 x7
        have HC9 := Lib.hid hC9
        have Hc9 := Lib.hid hc9
        have HR90 := Lib.hid R90
        have HK90 := Lib.hid K90
        have HQ90 := Lib.hid Q90
        clear hC9 hc9 R90 K90 Q90 O90 HK
        go_wp2_with (go_at_call 32; refine (wire_mayReply.calls v1.1 v2.1 v3.1 v4.1 v5.1 (v6.1 == 1) A c (rowsI x8 i).1 (v7.1 == 1) mb _ HC9.out Hc9.out HMB.out).mono ?_)
        rintro e w91 ⟨rfl, b91⟩
        have B91 := Lib.hid (B90.out.trans (b91.mono B90.out.size))
        have K91 := HK90.out.below (by simp) b91
        have Q91 := HQ90.out.below (by simp) b91
        have R91 := Kd.R_below HR90.out b91
        have y0 : w91.cell? ⟨w.heap.size, 0, none⟩ = some (.int .i64 0) := K91.c 0 (by simp)
        have y1 : w91.cell? ⟨w.heap.size, 1, none⟩ = some (.int .i64 0) := K91.c 1 (by simp)
        have y2 : w91.cell? ⟨w.heap.size, 2, none⟩ = some (.int .i64 0) := K91.c 2 (by simp)
        have y3 : w91.cell? ⟨w.heap.size, 3, none⟩ = some (.int .i64 0) := K91.c 3 (by simp)
        have y4 : w91.cell? ⟨w.heap.size, 4, none⟩ = some (.string ⟨#[]⟩) := K91.c 4 (by simp)
        have y5 : w91.cell? ⟨w.heap.size, 5, none⟩ = some (.bool false) := K91.c 5 (by simp)
        have y6 : w91.cell? ⟨w.heap.size, 6, none⟩ = some (.slice none 0 0) := K91.c 6 (by simp)
        have y7 : w91.cell? ⟨w.heap.size, 7, none⟩ = some (.bool false) := K91.c 7 (by simp)
        have f0 := K91.f 0
        have f1 := K91.f 1
        have f2 := K91.f 2
        have f3 := K91.f 3
        have f4 := K91.f 4
        have f5 := K91.f 5
        have f6 := K91.f 6
        have f7 := K91.f 7
        have u0 := Q91.c 0 (by simp)
        have u1 := Q91.c 1 (by simp)
        have u2 := Q91.c 2 (by simp)
        have u3 := Q91.c 3 (by simp)
        have u4 := Q91.c 4 (by simp)
        have u5 := Q91.c 5 (by simp)
        have u6 := Q91.c 6 (by simp)
        have u7 := Q91.c 7 (by simp)
        simp only [List.getElem_cons_zero, List.getElem_cons_succ] at u0 u1 u2 u3 u4 u5 u6 u7
        have HR91 := Lib.hid R91
        have HK91 := Lib.hid K91
        clear b91 K91 Q91 R91
        cases mb with
        | true =>
          have eP := HPX.out
          rw [if_pos rfl] at eP
          subst eP
          clear HPX
          go_wp2
          have KF := ((((((((HK91.out).set 0 (by simp) (.int .i64 v1.1)).set 1 (by simp) (.int .i64 v2.1)).set 2 (by simp) (.int .i64 v3.1)).set 3 (by simp) (.int .i64 v4.1)).set 4 (by simp) (.string v5.1)).set 5 (by simp) (.bool (v6.1 == 1))).set 6 (by simp) (.slice A (rowsI x8 i).1.length c)).set 7 (by simp) (.bool (v7.1 == 1))
          try simp only [Exit.inBlock, Exit.then]
          have HLD := load_rep _ _ _ KF (.int .i64 v1.1) (.int .i64 v2.1) (.int .i64 v3.1) (.int .i64 v4.1) (.string v5.1) (.bool (v6.1 == 1)) (.slice A (rowsI x8 i).1.length c) (.bool (v7.1 == 1)) rfl
          refine bodyPost_ret (results_cell_tmp Tryd.results17 _ _ _ ⟨w.heap.size, 0, none⟩ _ rfl HLD) rfl ?_
          refine ⟨.slice A (rowsI x8 i).1.length c, ?_, ?_, ?_⟩
          · rfl
          · exact Kd.R_mono (Kd.R_step (Kd.R_step (Kd.R_step (Kd.R_step (Kd.R_step (Kd.R_step (Kd.R_step (Kd.R_step (HR91.out) (fun k hk _ => Below.heap_setCell _ _ _ k (fun e => hk (by rw [e]; simp)))) (fun k hk _ => Below.heap_setCell _ _ _ k (fun e => hk (by rw [e]; simp)))) (fun k hk _ => Below.heap_setCell _ _ _ k (fun e => hk (by rw [e]; simp)))) (fun k hk _ => Below.heap_setCell _ _ _ k (fun e => hk (by rw [e]; simp)))) (fun k hk _ => Below.heap_setCell _ _ _ k (fun e => hk (by rw [e]; simp)))) (fun k hk _ => Below.heap_setCell _ _ _ k (fun e => hk (by rw [e]; simp)))) (fun k hk _ => Below.heap_setCell _ _ _ k (fun e => hk (by rw [e]; simp)))) (fun k hk _ => Below.heap_setCell _ _ _ k (fun e => hk (by rw [e]; simp)))) (fun _ _ => trivial)
          · exact ((((((((B91.out).setCell (p := ⟨w.heap.size, _, none⟩) (Nat.le_refl _) _).setCell (p := ⟨w.heap.size, _, none⟩) (Nat.le_refl _) _).setCell (p := ⟨w.heap.size, _, none⟩) (Nat.le_refl _) _).setCell (p := ⟨w.heap.size, _, none⟩) (Nat.le_refl _) _).setCell (p := ⟨w.heap.size, _, none⟩) (Nat.le_refl _) _).setCell (p := ⟨w.heap.size, _, none⟩) (Nat.le_refl _) _).setCell (p := ⟨w.heap.size, _, none⟩) (Nat.le_refl _) _).setCell (p := ⟨w.heap.size, _, none⟩) (Nat.le_refl _) _
        | false =>
          have eP := HPX.out
          rw [if_neg (by decide)] at eP
          subst eP
          clear HPX
          go_wp2
          have KF := ((((((((HK91.out).set 0 (by simp) (.int .i64 0)).set 1 (by simp) (.int .i64 0)).set 2 (by simp) (.int .i64 0)).set 3 (by simp) (.int .i64 0)).set 4 (by simp) (.string ⟨#[]⟩)).set 5 (by simp) (.bool false)).set 6 (by simp) (.slice none 0 0)).set 7 (by simp) (.bool false)
          try simp only [Exit.inBlock, Exit.then]
          have HLD := load_rep _ _ _ KF (.int .i64 0) (.int .i64 0) (.int .i64 0) (.int .i64 0) (.string ⟨#[]⟩) (.bool false) (.slice none 0 0) (.bool false) rfl
          refine bodyPost_ret (results_cell_tmp Tryd.results17 _ _ _ ⟨w.heap.size, 0, none⟩ _ rfl HLD) rfl ?_
          refine ⟨.slice none 0 0, ?_, ?_, ?_⟩
          · rfl
          · exact Kd.R_nil _ _ _ _ _
          · exact ((((((((B91.out).setCell (p := ⟨w.heap.size, _, none⟩) (Nat.le_refl _) _).setCell (p := ⟨w.heap.size, _, none⟩) (Nat.le_refl _) _).setCell (p := ⟨w.heap.size, _, none⟩) (Nat.le_refl _) _).setCell (p := ⟨w.heap.size, _, none⟩) (Nat.le_refl _) _).setCell (p := ⟨w.heap.size, _, none⟩) (Nat.le_refl _) _).setCell (p := ⟨w.heap.size, _, none⟩) (Nat.le_refl _) _).setCell (p := ⟨w.heap.size, _, none⟩) (Nat.le_refl _) _).setCell (p := ⟨w.heap.size, _, none⟩) (Nat.le_refl _) _
end Go.Proofs.YtlpcidjmaeicoaaDoor.Reader
namespace Go.Proofs.YtlpcidjmaeicoaaDoor.QWi
open Go Go.RowKit Go.Proofs.YtlpcidjmaeicoaaDoor.Reader Go.Proofs.YtlpcidjmaeicoaaDoorW.PrintWords
def mayB (a0 a1 a2 a3 : Int) (a4 : ByteArray) (a5 : Bool) (l : List S74) (a7 : Bool) : Bool := (wire_mayReply.f a0 a1 a2 a3 a4 a5 l a7).getD false
theorem w_back (i : Nat) (h : i < 9223372036854775807) (h1 : 1 ≤ i) : wrap64 ((i : Int) - 1) = ((i - 1 : Nat) : Int) := by
  unfold wrap64
  omega
theorem right_at (l : List S74) (hl : l.length ≤ 16) : ∀ (d i k : Nat), l.length + 1 - i = d → 1 ≤ i → d < k → ∃ b, table_Right.l0 k l (i : Int) = some b := by
  intro d
  induction d with
  | zero =>
    intro i k hd h1 hk
    obtain ⟨k, rfl⟩ : ∃ j, k = j + 1 := ⟨k - 1, by omega⟩
    rw [table_Right.l0, if_neg (by omega)]
    exact ⟨_, rfl⟩
  | succ d ih =>
    intro i k hd h1 hk
    obtain ⟨k, rfl⟩ : ∃ j, k = j + 1 := ⟨k - 1, by omega⟩
    rw [table_Right.l0]
    by_cases hx : (i : Int) < (l.length : Int)
    · rw [if_pos hx, w_back i (by omega) h1, w_nat i (by omega), if_pos (by omega), if_pos (by omega), if_pos (by omega)]
      split
      · exact ih (i + 1) k (by omega) (by omega) (by omega)
      · exact ⟨_, rfl⟩
    · rw [if_neg hx]
      exact ⟨_, rfl⟩
theorem mayReply_some (a0 a1 a2 a3 : Int) (a4 : ByteArray) (a5 : Bool) (l : List S74) (a7 : Bool) : wire_mayReply.f a0 a1 a2 a3 a4 a5 l a7 = some (mayB a0 a1 a2 a3 a4 a5 l a7) := by
  have h : ∃ b, wire_mayReply.f a0 a1 a2 a3 a4 a5 l a7 = some b := by
    unfold wire_mayReply.f
    by_cases c6 : 16 < (l.length : Int)
    · simp only [if_pos c6]
      repeat' split
      all_goals exact ⟨_, rfl⟩
    · obtain ⟨b, hb⟩ : ∃ b, table_Right.f 20 l = some b := right_at l (by omega) _ 1 20 rfl (Nat.le_refl _) (by omega)
      rw [hb]
      cases b with
      | false =>
        repeat' split
        all_goals first | exact ⟨_, rfl⟩ | contradiction
      | true =>
        repeat' split
        all_goals first | exact ⟨_, rfl⟩ | contradiction
  obtain ⟨b, hb⟩ := h
  unfold mayB
  rw [hb]
  rfl
abbrev P9 : Type := Int × Int × Int × Int × ByteArray × Bool × List S74 × Bool × Int
def flatP (P : S41 × Int) : P9 := (P.1.f0, P.1.f1, P.1.f2, P.1.f3, P.1.f4, P.1.f5, P.1.f6, P.1.f7, P.2)
def goodP (a0 a1 a2 a3 : Int) (t : ByteArray) (f o : Bool) (p : List S74 × ByteArray × Bool) : S41 × Int :=
  if p.2.2 = true ∨ ¬ p.2.1.size = 0 then (z41, 3) else if mayB a0 a1 a2 a3 t f p.1 o = true then (⟨a0, a1, a2, a3, t, f, p.1, o⟩, 0) else (z41, 3)
def takeReplyF (s : ByteArray) : S41 × Int :=
  nx (s, false) 1073741824 fun a1 x1 => nx x1 1073741824 fun a2 x2 => nx x2 1073741824 fun a3 x3 => nx x3 16 fun a4 x4 => tx x4 64 fun a5 x5 => nx x5 1 fun a6 x6 => nx x6 1 fun a7 x7 => nx x7 16 fun a8 x8 =>
    goodP a1 a2 a3 a4 a5 (a6 == 1) (a7 == 1) (rowsI x8 a8.toNat)
theorem numR_nonneg (s : ByteArray) (bad : Bool) (most : Int) (h : 0 ≤ most) : 0 ≤ (numR s bad most).1 ∧ (numR s bad most).1 ≤ most := by
  unfold numR
  split
  · exact ⟨Int.le_refl _, h⟩
  · rename_i hx
    have := takeNum_nonneg s
    simp only [not_or] at hx
    exact ⟨this, by omega⟩
theorem takeReply_all (s : ByteArray) (hs : s.size ≤ 9223372036854775807) (w : World) (hg : Handle w) : Calls Tryd.prog 17 #[.string s] w fun e w' => ∃ vr, e = .returned (repOut (takeReplyF s) vr) ∧ Kd.R k74 74 w' w.heap.size (fun _ => True) vr (takeReplyF s).1.f6 ∧ Below w.heap.size w w' := by
  obtain ⟨v1, h1⟩ : ∃ v, numR s false 1073741824 = v := ⟨_, rfl⟩
  obtain ⟨v2, h2⟩ : ∃ v, numR v1.2.1 v1.2.2 1073741824 = v := ⟨_, rfl⟩
  obtain ⟨v3, h3⟩ : ∃ v, numR v2.2.1 v2.2.2 1073741824 = v := ⟨_, rfl⟩
  obtain ⟨v4, h4⟩ : ∃ v, numR v3.2.1 v3.2.2 16 = v := ⟨_, rfl⟩
  obtain ⟨v5, h5⟩ : ∃ v, textR v4.2.1 v4.2.2 64 = v := ⟨_, rfl⟩
  obtain ⟨v6, h6⟩ : ∃ v, numR v5.2.1 v5.2.2 1 = v := ⟨_, rfl⟩
  obtain ⟨v7, h7⟩ : ∃ v, numR v6.2.1 v6.2.2 1 = v := ⟨_, rfl⟩
  obtain ⟨v8, h8⟩ : ∃ v, numR v7.2.1 v7.2.2 16 = v := ⟨_, rfl⟩
  have hF : takeReplyF s = goodP v1.1 v2.1 v3.1 v4.1 v5.1 (v6.1 == 1) (v7.1 == 1) (rowsI v8.2 v8.1.toNat) := by
    unfold takeReplyF
    rw [nx_of _ h1, nx_of _ h2, nx_of _ h3, nx_of _ h4, tx_of _ h5, nx_of _ h6, nx_of _ h7, nx_of _ h8]
  have h8b := numR_nonneg v7.2.1 v7.2.2 16 (by omega)
  rw [h8] at h8b
  rw [hF]
  refine rep_walk s w hg hs v1 v2 v3 v4 v5 v6 v7 v8.1.toNat (by omega) v8.2 h1 h2 h3 h4 h5 h6 h7 ?_ _ (mayReply_some ..) _ rfl
  rw [h8]
  exact Prod.ext (by show v8.1 = ((v8.1.toNat : Nat) : Int); omega) rfl
def wire_TakeReply.f (s : ByteArray) : Option P9 := if s.size ≤ 9223372036854775807 then some (flatP (takeReplyF s)) else none
theorem wire_TakeReply.calls (a0 : ByteArray) (r1 r2 r3 r4 : Int) (r5 : ByteArray) (r6 : Bool) (r7 : List S74) (r8 : Bool) (r9 : Int) (w : World) (h : wire_TakeReply.f a0 = some (r1, r2, r3, r4, r5, r6, r7, r8, r9)) (hg : Handle w) :
    Calls Tryd.prog 17 #[.string a0] w fun e w' => ∃ v6_ : Value, e = .returned (.tuple #[.agg #[.int .i64 r1, .int .i64 r2, .int .i64 r3, .int .i64 r4, .string r5, .bool r6, v6_, .bool r8], .int .i64 r9]) ∧ Kd.R k74 74 w' w.heap.size (fun _ => True) v6_ r7 ∧ Below w.heap.size w w' := by
  unfold wire_TakeReply.f at h
  by_cases hs : a0.size ≤ 9223372036854775807
  · rw [if_pos hs] at h
    have e := Option.some.inj h
    have c := takeReply_all a0 hs w hg
    generalize takeReplyF a0 = P at e c
    obtain ⟨⟨b0, b1, b2, b3, b4, b5, b6, b7⟩, b8⟩ := P
    simp only [flatP, Prod.mk.injEq] at e
    obtain ⟨rfl, rfl, rfl, rfl, rfl, rfl, rfl, rfl, rfl⟩ := e
    exact c
  · rw [if_neg hs] at h
    cases h
end Go.Proofs.YtlpcidjmaeicoaaDoor.QWi
namespace Go.Proofs.YtlpcidjmaeicoaaDoor.QWi
open Go.RowKit Go.Proofs.YtlpcidjmaeicoaaDoorW.PrintWords Go.Proofs.YtlpcidjmaeicoaaDoorW.PrintLast Go.Proofs.YtlpcidjmaeicoaaDoorW.PrintMore
attribute [local go_sem] max2_int min2_int max_two min_two max_three min_three max_four min_four
set_option linter.unusedVariables false
set_option linter.unusedSimpArgs false
theorem eqA74 (d : Nat) (w : World) (x0 y0 : ByteArray) (x1 y1 : ByteArray) :
    (Op.equalIn (d + 2) 74 (.agg #[.string x0, .string x1]) (.agg #[.string y0, .string y1])).run Tryd.prog w = .ok (x0.toList == y0.toList && (x1.toList == y1.toList)) w := by
  refine eqA_of Tryd.underlying74 (by kernel_rfl) ?_
  refine eqf_cons (by rfl) (by go_simp; rfl) (by go_simp; rfl) (by go_simp) ?_
  exact eqf_last (by rfl) (by go_simp; rfl) (by go_simp; rfl) (by go_simp)
end Go.Proofs.YtlpcidjmaeicoaaDoor.QWi
namespace Go.Proofs.YtlpcidjmaeicoaaDoor.QWi
open Go.RowKit Go.Proofs.YtlpcidjmaeicoaaDoorW.PrintWords Go.Proofs.YtlpcidjmaeicoaaDoorW.PrintLast Go.Proofs.YtlpcidjmaeicoaaDoorW.PrintMore
attribute [local go_sem] max2_int min2_int max_two min_two max_three min_three max_four min_four
set_option linter.unusedVariables false
set_option linter.unusedSimpArgs false
attribute [local go_sem high] eqA74
def stanchionref05_Same.l0 : Nat → List (S74) → List (S74) → Int → Option (Bool)
  | 0, _, _, _ => none
  | k + 1, x0, x1, x5 => if x5 < (x0.length : Int) then (if 0 ≤ x5 then (if x5 < (x1.length : Int) then (if (!((((rd_T74 x0 x5).f0).toList) == (((rd_T74 x1 x5).f0).toList)) || (!((((rd_T74 x0 x5).f1).toList) == (((rd_T74 x1 x5).f1).toList)))) = true then (some false) else (stanchionref05_Same.l0 k x0 x1 (wrap64 (x5 + 1)))) else (none)) else (none)) else (some true)
def stanchionref05_Same.f (k : Nat) (l0 : List (S74)) (l1 : List (S74)) : Option (Bool) := if (l0.length : Int) = (l1.length : Int) then (stanchionref05_Same.l0 k l0 l1 0) else (some false)
set_option maxHeartbeats 8000000 in
set_option maxRecDepth 100000 in
theorem stanchionref05_Same.calls (k : Nat) (A0 : Option Addr) (c0 : Nat) (l0 : List (S74)) (A1 : Option Addr) (c1 : Nat) (l1 : List (S74)) (r : Bool) (w : World) (hr0 : Kd.C k74 w A0 l0.length l0) (hc0 : l0.length ≤ c0) (hr1 : Kd.C k74 w A1 l1.length l1) (hc1 : l1.length ≤ c1) (h : stanchionref05_Same.f k l0 l1 = some r) :
    Calls Tryd.prog 36 #[.slice A0 l0.length c0, .slice A1 l1.length c1] w fun e w' => e = .returned (.bool r) ∧ Drawn0 w w' := by
  have hu74 := Tryd.underlying74
  have HR0 := Aside0.mk hr0
  have HC0 := Aside0.mk hc0
  clear hr0 hc0
  have HR1 := Aside0.mk hr1
  have HC1 := Aside0.mk hc1
  clear hr1 hc1
  have H : (if (l0.length : Int) = (l1.length : Int) then (stanchionref05_Same.l0 k l0 l1 0) else (some false)) = some r := h
  clear h
  by_cases c3 : (l0.length : Int) = (l1.length : Int)
  · rw [if_pos c3] at H
    have c3b0 : ((l0.length : Int) == (l1.length : Int)) = true := beq_iff_eq.mpr c3
    have c3b1 : ((l0.length : Int) != (l1.length : Int)) = false := bne_eq_false_iff_eq.mpr c3
    have c3b2 : (l0.length == l1.length) = true := by first | simpa using c3 | (simp at c3 ⊢; omega)
    clear c3
    have H' := Aside0.mk H
    clear H
    go_enter Tryd.func36, Tryd.ntmps36
    go_wp2
    repeat (go_quiet (fail); try go_wp2)
    go_loopg [5] k (fun kq v5 w' => ∃ (x5_1 : Int), v5 = .int .i64 x5_1 ∧ Aside0 (stanchionref05_Same.l0 kq l0 l1 x5_1 = some r) ∧ Aside0 (kq ≤ k) ∧ Drawn0 w w')
    case atStart => exact ⟨(0), (by first | rfl | (simp; done) | (simp [*]; done)), H', ⟨Nat.le_refl _⟩, by repeat (first | exact Drawn0.refl _ | apply Drawn0.step)⟩
    case round =>
      clear H'
      try clear c1
      try clear p2
      try clear c3
      try clear c3b0
      try clear c3b1
      try clear c3b2
      obtain ⟨x5_1, rfl, HA, HK1, ⟨m1, rfl⟩⟩ := hrel
      cases gk with
      | zero => exact absurd HA.out (by simp [stanchionref05_Same.l0])
      | succ k1 =>
        have H := HA.out
        clear HA
        simp only [stanchionref05_Same.l0] at H
        by_cases c4 : x5_1 < (l0.length : Int)
        · rw [if_pos c4] at H
          have c4b0 : decide (x5_1 < (l0.length : Int)) = true := decide_eq_true c4
          clear c4
          by_cases c5 : 0 ≤ x5_1
          · rw [if_pos c5] at H
            have c5b0 : decide (0 ≤ x5_1) = true := decide_eq_true c5
            clear c5
            by_cases c6 : x5_1 < (l1.length : Int)
            · rw [if_pos c6] at H
              have c6b0 : decide (x5_1 < (l1.length : Int)) = true := decide_eq_true c6
              clear c6
              by_cases c7 : (!((((rd_T74 l0 x5_1).f0).toList) == (((rd_T74 l1 x5_1).f0).toList)) || (!((((rd_T74 l0 x5_1).f1).toList) == (((rd_T74 l1 x5_1).f1).toList)))) = true
              · rw [if_pos c7] at H
                have c7b0 : (!((((rd_T74 l0 x5_1).f0).toList) == (((rd_T74 l1 x5_1).f0).toList)) || (!((((rd_T74 l0 x5_1).f1).toList) == (((rd_T74 l1 x5_1).f1).toList)))) = true := c7
                clear c7
                obtain rfl := Option.some.inj H
                have p204 : 0 ≤ (x5_1 : Int) := of_decide_eq_true (by first | (with_reducible assumption) | assumption)
                have q204 : x5_1 < (l0.length : Int) := of_decide_eq_true (by first | (with_reducible assumption) | assumption)
                obtain ⟨ad204, e204, hx204_0, hx204_1⟩ := at_T74 HR0.out x5_1 p204 q204
                cases e204
                replace p204 := eq_true p204
                replace q204 := eq_true q204
                have p205 : 0 ≤ (x5_1 : Int) := of_decide_eq_true (by first | (with_reducible assumption) | assumption)
                have q205 : x5_1 < (l1.length : Int) := of_decide_eq_true (by first | (with_reducible assumption) | assumption)
                obtain ⟨ad205, e205, hx205_0, hx205_1⟩ := at_T74 HR1.out x5_1 p205 q205
                cases e205
                replace p205 := eq_true p205
                replace q205 := eq_true q205
                go_wp2
                repeat (go_quiet (fail); try go_wp2)
                go_ret
                exact ⟨by first | rfl | (simp; done) | (simp [*]; done), by repeat (first | exact Drawn0.refl _ | apply Drawn0.step)⟩
              · rw [if_neg c7] at H
                have c7b0 : (!((((rd_T74 l0 x5_1).f0).toList) == (((rd_T74 l1 x5_1).f0).toList)) || (!((((rd_T74 l0 x5_1).f1).toList) == (((rd_T74 l1 x5_1).f1).toList)))) = false := by simpa using c7
                clear c7
                have H' := Aside0.mk H
                clear H
                have p204 : 0 ≤ (x5_1 : Int) := of_decide_eq_true (by first | (with_reducible assumption) | assumption)
                have q204 : x5_1 < (l0.length : Int) := of_decide_eq_true (by first | (with_reducible assumption) | assumption)
                obtain ⟨ad204, e204, hx204_0, hx204_1⟩ := at_T74 HR0.out x5_1 p204 q204
                cases e204
                replace p204 := eq_true p204
                replace q204 := eq_true q204
                have p205 : 0 ≤ (x5_1 : Int) := of_decide_eq_true (by first | (with_reducible assumption) | assumption)
                have q205 : x5_1 < (l1.length : Int) := of_decide_eq_true (by first | (with_reducible assumption) | assumption)
                obtain ⟨ad205, e205, hx205_0, hx205_1⟩ := at_T74 HR1.out x5_1 p205 q205
                cases e205
                replace p205 := eq_true p205
                replace q205 := eq_true q205
                go_wp2
                repeat (go_quiet (fail); try go_wp2)
                go_roundg k1
                case measure => have := HK1.out; omega
                case rel => exact ⟨(wrap64 (x5_1 + 1)), (by first | rfl | (simp; done) | (simp [*]; done)), H', ⟨by have := HK1.out; omega⟩, by repeat (first | exact Drawn0.refl _ | apply Drawn0.step)⟩
            · rw [if_neg c6] at H
              exact absurd H (by simp)
          · rw [if_neg c5] at H
            exact absurd H (by simp)
        · rw [if_neg c4] at H
          have c4b0 : decide (x5_1 < (l0.length : Int)) = false := decide_eq_false c4
          clear c4
          obtain rfl := Option.some.inj H
          go_wp2
          repeat (go_quiet (fail); try go_wp2)
          go_ret
          exact ⟨by first | rfl | (simp; done) | (simp [*]; done), by repeat (first | exact Drawn0.refl _ | apply Drawn0.step)⟩
  · rw [if_neg c3] at H
    have c3b0 : ((l0.length : Int) == (l1.length : Int)) = false := beq_eq_false_iff_ne.mpr c3
    have c3b1 : ((l0.length : Int) != (l1.length : Int)) = true := bne_iff_ne.mpr c3
    have c3b2 : (l0.length == l1.length) = false := by first | simpa using c3 | (simp at c3 ⊢; omega)
    obtain rfl := Option.some.inj H
    go_enter Tryd.func36, Tryd.ntmps36
    go_wp2
    repeat (go_quiet (fail); try go_wp2)
    go_ret
    exact ⟨by first | rfl | (simp; done) | (simp [*]; done), by repeat (first | exact Drawn0.refl _ | apply Drawn0.step)⟩
def stanchionref16_Same.f (k : Nat) (a0_0 : Int) (a0_1 : Int) (a0_2 : Int) (a0_3 : Int) (a0_4 : ByteArray) (a0_5 : Bool) (l0_6 : List (S74)) (a0_7 : Bool) (a1_0 : Int) (a1_1 : Int) (a1_2 : Int) (a1_3 : Int) (a1_4 : ByteArray) (a1_5 : Bool) (l1_6 : List (S74)) (a1_7 : Bool) : Option (Bool) := (stanchionref05_Same.f k l0_6 l1_6).bind fun t208 => (if t208 = true then (if a0_0 = a1_0 then (if a0_1 = a1_1 then (if a0_2 = a1_2 then (if a0_3 = a1_3 then (if a0_4.toList = a1_4.toList then (if (a0_5 == a1_5) = true then (some (a0_7 == a1_7)) else (some false)) else (some false)) else (some false)) else (some false)) else (some false)) else (some false)) else (some false))
set_option maxHeartbeats 8000000 in
set_option maxRecDepth 100000 in
theorem stanchionref16_Same.calls (k : Nat) (a0_0 : Int) (a0_1 : Int) (a0_2 : Int) (a0_3 : Int) (a0_4 : ByteArray) (a0_5 : Bool) (A0_6 : Option Addr) (c0_6 : Nat) (l0_6 : List (S74)) (a0_7 : Bool) (a1_0 : Int) (a1_1 : Int) (a1_2 : Int) (a1_3 : Int) (a1_4 : ByteArray) (a1_5 : Bool) (A1_6 : Option Addr) (c1_6 : Nat) (l1_6 : List (S74)) (a1_7 : Bool) (r : Bool) (w : World) (hr0_6 : Kd.C k74 w A0_6 l0_6.length l0_6) (hc0_6 : l0_6.length ≤ c0_6) (hr1_6 : Kd.C k74 w A1_6 l1_6.length l1_6) (hc1_6 : l1_6.length ≤ c1_6) (h : stanchionref16_Same.f k a0_0 a0_1 a0_2 a0_3 a0_4 a0_5 l0_6 a0_7 a1_0 a1_1 a1_2 a1_3 a1_4 a1_5 l1_6 a1_7 = some r) :
    Calls Tryd.prog 19 #[.agg #[.int .i64 a0_0, .int .i64 a0_1, .int .i64 a0_2, .int .i64 a0_3, .string a0_4, .bool a0_5, .slice A0_6 l0_6.length c0_6, .bool a0_7], .agg #[.int .i64 a1_0, .int .i64 a1_1, .int .i64 a1_2, .int .i64 a1_3, .string a1_4, .bool a1_5, .slice A1_6 l1_6.length c1_6, .bool a1_7]] w fun e w' => e = .returned (.bool r) ∧ Below w.heap.size w w' := by
  have hu41 := Tryd.underlying41
  have HR0_6 := Aside0.mk hr0_6
  have HC0_6 := Aside0.mk hc0_6
  clear hr0_6 hc0_6
  have HR1_6 := Aside0.mk hr1_6
  have HC1_6 := Aside0.mk hc1_6
  clear hr1_6 hc1_6
  have HB := Aside0.mk (Below.refl w.heap.size w)
  have H : ((stanchionref05_Same.f k l0_6 l1_6).bind fun t208 => (if t208 = true then (if a0_0 = a1_0 then (if a0_1 = a1_1 then (if a0_2 = a1_2 then (if a0_3 = a1_3 then (if a0_4.toList = a1_4.toList then (if (a0_5 == a1_5) = true then (some (a0_7 == a1_7)) else (some false)) else (some false)) else (some false)) else (some false)) else (some false)) else (some false)) else (some false))) = some r := h
  clear h
  replace H := Option.bind_eq_some_iff.mp H
  obtain ⟨t208, A30, H⟩ := H
  replace H : (if t208 = true then (if a0_0 = a1_0 then (if a0_1 = a1_1 then (if a0_2 = a1_2 then (if a0_3 = a1_3 then (if a0_4.toList = a1_4.toList then (if (a0_5 == a1_5) = true then (some (a0_7 == a1_7)) else (some false)) else (some false)) else (some false)) else (some false)) else (some false)) else (some false)) else (some false)) = some r := H
  have A3 := Aside0.mk A30
  clear A30
  by_cases c4 : t208 = true
  · subst c4
    have H1 : (if a0_0 = a1_0 then (if a0_1 = a1_1 then (if a0_2 = a1_2 then (if a0_3 = a1_3 then (if a0_4.toList = a1_4.toList then (if (a0_5 == a1_5) = true then (some (a0_7 == a1_7)) else (some false)) else (some false)) else (some false)) else (some false)) else (some false)) else (some false)) = some r := by rw [if_pos rfl] at H; exact H
    clear H
    have H := H1
    clear H1
    by_cases c5 : a0_0 = a1_0
    · rw [if_pos c5] at H
      have c5b0 : (a0_0 == a1_0) = true := beq_iff_eq.mpr c5
      have c5b1 : (a0_0 != a1_0) = false := bne_eq_false_iff_eq.mpr c5
      clear c5
      by_cases c6 : a0_1 = a1_1
      · rw [if_pos c6] at H
        have c6b0 : (a0_1 == a1_1) = true := beq_iff_eq.mpr c6
        have c6b1 : (a0_1 != a1_1) = false := bne_eq_false_iff_eq.mpr c6
        clear c6
        by_cases c7 : a0_2 = a1_2
        · rw [if_pos c7] at H
          have c7b0 : (a0_2 == a1_2) = true := beq_iff_eq.mpr c7
          have c7b1 : (a0_2 != a1_2) = false := bne_eq_false_iff_eq.mpr c7
          clear c7
          by_cases c8 : a0_3 = a1_3
          · rw [if_pos c8] at H
            have c8b0 : (a0_3 == a1_3) = true := beq_iff_eq.mpr c8
            have c8b1 : (a0_3 != a1_3) = false := bne_eq_false_iff_eq.mpr c8
            clear c8
            by_cases c9 : a0_4.toList = a1_4.toList
            · rw [if_pos c9] at H
              have c9b0 : (a0_4.toList == a1_4.toList) = true := beq_iff_eq.mpr c9
              have c9b1 : (a0_4.toList != a1_4.toList) = false := bne_eq_false_iff_eq.mpr c9
              clear c9
              by_cases c10 : (a0_5 == a1_5) = true
              · rw [if_pos c10] at H
                have c10b0 : (a0_5 == a1_5) = true := c10
                (try (have c10b1 : decide (a0_5 = a1_5) = true := by simpa using c10))
                (try (have c10b2 : (a0_5 == a1_5) = true := by simpa using c10))
                clear c10
                obtain rfl := Option.some.inj H
                go_enter Tryd.func19, Tryd.ntmps19
                go_wp2_with (first | ((with_reducible refine gate_dst (N := 2) rfl ?_); refine box_event ?hg (N := 2) ?hd (cs := #[.int .i64 a0_0, .int .i64 a0_1, .int .i64 a0_2, .int .i64 a0_3, .string a0_4, .bool a0_5, .slice A0_6 l0_6.length c0_6, .bool a0_7]) (t := 41) ?hr ?_; (case hd => rfl); (case hg => rfl); (case hr => first | (go_simp; done) | (go_simp; rfl)); intro gb206 hg w11 hbox hb; have n0_ := Aside0.mk (below_step (by repeat (first | (with_reducible first | exact HB.out | apply below_alloc | apply pw_below_drewN | apply below_drew1) | exact HB.out)) hb); have n1_ := Aside0.mk (hbox); have n2_ := Aside0.mk ((by rw [hg]; exact (below_size (by repeat (first | (with_reducible first | exact HB.out | apply below_alloc | apply pw_below_drewN | apply below_drew1) | exact HB.out))) : w.heap.size ≤ gb206)); have n3_ := Aside0.mk ((by rw [hg]; exact (below_size (by repeat (first | (with_reducible first | exact HB.out | apply below_alloc | apply pw_below_drewN | apply below_drew1) | exact HB.out))) : w.heap.size ≤ gb206)); clear HB; have HB := n0_; have BK206 := n1_; have GW206 := n2_; have GE206 := n3_; clear n0_ n1_ n2_ n3_; clear hb hbox hg) | ((with_reducible refine gate_dst (N := 3) rfl ?_); refine box_event ?hg (N := 3) ?hd (cs := #[.int .i64 a1_0, .int .i64 a1_1, .int .i64 a1_2, .int .i64 a1_3, .string a1_4, .bool a1_5, .slice A1_6 l1_6.length c1_6, .bool a1_7]) (t := 41) ?hr ?_; (case hd => rfl); (case hg => rfl); (case hr => first | (go_simp; done) | (go_simp; rfl)); intro gb207 hg w12 hbox hb; have n0_ := Aside0.mk (blk_below (g := gb206) (o := .cells #[.int .i64 a0_0, .int .i64 a0_1, .int .i64 a0_2, .int .i64 a0_3, .string a0_4, .bool a0_5, .slice A0_6 l0_6.length c0_6, .bool a0_7] 41 (0, 0)) (by (with_reducible repeat (first | refine blk_drewN ?_ _ | refine blk_drew ?_ | refine blk_alloc ?_ _)); exact BK206.out) hb); have n1_ := Aside0.mk (below_step (by repeat (first | (with_reducible first | exact HB.out | apply below_alloc | apply pw_below_drewN | apply below_drew1 | refine below_set ?_ GE206.out) | exact HB.out)) hb); have n2_ := Aside0.mk (hbox); have n3_ := Aside0.mk ((by rw [hg]; exact (below_size (by repeat (first | (with_reducible first | exact HB.out | apply below_alloc | apply pw_below_drewN | apply below_drew1 | refine below_set ?_ GE206.out) | exact HB.out))) : w.heap.size ≤ gb207)); have n4_ := Aside0.mk ((by rw [hg]; exact (below_size (by repeat (first | (with_reducible first | exact HB.out | apply below_alloc | apply pw_below_drewN | apply below_drew1 | refine below_set ?_ GE206.out) | exact HB.out))) : w.heap.size ≤ gb207)); have n5_ := Aside0.mk ((by rw [hg]; exact Nat.ne_of_lt (blk_lt (g := gb206) (o := .cells #[.int .i64 a0_0, .int .i64 a0_1, .int .i64 a0_2, .int .i64 a0_3, .string a0_4, .bool a0_5, .slice A0_6 l0_6.length c0_6, .bool a0_7] 41 (0, 0)) (by (with_reducible repeat (first | refine blk_drewN ?_ _ | refine blk_drew ?_ | refine blk_alloc ?_ _)); exact BK206.out)) : gb206 ≠ gb207)); have n6_ := Aside0.mk ((by rw [hg]; exact Nat.ne_of_gt (blk_lt (g := gb206) (o := .cells #[.int .i64 a0_0, .int .i64 a0_1, .int .i64 a0_2, .int .i64 a0_3, .string a0_4, .bool a0_5, .slice A0_6 l0_6.length c0_6, .bool a0_7] 41 (0, 0)) (by (with_reducible repeat (first | refine blk_drewN ?_ _ | refine blk_drew ?_ | refine blk_alloc ?_ _)); exact BK206.out)) : gb207 ≠ gb206)); clear BK206; clear HB; have BK206 := n0_; have HB := n1_; have BK207 := n2_; have GW207 := n3_; have GE207 := n4_; have NB206_207 := n5_; have NB207_206 := n6_; clear n0_ n1_ n2_ n3_ n4_ n5_ n6_; clear hb hbox hg; have hnb13 := NB206_207.out; have hnc13 := NB207_206.out; have hcz14_0 : w12.cell? ⟨gb206, 0, none⟩ = some (.int .i64 a0_0) := (blk_cell BK206.out 0).trans rfl; have hcz14_1 : w12.cell? ⟨gb206, 1, none⟩ = some (.int .i64 a0_1) := (blk_cell BK206.out 1).trans rfl; have hcz14_2 : w12.cell? ⟨gb206, 2, none⟩ = some (.int .i64 a0_2) := (blk_cell BK206.out 2).trans rfl; have hcz14_3 : w12.cell? ⟨gb206, 3, none⟩ = some (.int .i64 a0_3) := (blk_cell BK206.out 3).trans rfl; have hcz14_4 : w12.cell? ⟨gb206, 4, none⟩ = some (.string a0_4) := (blk_cell BK206.out 4).trans rfl; have hcz14_5 : w12.cell? ⟨gb206, 5, none⟩ = some (.bool a0_5) := (blk_cell BK206.out 5).trans rfl; have hcz14_6 : w12.cell? ⟨gb206, 6, none⟩ = some (.slice A0_6 l0_6.length c0_6) := (blk_cell BK206.out 6).trans rfl; have hcz14_7 : w12.cell? ⟨gb206, 7, none⟩ = some (.bool a0_7) := (blk_cell BK206.out 7).trans rfl; have hfz14_0 := blk_frozen BK206.out 0; have hfz14_1 := blk_frozen BK206.out 1; have hfz14_2 := blk_frozen BK206.out 2; have hfz14_3 := blk_frozen BK206.out 3; have hfz14_4 := blk_frozen BK206.out 4; have hfz14_5 := blk_frozen BK206.out 5; have hfz14_6 := blk_frozen BK206.out 6; have hfz14_7 := blk_frozen BK206.out 7; have hcz15_0 : w12.cell? ⟨gb207, 0, none⟩ = some (.int .i64 a1_0) := (blk_cell BK207.out 0).trans rfl; have hcz15_1 : w12.cell? ⟨gb207, 1, none⟩ = some (.int .i64 a1_1) := (blk_cell BK207.out 1).trans rfl; have hcz15_2 : w12.cell? ⟨gb207, 2, none⟩ = some (.int .i64 a1_2) := (blk_cell BK207.out 2).trans rfl; have hcz15_3 : w12.cell? ⟨gb207, 3, none⟩ = some (.int .i64 a1_3) := (blk_cell BK207.out 3).trans rfl; have hcz15_4 : w12.cell? ⟨gb207, 4, none⟩ = some (.string a1_4) := (blk_cell BK207.out 4).trans rfl; have hcz15_5 : w12.cell? ⟨gb207, 5, none⟩ = some (.bool a1_5) := (blk_cell BK207.out 5).trans rfl; have hcz15_6 : w12.cell? ⟨gb207, 6, none⟩ = some (.slice A1_6 l1_6.length c1_6) := (blk_cell BK207.out 6).trans rfl; have hcz15_7 : w12.cell? ⟨gb207, 7, none⟩ = some (.bool a1_7) := (blk_cell BK207.out 7).trans rfl; have hfz15_0 := blk_frozen BK207.out 0; have hfz15_1 := blk_frozen BK207.out 1; have hfz15_2 := blk_frozen BK207.out 2; have hfz15_3 := blk_frozen BK207.out 3; have hfz15_4 := blk_frozen BK207.out 4; have hfz15_5 := blk_frozen BK207.out 5; have hfz15_6 := blk_frozen BK207.out 6; have hfz15_7 := blk_frozen BK207.out 7) | ((with_reducible refine gate_callee (f := 36) rfl ?_); refine goesL_ (some 10) rfl rfl Tryd.func36 (by kernel_rfl) rfl #[.slice A0_6 l0_6.length c0_6, .slice A1_6 l1_6.length c1_6] rfl (by (try simp only [List.map_toArray, List.map_cons, List.map_nil]); first | done | rfl | (simp only [List.length_drop, List.length_take]; rfl)) ?_; (with_reducible refine (stanchionref05_Same.calls k _ _ l0_6 _ _ l1_6 true _ ?side1 ?side2 ?side3 ?side4 A3.out).mono ?_); (case side1 => repeat (first | exact (Kd.C_below HR0_6.out HB.out) | (with_reducible refine Kd.C_alloc ?_ _) | (with_reducible refine Kd.C_drewN ?_ _) | (with_reducible refine Kd.C_drew ?_))); (case side2 => exact HC0_6.out); (case side3 => repeat (first | exact (Kd.C_below HR1_6.out HB.out) | (with_reducible refine Kd.C_alloc ?_ _) | (with_reducible refine Kd.C_drewN ?_ _) | (with_reducible refine Kd.C_drew ?_))); (case side4 => exact HC1_6.out); rintro e w' ⟨rfl, ⟨nd, rfl⟩⟩; refine ⟨_, rfl, ?_⟩))
                go_ret
                exact ⟨by first | rfl | (simp [errW_none, errW_some] <;> rfl) | (simp [*, errW_none, errW_some] <;> rfl), by repeat (first | (with_reducible first | exact HB.out | apply below_alloc | apply pw_below_drewN | apply below_drew1 | refine below_set ?_ GE206.out | refine below_set ?_ GE207.out) | exact HB.out)⟩
              · rw [if_neg c10] at H
                have c10b0 : (a0_5 == a1_5) = false := by simpa using c10
                (try (have c10b1 : decide (a0_5 = a1_5) = false := by simpa using c10))
                (try (have c10b2 : (a0_5 == a1_5) = false := by simpa using c10))
                (try (have c10b3 : ¬ (a0_5 = a1_5) := by simpa using c10))
                clear c10
                obtain rfl := Option.some.inj H
                go_enter Tryd.func19, Tryd.ntmps19
                go_wp2_with (first | ((with_reducible refine gate_dst (N := 2) rfl ?_); refine box_event ?hg (N := 2) ?hd (cs := #[.int .i64 a0_0, .int .i64 a0_1, .int .i64 a0_2, .int .i64 a0_3, .string a0_4, .bool a0_5, .slice A0_6 l0_6.length c0_6, .bool a0_7]) (t := 41) ?hr ?_; (case hd => rfl); (case hg => rfl); (case hr => first | (go_simp; done) | (go_simp; rfl)); intro gb206 hg w16 hbox hb; have n0_ := Aside0.mk (below_step (by repeat (first | (with_reducible first | exact HB.out | apply below_alloc | apply pw_below_drewN | apply below_drew1) | exact HB.out)) hb); have n1_ := Aside0.mk (hbox); have n2_ := Aside0.mk ((by rw [hg]; exact (below_size (by repeat (first | (with_reducible first | exact HB.out | apply below_alloc | apply pw_below_drewN | apply below_drew1) | exact HB.out))) : w.heap.size ≤ gb206)); have n3_ := Aside0.mk ((by rw [hg]; exact (below_size (by repeat (first | (with_reducible first | exact HB.out | apply below_alloc | apply pw_below_drewN | apply below_drew1) | exact HB.out))) : w.heap.size ≤ gb206)); clear HB; have HB := n0_; have BK206 := n1_; have GW206 := n2_; have GE206 := n3_; clear n0_ n1_ n2_ n3_; clear hb hbox hg) | ((with_reducible refine gate_dst (N := 3) rfl ?_); refine box_event ?hg (N := 3) ?hd (cs := #[.int .i64 a1_0, .int .i64 a1_1, .int .i64 a1_2, .int .i64 a1_3, .string a1_4, .bool a1_5, .slice A1_6 l1_6.length c1_6, .bool a1_7]) (t := 41) ?hr ?_; (case hd => rfl); (case hg => rfl); (case hr => first | (go_simp; done) | (go_simp; rfl)); intro gb207 hg w17 hbox hb; have n0_ := Aside0.mk (blk_below (g := gb206) (o := .cells #[.int .i64 a0_0, .int .i64 a0_1, .int .i64 a0_2, .int .i64 a0_3, .string a0_4, .bool a0_5, .slice A0_6 l0_6.length c0_6, .bool a0_7] 41 (0, 0)) (by (with_reducible repeat (first | refine blk_drewN ?_ _ | refine blk_drew ?_ | refine blk_alloc ?_ _)); exact BK206.out) hb); have n1_ := Aside0.mk (below_step (by repeat (first | (with_reducible first | exact HB.out | apply below_alloc | apply pw_below_drewN | apply below_drew1 | refine below_set ?_ GE206.out) | exact HB.out)) hb); have n2_ := Aside0.mk (hbox); have n3_ := Aside0.mk ((by rw [hg]; exact (below_size (by repeat (first | (with_reducible first | exact HB.out | apply below_alloc | apply pw_below_drewN | apply below_drew1 | refine below_set ?_ GE206.out) | exact HB.out))) : w.heap.size ≤ gb207)); have n4_ := Aside0.mk ((by rw [hg]; exact (below_size (by repeat (first | (with_reducible first | exact HB.out | apply below_alloc | apply pw_below_drewN | apply below_drew1 | refine below_set ?_ GE206.out) | exact HB.out))) : w.heap.size ≤ gb207)); have n5_ := Aside0.mk ((by rw [hg]; exact Nat.ne_of_lt (blk_lt (g := gb206) (o := .cells #[.int .i64 a0_0, .int .i64 a0_1, .int .i64 a0_2, .int .i64 a0_3, .string a0_4, .bool a0_5, .slice A0_6 l0_6.length c0_6, .bool a0_7] 41 (0, 0)) (by (with_reducible repeat (first | refine blk_drewN ?_ _ | refine blk_drew ?_ | refine blk_alloc ?_ _)); exact BK206.out)) : gb206 ≠ gb207)); have n6_ := Aside0.mk ((by rw [hg]; exact Nat.ne_of_gt (blk_lt (g := gb206) (o := .cells #[.int .i64 a0_0, .int .i64 a0_1, .int .i64 a0_2, .int .i64 a0_3, .string a0_4, .bool a0_5, .slice A0_6 l0_6.length c0_6, .bool a0_7] 41 (0, 0)) (by (with_reducible repeat (first | refine blk_drewN ?_ _ | refine blk_drew ?_ | refine blk_alloc ?_ _)); exact BK206.out)) : gb207 ≠ gb206)); clear BK206; clear HB; have BK206 := n0_; have HB := n1_; have BK207 := n2_; have GW207 := n3_; have GE207 := n4_; have NB206_207 := n5_; have NB207_206 := n6_; clear n0_ n1_ n2_ n3_ n4_ n5_ n6_; clear hb hbox hg; have hnb18 := NB206_207.out; have hnc18 := NB207_206.out; have hcz19_0 : w17.cell? ⟨gb206, 0, none⟩ = some (.int .i64 a0_0) := (blk_cell BK206.out 0).trans rfl; have hcz19_1 : w17.cell? ⟨gb206, 1, none⟩ = some (.int .i64 a0_1) := (blk_cell BK206.out 1).trans rfl; have hcz19_2 : w17.cell? ⟨gb206, 2, none⟩ = some (.int .i64 a0_2) := (blk_cell BK206.out 2).trans rfl; have hcz19_3 : w17.cell? ⟨gb206, 3, none⟩ = some (.int .i64 a0_3) := (blk_cell BK206.out 3).trans rfl; have hcz19_4 : w17.cell? ⟨gb206, 4, none⟩ = some (.string a0_4) := (blk_cell BK206.out 4).trans rfl; have hcz19_5 : w17.cell? ⟨gb206, 5, none⟩ = some (.bool a0_5) := (blk_cell BK206.out 5).trans rfl; have hcz19_6 : w17.cell? ⟨gb206, 6, none⟩ = some (.slice A0_6 l0_6.length c0_6) := (blk_cell BK206.out 6).trans rfl; have hcz19_7 : w17.cell? ⟨gb206, 7, none⟩ = some (.bool a0_7) := (blk_cell BK206.out 7).trans rfl; have hfz19_0 := blk_frozen BK206.out 0; have hfz19_1 := blk_frozen BK206.out 1; have hfz19_2 := blk_frozen BK206.out 2; have hfz19_3 := blk_frozen BK206.out 3; have hfz19_4 := blk_frozen BK206.out 4; have hfz19_5 := blk_frozen BK206.out 5; have hfz19_6 := blk_frozen BK206.out 6; have hfz19_7 := blk_frozen BK206.out 7; have hcz20_0 : w17.cell? ⟨gb207, 0, none⟩ = some (.int .i64 a1_0) := (blk_cell BK207.out 0).trans rfl; have hcz20_1 : w17.cell? ⟨gb207, 1, none⟩ = some (.int .i64 a1_1) := (blk_cell BK207.out 1).trans rfl; have hcz20_2 : w17.cell? ⟨gb207, 2, none⟩ = some (.int .i64 a1_2) := (blk_cell BK207.out 2).trans rfl; have hcz20_3 : w17.cell? ⟨gb207, 3, none⟩ = some (.int .i64 a1_3) := (blk_cell BK207.out 3).trans rfl; have hcz20_4 : w17.cell? ⟨gb207, 4, none⟩ = some (.string a1_4) := (blk_cell BK207.out 4).trans rfl; have hcz20_5 : w17.cell? ⟨gb207, 5, none⟩ = some (.bool a1_5) := (blk_cell BK207.out 5).trans rfl; have hcz20_6 : w17.cell? ⟨gb207, 6, none⟩ = some (.slice A1_6 l1_6.length c1_6) := (blk_cell BK207.out 6).trans rfl; have hcz20_7 : w17.cell? ⟨gb207, 7, none⟩ = some (.bool a1_7) := (blk_cell BK207.out 7).trans rfl; have hfz20_0 := blk_frozen BK207.out 0; have hfz20_1 := blk_frozen BK207.out 1; have hfz20_2 := blk_frozen BK207.out 2; have hfz20_3 := blk_frozen BK207.out 3; have hfz20_4 := blk_frozen BK207.out 4; have hfz20_5 := blk_frozen BK207.out 5; have hfz20_6 := blk_frozen BK207.out 6; have hfz20_7 := blk_frozen BK207.out 7) | ((with_reducible refine gate_callee (f := 36) rfl ?_); refine goesL_ (some 10) rfl rfl Tryd.func36 (by kernel_rfl) rfl #[.slice A0_6 l0_6.length c0_6, .slice A1_6 l1_6.length c1_6] rfl (by (try simp only [List.map_toArray, List.map_cons, List.map_nil]); first | done | rfl | (simp only [List.length_drop, List.length_take]; rfl)) ?_; (with_reducible refine (stanchionref05_Same.calls k _ _ l0_6 _ _ l1_6 true _ ?side1 ?side2 ?side3 ?side4 A3.out).mono ?_); (case side1 => repeat (first | exact (Kd.C_below HR0_6.out HB.out) | (with_reducible refine Kd.C_alloc ?_ _) | (with_reducible refine Kd.C_drewN ?_ _) | (with_reducible refine Kd.C_drew ?_))); (case side2 => exact HC0_6.out); (case side3 => repeat (first | exact (Kd.C_below HR1_6.out HB.out) | (with_reducible refine Kd.C_alloc ?_ _) | (with_reducible refine Kd.C_drewN ?_ _) | (with_reducible refine Kd.C_drew ?_))); (case side4 => exact HC1_6.out); rintro e w' ⟨rfl, ⟨nd, rfl⟩⟩; refine ⟨_, rfl, ?_⟩))
                go_ret
                exact ⟨by first | rfl | (simp [errW_none, errW_some] <;> rfl) | (simp [*, errW_none, errW_some] <;> rfl), by repeat (first | (with_reducible first | exact HB.out | apply below_alloc | apply pw_below_drewN | apply below_drew1 | refine below_set ?_ GE206.out | refine below_set ?_ GE207.out) | exact HB.out)⟩
            · rw [if_neg c9] at H
              have c9b0 : (a0_4.toList == a1_4.toList) = false := beq_eq_false_iff_ne.mpr c9
              have c9b1 : (a0_4.toList != a1_4.toList) = true := bne_iff_ne.mpr c9
              obtain rfl := Option.some.inj H
              go_enter Tryd.func19, Tryd.ntmps19
              go_wp2_with (first | ((with_reducible refine gate_dst (N := 2) rfl ?_); refine box_event ?hg (N := 2) ?hd (cs := #[.int .i64 a0_0, .int .i64 a0_1, .int .i64 a0_2, .int .i64 a0_3, .string a0_4, .bool a0_5, .slice A0_6 l0_6.length c0_6, .bool a0_7]) (t := 41) ?hr ?_; (case hd => rfl); (case hg => rfl); (case hr => first | (go_simp; done) | (go_simp; rfl)); intro gb206 hg w21 hbox hb; have n0_ := Aside0.mk (below_step (by repeat (first | (with_reducible first | exact HB.out | apply below_alloc | apply pw_below_drewN | apply below_drew1) | exact HB.out)) hb); have n1_ := Aside0.mk (hbox); have n2_ := Aside0.mk ((by rw [hg]; exact (below_size (by repeat (first | (with_reducible first | exact HB.out | apply below_alloc | apply pw_below_drewN | apply below_drew1) | exact HB.out))) : w.heap.size ≤ gb206)); have n3_ := Aside0.mk ((by rw [hg]; exact (below_size (by repeat (first | (with_reducible first | exact HB.out | apply below_alloc | apply pw_below_drewN | apply below_drew1) | exact HB.out))) : w.heap.size ≤ gb206)); clear HB; have HB := n0_; have BK206 := n1_; have GW206 := n2_; have GE206 := n3_; clear n0_ n1_ n2_ n3_; clear hb hbox hg) | ((with_reducible refine gate_dst (N := 3) rfl ?_); refine box_event ?hg (N := 3) ?hd (cs := #[.int .i64 a1_0, .int .i64 a1_1, .int .i64 a1_2, .int .i64 a1_3, .string a1_4, .bool a1_5, .slice A1_6 l1_6.length c1_6, .bool a1_7]) (t := 41) ?hr ?_; (case hd => rfl); (case hg => rfl); (case hr => first | (go_simp; done) | (go_simp; rfl)); intro gb207 hg w22 hbox hb; have n0_ := Aside0.mk (blk_below (g := gb206) (o := .cells #[.int .i64 a0_0, .int .i64 a0_1, .int .i64 a0_2, .int .i64 a0_3, .string a0_4, .bool a0_5, .slice A0_6 l0_6.length c0_6, .bool a0_7] 41 (0, 0)) (by (with_reducible repeat (first | refine blk_drewN ?_ _ | refine blk_drew ?_ | refine blk_alloc ?_ _)); exact BK206.out) hb); have n1_ := Aside0.mk (below_step (by repeat (first | (with_reducible first | exact HB.out | apply below_alloc | apply pw_below_drewN | apply below_drew1 | refine below_set ?_ GE206.out) | exact HB.out)) hb); have n2_ := Aside0.mk (hbox); have n3_ := Aside0.mk ((by rw [hg]; exact (below_size (by repeat (first | (with_reducible first | exact HB.out | apply below_alloc | apply pw_below_drewN | apply below_drew1 | refine below_set ?_ GE206.out) | exact HB.out))) : w.heap.size ≤ gb207)); have n4_ := Aside0.mk ((by rw [hg]; exact (below_size (by repeat (first | (with_reducible first | exact HB.out | apply below_alloc | apply pw_below_drewN | apply below_drew1 | refine below_set ?_ GE206.out) | exact HB.out))) : w.heap.size ≤ gb207)); have n5_ := Aside0.mk ((by rw [hg]; exact Nat.ne_of_lt (blk_lt (g := gb206) (o := .cells #[.int .i64 a0_0, .int .i64 a0_1, .int .i64 a0_2, .int .i64 a0_3, .string a0_4, .bool a0_5, .slice A0_6 l0_6.length c0_6, .bool a0_7] 41 (0, 0)) (by (with_reducible repeat (first | refine blk_drewN ?_ _ | refine blk_drew ?_ | refine blk_alloc ?_ _)); exact BK206.out)) : gb206 ≠ gb207)); have n6_ := Aside0.mk ((by rw [hg]; exact Nat.ne_of_gt (blk_lt (g := gb206) (o := .cells #[.int .i64 a0_0, .int .i64 a0_1, .int .i64 a0_2, .int .i64 a0_3, .string a0_4, .bool a0_5, .slice A0_6 l0_6.length c0_6, .bool a0_7] 41 (0, 0)) (by (with_reducible repeat (first | refine blk_drewN ?_ _ | refine blk_drew ?_ | refine blk_alloc ?_ _)); exact BK206.out)) : gb207 ≠ gb206)); clear BK206; clear HB; have BK206 := n0_; have HB := n1_; have BK207 := n2_; have GW207 := n3_; have GE207 := n4_; have NB206_207 := n5_; have NB207_206 := n6_; clear n0_ n1_ n2_ n3_ n4_ n5_ n6_; clear hb hbox hg; have hnb23 := NB206_207.out; have hnc23 := NB207_206.out; have hcz24_0 : w22.cell? ⟨gb206, 0, none⟩ = some (.int .i64 a0_0) := (blk_cell BK206.out 0).trans rfl; have hcz24_1 : w22.cell? ⟨gb206, 1, none⟩ = some (.int .i64 a0_1) := (blk_cell BK206.out 1).trans rfl; have hcz24_2 : w22.cell? ⟨gb206, 2, none⟩ = some (.int .i64 a0_2) := (blk_cell BK206.out 2).trans rfl; have hcz24_3 : w22.cell? ⟨gb206, 3, none⟩ = some (.int .i64 a0_3) := (blk_cell BK206.out 3).trans rfl; have hcz24_4 : w22.cell? ⟨gb206, 4, none⟩ = some (.string a0_4) := (blk_cell BK206.out 4).trans rfl; have hcz24_5 : w22.cell? ⟨gb206, 5, none⟩ = some (.bool a0_5) := (blk_cell BK206.out 5).trans rfl; have hcz24_6 : w22.cell? ⟨gb206, 6, none⟩ = some (.slice A0_6 l0_6.length c0_6) := (blk_cell BK206.out 6).trans rfl; have hcz24_7 : w22.cell? ⟨gb206, 7, none⟩ = some (.bool a0_7) := (blk_cell BK206.out 7).trans rfl; have hfz24_0 := blk_frozen BK206.out 0; have hfz24_1 := blk_frozen BK206.out 1; have hfz24_2 := blk_frozen BK206.out 2; have hfz24_3 := blk_frozen BK206.out 3; have hfz24_4 := blk_frozen BK206.out 4; have hfz24_5 := blk_frozen BK206.out 5; have hfz24_6 := blk_frozen BK206.out 6; have hfz24_7 := blk_frozen BK206.out 7; have hcz25_0 : w22.cell? ⟨gb207, 0, none⟩ = some (.int .i64 a1_0) := (blk_cell BK207.out 0).trans rfl; have hcz25_1 : w22.cell? ⟨gb207, 1, none⟩ = some (.int .i64 a1_1) := (blk_cell BK207.out 1).trans rfl; have hcz25_2 : w22.cell? ⟨gb207, 2, none⟩ = some (.int .i64 a1_2) := (blk_cell BK207.out 2).trans rfl; have hcz25_3 : w22.cell? ⟨gb207, 3, none⟩ = some (.int .i64 a1_3) := (blk_cell BK207.out 3).trans rfl; have hcz25_4 : w22.cell? ⟨gb207, 4, none⟩ = some (.string a1_4) := (blk_cell BK207.out 4).trans rfl; have hcz25_5 : w22.cell? ⟨gb207, 5, none⟩ = some (.bool a1_5) := (blk_cell BK207.out 5).trans rfl; have hcz25_6 : w22.cell? ⟨gb207, 6, none⟩ = some (.slice A1_6 l1_6.length c1_6) := (blk_cell BK207.out 6).trans rfl; have hcz25_7 : w22.cell? ⟨gb207, 7, none⟩ = some (.bool a1_7) := (blk_cell BK207.out 7).trans rfl; have hfz25_0 := blk_frozen BK207.out 0; have hfz25_1 := blk_frozen BK207.out 1; have hfz25_2 := blk_frozen BK207.out 2; have hfz25_3 := blk_frozen BK207.out 3; have hfz25_4 := blk_frozen BK207.out 4; have hfz25_5 := blk_frozen BK207.out 5; have hfz25_6 := blk_frozen BK207.out 6; have hfz25_7 := blk_frozen BK207.out 7) | ((with_reducible refine gate_callee (f := 36) rfl ?_); refine goesL_ (some 10) rfl rfl Tryd.func36 (by kernel_rfl) rfl #[.slice A0_6 l0_6.length c0_6, .slice A1_6 l1_6.length c1_6] rfl (by (try simp only [List.map_toArray, List.map_cons, List.map_nil]); first | done | rfl | (simp only [List.length_drop, List.length_take]; rfl)) ?_; (with_reducible refine (stanchionref05_Same.calls k _ _ l0_6 _ _ l1_6 true _ ?side1 ?side2 ?side3 ?side4 A3.out).mono ?_); (case side1 => repeat (first | exact (Kd.C_below HR0_6.out HB.out) | (with_reducible refine Kd.C_alloc ?_ _) | (with_reducible refine Kd.C_drewN ?_ _) | (with_reducible refine Kd.C_drew ?_))); (case side2 => exact HC0_6.out); (case side3 => repeat (first | exact (Kd.C_below HR1_6.out HB.out) | (with_reducible refine Kd.C_alloc ?_ _) | (with_reducible refine Kd.C_drewN ?_ _) | (with_reducible refine Kd.C_drew ?_))); (case side4 => exact HC1_6.out); rintro e w' ⟨rfl, ⟨nd, rfl⟩⟩; refine ⟨_, rfl, ?_⟩))
              go_ret
              exact ⟨by first | rfl | (simp [errW_none, errW_some] <;> rfl) | (simp [*, errW_none, errW_some] <;> rfl), by repeat (first | (with_reducible first | exact HB.out | apply below_alloc | apply pw_below_drewN | apply below_drew1 | refine below_set ?_ GE206.out | refine below_set ?_ GE207.out) | exact HB.out)⟩
          · rw [if_neg c8] at H
            have c8b0 : (a0_3 == a1_3) = false := beq_eq_false_iff_ne.mpr c8
            have c8b1 : (a0_3 != a1_3) = true := bne_iff_ne.mpr c8
            obtain rfl := Option.some.inj H
            go_enter Tryd.func19, Tryd.ntmps19
            go_wp2_with (first | ((with_reducible refine gate_dst (N := 2) rfl ?_); refine box_event ?hg (N := 2) ?hd (cs := #[.int .i64 a0_0, .int .i64 a0_1, .int .i64 a0_2, .int .i64 a0_3, .string a0_4, .bool a0_5, .slice A0_6 l0_6.length c0_6, .bool a0_7]) (t := 41) ?hr ?_; (case hd => rfl); (case hg => rfl); (case hr => first | (go_simp; done) | (go_simp; rfl)); intro gb206 hg w26 hbox hb; have n0_ := Aside0.mk (below_step (by repeat (first | (with_reducible first | exact HB.out | apply below_alloc | apply pw_below_drewN | apply below_drew1) | exact HB.out)) hb); have n1_ := Aside0.mk (hbox); have n2_ := Aside0.mk ((by rw [hg]; exact (below_size (by repeat (first | (with_reducible first | exact HB.out | apply below_alloc | apply pw_below_drewN | apply below_drew1) | exact HB.out))) : w.heap.size ≤ gb206)); have n3_ := Aside0.mk ((by rw [hg]; exact (below_size (by repeat (first | (with_reducible first | exact HB.out | apply below_alloc | apply pw_below_drewN | apply below_drew1) | exact HB.out))) : w.heap.size ≤ gb206)); clear HB; have HB := n0_; have BK206 := n1_; have GW206 := n2_; have GE206 := n3_; clear n0_ n1_ n2_ n3_; clear hb hbox hg) | ((with_reducible refine gate_dst (N := 3) rfl ?_); refine box_event ?hg (N := 3) ?hd (cs := #[.int .i64 a1_0, .int .i64 a1_1, .int .i64 a1_2, .int .i64 a1_3, .string a1_4, .bool a1_5, .slice A1_6 l1_6.length c1_6, .bool a1_7]) (t := 41) ?hr ?_; (case hd => rfl); (case hg => rfl); (case hr => first | (go_simp; done) | (go_simp; rfl)); intro gb207 hg w27 hbox hb; have n0_ := Aside0.mk (blk_below (g := gb206) (o := .cells #[.int .i64 a0_0, .int .i64 a0_1, .int .i64 a0_2, .int .i64 a0_3, .string a0_4, .bool a0_5, .slice A0_6 l0_6.length c0_6, .bool a0_7] 41 (0, 0)) (by (with_reducible repeat (first | refine blk_drewN ?_ _ | refine blk_drew ?_ | refine blk_alloc ?_ _)); exact BK206.out) hb); have n1_ := Aside0.mk (below_step (by repeat (first | (with_reducible first | exact HB.out | apply below_alloc | apply pw_below_drewN | apply below_drew1 | refine below_set ?_ GE206.out) | exact HB.out)) hb); have n2_ := Aside0.mk (hbox); have n3_ := Aside0.mk ((by rw [hg]; exact (below_size (by repeat (first | (with_reducible first | exact HB.out | apply below_alloc | apply pw_below_drewN | apply below_drew1 | refine below_set ?_ GE206.out) | exact HB.out))) : w.heap.size ≤ gb207)); have n4_ := Aside0.mk ((by rw [hg]; exact (below_size (by repeat (first | (with_reducible first | exact HB.out | apply below_alloc | apply pw_below_drewN | apply below_drew1 | refine below_set ?_ GE206.out) | exact HB.out))) : w.heap.size ≤ gb207)); have n5_ := Aside0.mk ((by rw [hg]; exact Nat.ne_of_lt (blk_lt (g := gb206) (o := .cells #[.int .i64 a0_0, .int .i64 a0_1, .int .i64 a0_2, .int .i64 a0_3, .string a0_4, .bool a0_5, .slice A0_6 l0_6.length c0_6, .bool a0_7] 41 (0, 0)) (by (with_reducible repeat (first | refine blk_drewN ?_ _ | refine blk_drew ?_ | refine blk_alloc ?_ _)); exact BK206.out)) : gb206 ≠ gb207)); have n6_ := Aside0.mk ((by rw [hg]; exact Nat.ne_of_gt (blk_lt (g := gb206) (o := .cells #[.int .i64 a0_0, .int .i64 a0_1, .int .i64 a0_2, .int .i64 a0_3, .string a0_4, .bool a0_5, .slice A0_6 l0_6.length c0_6, .bool a0_7] 41 (0, 0)) (by (with_reducible repeat (first | refine blk_drewN ?_ _ | refine blk_drew ?_ | refine blk_alloc ?_ _)); exact BK206.out)) : gb207 ≠ gb206)); clear BK206; clear HB; have BK206 := n0_; have HB := n1_; have BK207 := n2_; have GW207 := n3_; have GE207 := n4_; have NB206_207 := n5_; have NB207_206 := n6_; clear n0_ n1_ n2_ n3_ n4_ n5_ n6_; clear hb hbox hg; have hnb28 := NB206_207.out; have hnc28 := NB207_206.out; have hcz29_0 : w27.cell? ⟨gb206, 0, none⟩ = some (.int .i64 a0_0) := (blk_cell BK206.out 0).trans rfl; have hcz29_1 : w27.cell? ⟨gb206, 1, none⟩ = some (.int .i64 a0_1) := (blk_cell BK206.out 1).trans rfl; have hcz29_2 : w27.cell? ⟨gb206, 2, none⟩ = some (.int .i64 a0_2) := (blk_cell BK206.out 2).trans rfl; have hcz29_3 : w27.cell? ⟨gb206, 3, none⟩ = some (.int .i64 a0_3) := (blk_cell BK206.out 3).trans rfl; have hcz29_4 : w27.cell? ⟨gb206, 4, none⟩ = some (.string a0_4) := (blk_cell BK206.out 4).trans rfl; have hcz29_5 : w27.cell? ⟨gb206, 5, none⟩ = some (.bool a0_5) := (blk_cell BK206.out 5).trans rfl; have hcz29_6 : w27.cell? ⟨gb206, 6, none⟩ = some (.slice A0_6 l0_6.length c0_6) := (blk_cell BK206.out 6).trans rfl; have hcz29_7 : w27.cell? ⟨gb206, 7, none⟩ = some (.bool a0_7) := (blk_cell BK206.out 7).trans rfl; have hfz29_0 := blk_frozen BK206.out 0; have hfz29_1 := blk_frozen BK206.out 1; have hfz29_2 := blk_frozen BK206.out 2; have hfz29_3 := blk_frozen BK206.out 3; have hfz29_4 := blk_frozen BK206.out 4; have hfz29_5 := blk_frozen BK206.out 5; have hfz29_6 := blk_frozen BK206.out 6; have hfz29_7 := blk_frozen BK206.out 7; have hcz30_0 : w27.cell? ⟨gb207, 0, none⟩ = some (.int .i64 a1_0) := (blk_cell BK207.out 0).trans rfl; have hcz30_1 : w27.cell? ⟨gb207, 1, none⟩ = some (.int .i64 a1_1) := (blk_cell BK207.out 1).trans rfl; have hcz30_2 : w27.cell? ⟨gb207, 2, none⟩ = some (.int .i64 a1_2) := (blk_cell BK207.out 2).trans rfl; have hcz30_3 : w27.cell? ⟨gb207, 3, none⟩ = some (.int .i64 a1_3) := (blk_cell BK207.out 3).trans rfl; have hcz30_4 : w27.cell? ⟨gb207, 4, none⟩ = some (.string a1_4) := (blk_cell BK207.out 4).trans rfl; have hcz30_5 : w27.cell? ⟨gb207, 5, none⟩ = some (.bool a1_5) := (blk_cell BK207.out 5).trans rfl; have hcz30_6 : w27.cell? ⟨gb207, 6, none⟩ = some (.slice A1_6 l1_6.length c1_6) := (blk_cell BK207.out 6).trans rfl; have hcz30_7 : w27.cell? ⟨gb207, 7, none⟩ = some (.bool a1_7) := (blk_cell BK207.out 7).trans rfl; have hfz30_0 := blk_frozen BK207.out 0; have hfz30_1 := blk_frozen BK207.out 1; have hfz30_2 := blk_frozen BK207.out 2; have hfz30_3 := blk_frozen BK207.out 3; have hfz30_4 := blk_frozen BK207.out 4; have hfz30_5 := blk_frozen BK207.out 5; have hfz30_6 := blk_frozen BK207.out 6; have hfz30_7 := blk_frozen BK207.out 7) | ((with_reducible refine gate_callee (f := 36) rfl ?_); refine goesL_ (some 10) rfl rfl Tryd.func36 (by kernel_rfl) rfl #[.slice A0_6 l0_6.length c0_6, .slice A1_6 l1_6.length c1_6] rfl (by (try simp only [List.map_toArray, List.map_cons, List.map_nil]); first | done | rfl | (simp only [List.length_drop, List.length_take]; rfl)) ?_; (with_reducible refine (stanchionref05_Same.calls k _ _ l0_6 _ _ l1_6 true _ ?side1 ?side2 ?side3 ?side4 A3.out).mono ?_); (case side1 => repeat (first | exact (Kd.C_below HR0_6.out HB.out) | (with_reducible refine Kd.C_alloc ?_ _) | (with_reducible refine Kd.C_drewN ?_ _) | (with_reducible refine Kd.C_drew ?_))); (case side2 => exact HC0_6.out); (case side3 => repeat (first | exact (Kd.C_below HR1_6.out HB.out) | (with_reducible refine Kd.C_alloc ?_ _) | (with_reducible refine Kd.C_drewN ?_ _) | (with_reducible refine Kd.C_drew ?_))); (case side4 => exact HC1_6.out); rintro e w' ⟨rfl, ⟨nd, rfl⟩⟩; refine ⟨_, rfl, ?_⟩))
            go_ret
            exact ⟨by first | rfl | (simp [errW_none, errW_some] <;> rfl) | (simp [*, errW_none, errW_some] <;> rfl), by repeat (first | (with_reducible first | exact HB.out | apply below_alloc | apply pw_below_drewN | apply below_drew1 | refine below_set ?_ GE206.out | refine below_set ?_ GE207.out) | exact HB.out)⟩
        · rw [if_neg c7] at H
          have c7b0 : (a0_2 == a1_2) = false := beq_eq_false_iff_ne.mpr c7
          have c7b1 : (a0_2 != a1_2) = true := bne_iff_ne.mpr c7
          obtain rfl := Option.some.inj H
          go_enter Tryd.func19, Tryd.ntmps19
          go_wp2_with (first | ((with_reducible refine gate_dst (N := 2) rfl ?_); refine box_event ?hg (N := 2) ?hd (cs := #[.int .i64 a0_0, .int .i64 a0_1, .int .i64 a0_2, .int .i64 a0_3, .string a0_4, .bool a0_5, .slice A0_6 l0_6.length c0_6, .bool a0_7]) (t := 41) ?hr ?_; (case hd => rfl); (case hg => rfl); (case hr => first | (go_simp; done) | (go_simp; rfl)); intro gb206 hg w31 hbox hb; have n0_ := Aside0.mk (below_step (by repeat (first | (with_reducible first | exact HB.out | apply below_alloc | apply pw_below_drewN | apply below_drew1) | exact HB.out)) hb); have n1_ := Aside0.mk (hbox); have n2_ := Aside0.mk ((by rw [hg]; exact (below_size (by repeat (first | (with_reducible first | exact HB.out | apply below_alloc | apply pw_below_drewN | apply below_drew1) | exact HB.out))) : w.heap.size ≤ gb206)); have n3_ := Aside0.mk ((by rw [hg]; exact (below_size (by repeat (first | (with_reducible first | exact HB.out | apply below_alloc | apply pw_below_drewN | apply below_drew1) | exact HB.out))) : w.heap.size ≤ gb206)); clear HB; have HB := n0_; have BK206 := n1_; have GW206 := n2_; have GE206 := n3_; clear n0_ n1_ n2_ n3_; clear hb hbox hg) | ((with_reducible refine gate_dst (N := 3) rfl ?_); refine box_event ?hg (N := 3) ?hd (cs := #[.int .i64 a1_0, .int .i64 a1_1, .int .i64 a1_2, .int .i64 a1_3, .string a1_4, .bool a1_5, .slice A1_6 l1_6.length c1_6, .bool a1_7]) (t := 41) ?hr ?_; (case hd => rfl); (case hg => rfl); (case hr => first | (go_simp; done) | (go_simp; rfl)); intro gb207 hg w32 hbox hb; have n0_ := Aside0.mk (blk_below (g := gb206) (o := .cells #[.int .i64 a0_0, .int .i64 a0_1, .int .i64 a0_2, .int .i64 a0_3, .string a0_4, .bool a0_5, .slice A0_6 l0_6.length c0_6, .bool a0_7] 41 (0, 0)) (by (with_reducible repeat (first | refine blk_drewN ?_ _ | refine blk_drew ?_ | refine blk_alloc ?_ _)); exact BK206.out) hb); have n1_ := Aside0.mk (below_step (by repeat (first | (with_reducible first | exact HB.out | apply below_alloc | apply pw_below_drewN | apply below_drew1 | refine below_set ?_ GE206.out) | exact HB.out)) hb); have n2_ := Aside0.mk (hbox); have n3_ := Aside0.mk ((by rw [hg]; exact (below_size (by repeat (first | (with_reducible first | exact HB.out | apply below_alloc | apply pw_below_drewN | apply below_drew1 | refine below_set ?_ GE206.out) | exact HB.out))) : w.heap.size ≤ gb207)); have n4_ := Aside0.mk ((by rw [hg]; exact (below_size (by repeat (first | (with_reducible first | exact HB.out | apply below_alloc | apply pw_below_drewN | apply below_drew1 | refine below_set ?_ GE206.out) | exact HB.out))) : w.heap.size ≤ gb207)); have n5_ := Aside0.mk ((by rw [hg]; exact Nat.ne_of_lt (blk_lt (g := gb206) (o := .cells #[.int .i64 a0_0, .int .i64 a0_1, .int .i64 a0_2, .int .i64 a0_3, .string a0_4, .bool a0_5, .slice A0_6 l0_6.length c0_6, .bool a0_7] 41 (0, 0)) (by (with_reducible repeat (first | refine blk_drewN ?_ _ | refine blk_drew ?_ | refine blk_alloc ?_ _)); exact BK206.out)) : gb206 ≠ gb207)); have n6_ := Aside0.mk ((by rw [hg]; exact Nat.ne_of_gt (blk_lt (g := gb206) (o := .cells #[.int .i64 a0_0, .int .i64 a0_1, .int .i64 a0_2, .int .i64 a0_3, .string a0_4, .bool a0_5, .slice A0_6 l0_6.length c0_6, .bool a0_7] 41 (0, 0)) (by (with_reducible repeat (first | refine blk_drewN ?_ _ | refine blk_drew ?_ | refine blk_alloc ?_ _)); exact BK206.out)) : gb207 ≠ gb206)); clear BK206; clear HB; have BK206 := n0_; have HB := n1_; have BK207 := n2_; have GW207 := n3_; have GE207 := n4_; have NB206_207 := n5_; have NB207_206 := n6_; clear n0_ n1_ n2_ n3_ n4_ n5_ n6_; clear hb hbox hg; have hnb33 := NB206_207.out; have hnc33 := NB207_206.out; have hcz34_0 : w32.cell? ⟨gb206, 0, none⟩ = some (.int .i64 a0_0) := (blk_cell BK206.out 0).trans rfl; have hcz34_1 : w32.cell? ⟨gb206, 1, none⟩ = some (.int .i64 a0_1) := (blk_cell BK206.out 1).trans rfl; have hcz34_2 : w32.cell? ⟨gb206, 2, none⟩ = some (.int .i64 a0_2) := (blk_cell BK206.out 2).trans rfl; have hcz34_3 : w32.cell? ⟨gb206, 3, none⟩ = some (.int .i64 a0_3) := (blk_cell BK206.out 3).trans rfl; have hcz34_4 : w32.cell? ⟨gb206, 4, none⟩ = some (.string a0_4) := (blk_cell BK206.out 4).trans rfl; have hcz34_5 : w32.cell? ⟨gb206, 5, none⟩ = some (.bool a0_5) := (blk_cell BK206.out 5).trans rfl; have hcz34_6 : w32.cell? ⟨gb206, 6, none⟩ = some (.slice A0_6 l0_6.length c0_6) := (blk_cell BK206.out 6).trans rfl; have hcz34_7 : w32.cell? ⟨gb206, 7, none⟩ = some (.bool a0_7) := (blk_cell BK206.out 7).trans rfl; have hfz34_0 := blk_frozen BK206.out 0; have hfz34_1 := blk_frozen BK206.out 1; have hfz34_2 := blk_frozen BK206.out 2; have hfz34_3 := blk_frozen BK206.out 3; have hfz34_4 := blk_frozen BK206.out 4; have hfz34_5 := blk_frozen BK206.out 5; have hfz34_6 := blk_frozen BK206.out 6; have hfz34_7 := blk_frozen BK206.out 7; have hcz35_0 : w32.cell? ⟨gb207, 0, none⟩ = some (.int .i64 a1_0) := (blk_cell BK207.out 0).trans rfl; have hcz35_1 : w32.cell? ⟨gb207, 1, none⟩ = some (.int .i64 a1_1) := (blk_cell BK207.out 1).trans rfl; have hcz35_2 : w32.cell? ⟨gb207, 2, none⟩ = some (.int .i64 a1_2) := (blk_cell BK207.out 2).trans rfl; have hcz35_3 : w32.cell? ⟨gb207, 3, none⟩ = some (.int .i64 a1_3) := (blk_cell BK207.out 3).trans rfl; have hcz35_4 : w32.cell? ⟨gb207, 4, none⟩ = some (.string a1_4) := (blk_cell BK207.out 4).trans rfl; have hcz35_5 : w32.cell? ⟨gb207, 5, none⟩ = some (.bool a1_5) := (blk_cell BK207.out 5).trans rfl; have hcz35_6 : w32.cell? ⟨gb207, 6, none⟩ = some (.slice A1_6 l1_6.length c1_6) := (blk_cell BK207.out 6).trans rfl; have hcz35_7 : w32.cell? ⟨gb207, 7, none⟩ = some (.bool a1_7) := (blk_cell BK207.out 7).trans rfl; have hfz35_0 := blk_frozen BK207.out 0; have hfz35_1 := blk_frozen BK207.out 1; have hfz35_2 := blk_frozen BK207.out 2; have hfz35_3 := blk_frozen BK207.out 3; have hfz35_4 := blk_frozen BK207.out 4; have hfz35_5 := blk_frozen BK207.out 5; have hfz35_6 := blk_frozen BK207.out 6; have hfz35_7 := blk_frozen BK207.out 7) | ((with_reducible refine gate_callee (f := 36) rfl ?_); refine goesL_ (some 10) rfl rfl Tryd.func36 (by kernel_rfl) rfl #[.slice A0_6 l0_6.length c0_6, .slice A1_6 l1_6.length c1_6] rfl (by (try simp only [List.map_toArray, List.map_cons, List.map_nil]); first | done | rfl | (simp only [List.length_drop, List.length_take]; rfl)) ?_; (with_reducible refine (stanchionref05_Same.calls k _ _ l0_6 _ _ l1_6 true _ ?side1 ?side2 ?side3 ?side4 A3.out).mono ?_); (case side1 => repeat (first | exact (Kd.C_below HR0_6.out HB.out) | (with_reducible refine Kd.C_alloc ?_ _) | (with_reducible refine Kd.C_drewN ?_ _) | (with_reducible refine Kd.C_drew ?_))); (case side2 => exact HC0_6.out); (case side3 => repeat (first | exact (Kd.C_below HR1_6.out HB.out) | (with_reducible refine Kd.C_alloc ?_ _) | (with_reducible refine Kd.C_drewN ?_ _) | (with_reducible refine Kd.C_drew ?_))); (case side4 => exact HC1_6.out); rintro e w' ⟨rfl, ⟨nd, rfl⟩⟩; refine ⟨_, rfl, ?_⟩))
          go_ret
          exact ⟨by first | rfl | (simp [errW_none, errW_some] <;> rfl) | (simp [*, errW_none, errW_some] <;> rfl), by repeat (first | (with_reducible first | exact HB.out | apply below_alloc | apply pw_below_drewN | apply below_drew1 | refine below_set ?_ GE206.out | refine below_set ?_ GE207.out) | exact HB.out)⟩
      · rw [if_neg c6] at H
        have c6b0 : (a0_1 == a1_1) = false := beq_eq_false_iff_ne.mpr c6
        have c6b1 : (a0_1 != a1_1) = true := bne_iff_ne.mpr c6
        obtain rfl := Option.some.inj H
        go_enter Tryd.func19, Tryd.ntmps19
        go_wp2_with (first | ((with_reducible refine gate_dst (N := 2) rfl ?_); refine box_event ?hg (N := 2) ?hd (cs := #[.int .i64 a0_0, .int .i64 a0_1, .int .i64 a0_2, .int .i64 a0_3, .string a0_4, .bool a0_5, .slice A0_6 l0_6.length c0_6, .bool a0_7]) (t := 41) ?hr ?_; (case hd => rfl); (case hg => rfl); (case hr => first | (go_simp; done) | (go_simp; rfl)); intro gb206 hg w36 hbox hb; have n0_ := Aside0.mk (below_step (by repeat (first | (with_reducible first | exact HB.out | apply below_alloc | apply pw_below_drewN | apply below_drew1) | exact HB.out)) hb); have n1_ := Aside0.mk (hbox); have n2_ := Aside0.mk ((by rw [hg]; exact (below_size (by repeat (first | (with_reducible first | exact HB.out | apply below_alloc | apply pw_below_drewN | apply below_drew1) | exact HB.out))) : w.heap.size ≤ gb206)); have n3_ := Aside0.mk ((by rw [hg]; exact (below_size (by repeat (first | (with_reducible first | exact HB.out | apply below_alloc | apply pw_below_drewN | apply below_drew1) | exact HB.out))) : w.heap.size ≤ gb206)); clear HB; have HB := n0_; have BK206 := n1_; have GW206 := n2_; have GE206 := n3_; clear n0_ n1_ n2_ n3_; clear hb hbox hg) | ((with_reducible refine gate_dst (N := 3) rfl ?_); refine box_event ?hg (N := 3) ?hd (cs := #[.int .i64 a1_0, .int .i64 a1_1, .int .i64 a1_2, .int .i64 a1_3, .string a1_4, .bool a1_5, .slice A1_6 l1_6.length c1_6, .bool a1_7]) (t := 41) ?hr ?_; (case hd => rfl); (case hg => rfl); (case hr => first | (go_simp; done) | (go_simp; rfl)); intro gb207 hg w37 hbox hb; have n0_ := Aside0.mk (blk_below (g := gb206) (o := .cells #[.int .i64 a0_0, .int .i64 a0_1, .int .i64 a0_2, .int .i64 a0_3, .string a0_4, .bool a0_5, .slice A0_6 l0_6.length c0_6, .bool a0_7] 41 (0, 0)) (by (with_reducible repeat (first | refine blk_drewN ?_ _ | refine blk_drew ?_ | refine blk_alloc ?_ _)); exact BK206.out) hb); have n1_ := Aside0.mk (below_step (by repeat (first | (with_reducible first | exact HB.out | apply below_alloc | apply pw_below_drewN | apply below_drew1 | refine below_set ?_ GE206.out) | exact HB.out)) hb); have n2_ := Aside0.mk (hbox); have n3_ := Aside0.mk ((by rw [hg]; exact (below_size (by repeat (first | (with_reducible first | exact HB.out | apply below_alloc | apply pw_below_drewN | apply below_drew1 | refine below_set ?_ GE206.out) | exact HB.out))) : w.heap.size ≤ gb207)); have n4_ := Aside0.mk ((by rw [hg]; exact (below_size (by repeat (first | (with_reducible first | exact HB.out | apply below_alloc | apply pw_below_drewN | apply below_drew1 | refine below_set ?_ GE206.out) | exact HB.out))) : w.heap.size ≤ gb207)); have n5_ := Aside0.mk ((by rw [hg]; exact Nat.ne_of_lt (blk_lt (g := gb206) (o := .cells #[.int .i64 a0_0, .int .i64 a0_1, .int .i64 a0_2, .int .i64 a0_3, .string a0_4, .bool a0_5, .slice A0_6 l0_6.length c0_6, .bool a0_7] 41 (0, 0)) (by (with_reducible repeat (first | refine blk_drewN ?_ _ | refine blk_drew ?_ | refine blk_alloc ?_ _)); exact BK206.out)) : gb206 ≠ gb207)); have n6_ := Aside0.mk ((by rw [hg]; exact Nat.ne_of_gt (blk_lt (g := gb206) (o := .cells #[.int .i64 a0_0, .int .i64 a0_1, .int .i64 a0_2, .int .i64 a0_3, .string a0_4, .bool a0_5, .slice A0_6 l0_6.length c0_6, .bool a0_7] 41 (0, 0)) (by (with_reducible repeat (first | refine blk_drewN ?_ _ | refine blk_drew ?_ | refine blk_alloc ?_ _)); exact BK206.out)) : gb207 ≠ gb206)); clear BK206; clear HB; have BK206 := n0_; have HB := n1_; have BK207 := n2_; have GW207 := n3_; have GE207 := n4_; have NB206_207 := n5_; have NB207_206 := n6_; clear n0_ n1_ n2_ n3_ n4_ n5_ n6_; clear hb hbox hg; have hnb38 := NB206_207.out; have hnc38 := NB207_206.out; have hcz39_0 : w37.cell? ⟨gb206, 0, none⟩ = some (.int .i64 a0_0) := (blk_cell BK206.out 0).trans rfl; have hcz39_1 : w37.cell? ⟨gb206, 1, none⟩ = some (.int .i64 a0_1) := (blk_cell BK206.out 1).trans rfl; have hcz39_2 : w37.cell? ⟨gb206, 2, none⟩ = some (.int .i64 a0_2) := (blk_cell BK206.out 2).trans rfl; have hcz39_3 : w37.cell? ⟨gb206, 3, none⟩ = some (.int .i64 a0_3) := (blk_cell BK206.out 3).trans rfl; have hcz39_4 : w37.cell? ⟨gb206, 4, none⟩ = some (.string a0_4) := (blk_cell BK206.out 4).trans rfl; have hcz39_5 : w37.cell? ⟨gb206, 5, none⟩ = some (.bool a0_5) := (blk_cell BK206.out 5).trans rfl; have hcz39_6 : w37.cell? ⟨gb206, 6, none⟩ = some (.slice A0_6 l0_6.length c0_6) := (blk_cell BK206.out 6).trans rfl; have hcz39_7 : w37.cell? ⟨gb206, 7, none⟩ = some (.bool a0_7) := (blk_cell BK206.out 7).trans rfl; have hfz39_0 := blk_frozen BK206.out 0; have hfz39_1 := blk_frozen BK206.out 1; have hfz39_2 := blk_frozen BK206.out 2; have hfz39_3 := blk_frozen BK206.out 3; have hfz39_4 := blk_frozen BK206.out 4; have hfz39_5 := blk_frozen BK206.out 5; have hfz39_6 := blk_frozen BK206.out 6; have hfz39_7 := blk_frozen BK206.out 7; have hcz40_0 : w37.cell? ⟨gb207, 0, none⟩ = some (.int .i64 a1_0) := (blk_cell BK207.out 0).trans rfl; have hcz40_1 : w37.cell? ⟨gb207, 1, none⟩ = some (.int .i64 a1_1) := (blk_cell BK207.out 1).trans rfl; have hcz40_2 : w37.cell? ⟨gb207, 2, none⟩ = some (.int .i64 a1_2) := (blk_cell BK207.out 2).trans rfl; have hcz40_3 : w37.cell? ⟨gb207, 3, none⟩ = some (.int .i64 a1_3) := (blk_cell BK207.out 3).trans rfl; have hcz40_4 : w37.cell? ⟨gb207, 4, none⟩ = some (.string a1_4) := (blk_cell BK207.out 4).trans rfl; have hcz40_5 : w37.cell? ⟨gb207, 5, none⟩ = some (.bool a1_5) := (blk_cell BK207.out 5).trans rfl; have hcz40_6 : w37.cell? ⟨gb207, 6, none⟩ = some (.slice A1_6 l1_6.length c1_6) := (blk_cell BK207.out 6).trans rfl; have hcz40_7 : w37.cell? ⟨gb207, 7, none⟩ = some (.bool a1_7) := (blk_cell BK207.out 7).trans rfl; have hfz40_0 := blk_frozen BK207.out 0; have hfz40_1 := blk_frozen BK207.out 1; have hfz40_2 := blk_frozen BK207.out 2; have hfz40_3 := blk_frozen BK207.out 3; have hfz40_4 := blk_frozen BK207.out 4; have hfz40_5 := blk_frozen BK207.out 5; have hfz40_6 := blk_frozen BK207.out 6; have hfz40_7 := blk_frozen BK207.out 7) | ((with_reducible refine gate_callee (f := 36) rfl ?_); refine goesL_ (some 10) rfl rfl Tryd.func36 (by kernel_rfl) rfl #[.slice A0_6 l0_6.length c0_6, .slice A1_6 l1_6.length c1_6] rfl (by (try simp only [List.map_toArray, List.map_cons, List.map_nil]); first | done | rfl | (simp only [List.length_drop, List.length_take]; rfl)) ?_; (with_reducible refine (stanchionref05_Same.calls k _ _ l0_6 _ _ l1_6 true _ ?side1 ?side2 ?side3 ?side4 A3.out).mono ?_); (case side1 => repeat (first | exact (Kd.C_below HR0_6.out HB.out) | (with_reducible refine Kd.C_alloc ?_ _) | (with_reducible refine Kd.C_drewN ?_ _) | (with_reducible refine Kd.C_drew ?_))); (case side2 => exact HC0_6.out); (case side3 => repeat (first | exact (Kd.C_below HR1_6.out HB.out) | (with_reducible refine Kd.C_alloc ?_ _) | (with_reducible refine Kd.C_drewN ?_ _) | (with_reducible refine Kd.C_drew ?_))); (case side4 => exact HC1_6.out); rintro e w' ⟨rfl, ⟨nd, rfl⟩⟩; refine ⟨_, rfl, ?_⟩))
        go_ret
        exact ⟨by first | rfl | (simp [errW_none, errW_some] <;> rfl) | (simp [*, errW_none, errW_some] <;> rfl), by repeat (first | (with_reducible first | exact HB.out | apply below_alloc | apply pw_below_drewN | apply below_drew1 | refine below_set ?_ GE206.out | refine below_set ?_ GE207.out) | exact HB.out)⟩
    · rw [if_neg c5] at H
      have c5b0 : (a0_0 == a1_0) = false := beq_eq_false_iff_ne.mpr c5
      have c5b1 : (a0_0 != a1_0) = true := bne_iff_ne.mpr c5
      obtain rfl := Option.some.inj H
      go_enter Tryd.func19, Tryd.ntmps19
      go_wp2_with (first | ((with_reducible refine gate_dst (N := 2) rfl ?_); refine box_event ?hg (N := 2) ?hd (cs := #[.int .i64 a0_0, .int .i64 a0_1, .int .i64 a0_2, .int .i64 a0_3, .string a0_4, .bool a0_5, .slice A0_6 l0_6.length c0_6, .bool a0_7]) (t := 41) ?hr ?_; (case hd => rfl); (case hg => rfl); (case hr => first | (go_simp; done) | (go_simp; rfl)); intro gb206 hg w41 hbox hb; have n0_ := Aside0.mk (below_step (by repeat (first | (with_reducible first | exact HB.out | apply below_alloc | apply pw_below_drewN | apply below_drew1) | exact HB.out)) hb); have n1_ := Aside0.mk (hbox); have n2_ := Aside0.mk ((by rw [hg]; exact (below_size (by repeat (first | (with_reducible first | exact HB.out | apply below_alloc | apply pw_below_drewN | apply below_drew1) | exact HB.out))) : w.heap.size ≤ gb206)); have n3_ := Aside0.mk ((by rw [hg]; exact (below_size (by repeat (first | (with_reducible first | exact HB.out | apply below_alloc | apply pw_below_drewN | apply below_drew1) | exact HB.out))) : w.heap.size ≤ gb206)); clear HB; have HB := n0_; have BK206 := n1_; have GW206 := n2_; have GE206 := n3_; clear n0_ n1_ n2_ n3_; clear hb hbox hg) | ((with_reducible refine gate_dst (N := 3) rfl ?_); refine box_event ?hg (N := 3) ?hd (cs := #[.int .i64 a1_0, .int .i64 a1_1, .int .i64 a1_2, .int .i64 a1_3, .string a1_4, .bool a1_5, .slice A1_6 l1_6.length c1_6, .bool a1_7]) (t := 41) ?hr ?_; (case hd => rfl); (case hg => rfl); (case hr => first | (go_simp; done) | (go_simp; rfl)); intro gb207 hg w42 hbox hb; have n0_ := Aside0.mk (blk_below (g := gb206) (o := .cells #[.int .i64 a0_0, .int .i64 a0_1, .int .i64 a0_2, .int .i64 a0_3, .string a0_4, .bool a0_5, .slice A0_6 l0_6.length c0_6, .bool a0_7] 41 (0, 0)) (by (with_reducible repeat (first | refine blk_drewN ?_ _ | refine blk_drew ?_ | refine blk_alloc ?_ _)); exact BK206.out) hb); have n1_ := Aside0.mk (below_step (by repeat (first | (with_reducible first | exact HB.out | apply below_alloc | apply pw_below_drewN | apply below_drew1 | refine below_set ?_ GE206.out) | exact HB.out)) hb); have n2_ := Aside0.mk (hbox); have n3_ := Aside0.mk ((by rw [hg]; exact (below_size (by repeat (first | (with_reducible first | exact HB.out | apply below_alloc | apply pw_below_drewN | apply below_drew1 | refine below_set ?_ GE206.out) | exact HB.out))) : w.heap.size ≤ gb207)); have n4_ := Aside0.mk ((by rw [hg]; exact (below_size (by repeat (first | (with_reducible first | exact HB.out | apply below_alloc | apply pw_below_drewN | apply below_drew1 | refine below_set ?_ GE206.out) | exact HB.out))) : w.heap.size ≤ gb207)); have n5_ := Aside0.mk ((by rw [hg]; exact Nat.ne_of_lt (blk_lt (g := gb206) (o := .cells #[.int .i64 a0_0, .int .i64 a0_1, .int .i64 a0_2, .int .i64 a0_3, .string a0_4, .bool a0_5, .slice A0_6 l0_6.length c0_6, .bool a0_7] 41 (0, 0)) (by (with_reducible repeat (first | refine blk_drewN ?_ _ | refine blk_drew ?_ | refine blk_alloc ?_ _)); exact BK206.out)) : gb206 ≠ gb207)); have n6_ := Aside0.mk ((by rw [hg]; exact Nat.ne_of_gt (blk_lt (g := gb206) (o := .cells #[.int .i64 a0_0, .int .i64 a0_1, .int .i64 a0_2, .int .i64 a0_3, .string a0_4, .bool a0_5, .slice A0_6 l0_6.length c0_6, .bool a0_7] 41 (0, 0)) (by (with_reducible repeat (first | refine blk_drewN ?_ _ | refine blk_drew ?_ | refine blk_alloc ?_ _)); exact BK206.out)) : gb207 ≠ gb206)); clear BK206; clear HB; have BK206 := n0_; have HB := n1_; have BK207 := n2_; have GW207 := n3_; have GE207 := n4_; have NB206_207 := n5_; have NB207_206 := n6_; clear n0_ n1_ n2_ n3_ n4_ n5_ n6_; clear hb hbox hg; have hnb43 := NB206_207.out; have hnc43 := NB207_206.out; have hcz44_0 : w42.cell? ⟨gb206, 0, none⟩ = some (.int .i64 a0_0) := (blk_cell BK206.out 0).trans rfl; have hcz44_1 : w42.cell? ⟨gb206, 1, none⟩ = some (.int .i64 a0_1) := (blk_cell BK206.out 1).trans rfl; have hcz44_2 : w42.cell? ⟨gb206, 2, none⟩ = some (.int .i64 a0_2) := (blk_cell BK206.out 2).trans rfl; have hcz44_3 : w42.cell? ⟨gb206, 3, none⟩ = some (.int .i64 a0_3) := (blk_cell BK206.out 3).trans rfl; have hcz44_4 : w42.cell? ⟨gb206, 4, none⟩ = some (.string a0_4) := (blk_cell BK206.out 4).trans rfl; have hcz44_5 : w42.cell? ⟨gb206, 5, none⟩ = some (.bool a0_5) := (blk_cell BK206.out 5).trans rfl; have hcz44_6 : w42.cell? ⟨gb206, 6, none⟩ = some (.slice A0_6 l0_6.length c0_6) := (blk_cell BK206.out 6).trans rfl; have hcz44_7 : w42.cell? ⟨gb206, 7, none⟩ = some (.bool a0_7) := (blk_cell BK206.out 7).trans rfl; have hfz44_0 := blk_frozen BK206.out 0; have hfz44_1 := blk_frozen BK206.out 1; have hfz44_2 := blk_frozen BK206.out 2; have hfz44_3 := blk_frozen BK206.out 3; have hfz44_4 := blk_frozen BK206.out 4; have hfz44_5 := blk_frozen BK206.out 5; have hfz44_6 := blk_frozen BK206.out 6; have hfz44_7 := blk_frozen BK206.out 7; have hcz45_0 : w42.cell? ⟨gb207, 0, none⟩ = some (.int .i64 a1_0) := (blk_cell BK207.out 0).trans rfl; have hcz45_1 : w42.cell? ⟨gb207, 1, none⟩ = some (.int .i64 a1_1) := (blk_cell BK207.out 1).trans rfl; have hcz45_2 : w42.cell? ⟨gb207, 2, none⟩ = some (.int .i64 a1_2) := (blk_cell BK207.out 2).trans rfl; have hcz45_3 : w42.cell? ⟨gb207, 3, none⟩ = some (.int .i64 a1_3) := (blk_cell BK207.out 3).trans rfl; have hcz45_4 : w42.cell? ⟨gb207, 4, none⟩ = some (.string a1_4) := (blk_cell BK207.out 4).trans rfl; have hcz45_5 : w42.cell? ⟨gb207, 5, none⟩ = some (.bool a1_5) := (blk_cell BK207.out 5).trans rfl; have hcz45_6 : w42.cell? ⟨gb207, 6, none⟩ = some (.slice A1_6 l1_6.length c1_6) := (blk_cell BK207.out 6).trans rfl; have hcz45_7 : w42.cell? ⟨gb207, 7, none⟩ = some (.bool a1_7) := (blk_cell BK207.out 7).trans rfl; have hfz45_0 := blk_frozen BK207.out 0; have hfz45_1 := blk_frozen BK207.out 1; have hfz45_2 := blk_frozen BK207.out 2; have hfz45_3 := blk_frozen BK207.out 3; have hfz45_4 := blk_frozen BK207.out 4; have hfz45_5 := blk_frozen BK207.out 5; have hfz45_6 := blk_frozen BK207.out 6; have hfz45_7 := blk_frozen BK207.out 7) | ((with_reducible refine gate_callee (f := 36) rfl ?_); refine goesL_ (some 10) rfl rfl Tryd.func36 (by kernel_rfl) rfl #[.slice A0_6 l0_6.length c0_6, .slice A1_6 l1_6.length c1_6] rfl (by (try simp only [List.map_toArray, List.map_cons, List.map_nil]); first | done | rfl | (simp only [List.length_drop, List.length_take]; rfl)) ?_; (with_reducible refine (stanchionref05_Same.calls k _ _ l0_6 _ _ l1_6 true _ ?side1 ?side2 ?side3 ?side4 A3.out).mono ?_); (case side1 => repeat (first | exact (Kd.C_below HR0_6.out HB.out) | (with_reducible refine Kd.C_alloc ?_ _) | (with_reducible refine Kd.C_drewN ?_ _) | (with_reducible refine Kd.C_drew ?_))); (case side2 => exact HC0_6.out); (case side3 => repeat (first | exact (Kd.C_below HR1_6.out HB.out) | (with_reducible refine Kd.C_alloc ?_ _) | (with_reducible refine Kd.C_drewN ?_ _) | (with_reducible refine Kd.C_drew ?_))); (case side4 => exact HC1_6.out); rintro e w' ⟨rfl, ⟨nd, rfl⟩⟩; refine ⟨_, rfl, ?_⟩))
      go_ret
      exact ⟨by first | rfl | (simp [errW_none, errW_some] <;> rfl) | (simp [*, errW_none, errW_some] <;> rfl), by repeat (first | (with_reducible first | exact HB.out | apply below_alloc | apply pw_below_drewN | apply below_drew1 | refine below_set ?_ GE206.out | refine below_set ?_ GE207.out) | exact HB.out)⟩
  · replace c4 := Bool.eq_false_iff.mpr c4
    subst c4
    have H1 : (some false) = some r := by rw [if_neg (show ¬ (false = true) by decide)] at H; exact H
    clear H
    have H := H1
    clear H1
    obtain rfl := Option.some.inj H
    go_enter Tryd.func19, Tryd.ntmps19
    go_wp2_with (first | ((with_reducible refine gate_dst (N := 2) rfl ?_); refine box_event ?hg (N := 2) ?hd (cs := #[.int .i64 a0_0, .int .i64 a0_1, .int .i64 a0_2, .int .i64 a0_3, .string a0_4, .bool a0_5, .slice A0_6 l0_6.length c0_6, .bool a0_7]) (t := 41) ?hr ?_; (case hd => rfl); (case hg => rfl); (case hr => first | (go_simp; done) | (go_simp; rfl)); intro gb206 hg w46 hbox hb; have n0_ := Aside0.mk (below_step (by repeat (first | (with_reducible first | exact HB.out | apply below_alloc | apply pw_below_drewN | apply below_drew1) | exact HB.out)) hb); have n1_ := Aside0.mk (hbox); have n2_ := Aside0.mk ((by rw [hg]; exact (below_size (by repeat (first | (with_reducible first | exact HB.out | apply below_alloc | apply pw_below_drewN | apply below_drew1) | exact HB.out))) : w.heap.size ≤ gb206)); have n3_ := Aside0.mk ((by rw [hg]; exact (below_size (by repeat (first | (with_reducible first | exact HB.out | apply below_alloc | apply pw_below_drewN | apply below_drew1) | exact HB.out))) : w.heap.size ≤ gb206)); clear HB; have HB := n0_; have BK206 := n1_; have GW206 := n2_; have GE206 := n3_; clear n0_ n1_ n2_ n3_; clear hb hbox hg) | ((with_reducible refine gate_dst (N := 3) rfl ?_); refine box_event ?hg (N := 3) ?hd (cs := #[.int .i64 a1_0, .int .i64 a1_1, .int .i64 a1_2, .int .i64 a1_3, .string a1_4, .bool a1_5, .slice A1_6 l1_6.length c1_6, .bool a1_7]) (t := 41) ?hr ?_; (case hd => rfl); (case hg => rfl); (case hr => first | (go_simp; done) | (go_simp; rfl)); intro gb207 hg w47 hbox hb; have n0_ := Aside0.mk (blk_below (g := gb206) (o := .cells #[.int .i64 a0_0, .int .i64 a0_1, .int .i64 a0_2, .int .i64 a0_3, .string a0_4, .bool a0_5, .slice A0_6 l0_6.length c0_6, .bool a0_7] 41 (0, 0)) (by (with_reducible repeat (first | refine blk_drewN ?_ _ | refine blk_drew ?_ | refine blk_alloc ?_ _)); exact BK206.out) hb); have n1_ := Aside0.mk (below_step (by repeat (first | (with_reducible first | exact HB.out | apply below_alloc | apply pw_below_drewN | apply below_drew1 | refine below_set ?_ GE206.out) | exact HB.out)) hb); have n2_ := Aside0.mk (hbox); have n3_ := Aside0.mk ((by rw [hg]; exact (below_size (by repeat (first | (with_reducible first | exact HB.out | apply below_alloc | apply pw_below_drewN | apply below_drew1 | refine below_set ?_ GE206.out) | exact HB.out))) : w.heap.size ≤ gb207)); have n4_ := Aside0.mk ((by rw [hg]; exact (below_size (by repeat (first | (with_reducible first | exact HB.out | apply below_alloc | apply pw_below_drewN | apply below_drew1 | refine below_set ?_ GE206.out) | exact HB.out))) : w.heap.size ≤ gb207)); have n5_ := Aside0.mk ((by rw [hg]; exact Nat.ne_of_lt (blk_lt (g := gb206) (o := .cells #[.int .i64 a0_0, .int .i64 a0_1, .int .i64 a0_2, .int .i64 a0_3, .string a0_4, .bool a0_5, .slice A0_6 l0_6.length c0_6, .bool a0_7] 41 (0, 0)) (by (with_reducible repeat (first | refine blk_drewN ?_ _ | refine blk_drew ?_ | refine blk_alloc ?_ _)); exact BK206.out)) : gb206 ≠ gb207)); have n6_ := Aside0.mk ((by rw [hg]; exact Nat.ne_of_gt (blk_lt (g := gb206) (o := .cells #[.int .i64 a0_0, .int .i64 a0_1, .int .i64 a0_2, .int .i64 a0_3, .string a0_4, .bool a0_5, .slice A0_6 l0_6.length c0_6, .bool a0_7] 41 (0, 0)) (by (with_reducible repeat (first | refine blk_drewN ?_ _ | refine blk_drew ?_ | refine blk_alloc ?_ _)); exact BK206.out)) : gb207 ≠ gb206)); clear BK206; clear HB; have BK206 := n0_; have HB := n1_; have BK207 := n2_; have GW207 := n3_; have GE207 := n4_; have NB206_207 := n5_; have NB207_206 := n6_; clear n0_ n1_ n2_ n3_ n4_ n5_ n6_; clear hb hbox hg; have hnb48 := NB206_207.out; have hnc48 := NB207_206.out; have hcz49_0 : w47.cell? ⟨gb206, 0, none⟩ = some (.int .i64 a0_0) := (blk_cell BK206.out 0).trans rfl; have hcz49_1 : w47.cell? ⟨gb206, 1, none⟩ = some (.int .i64 a0_1) := (blk_cell BK206.out 1).trans rfl; have hcz49_2 : w47.cell? ⟨gb206, 2, none⟩ = some (.int .i64 a0_2) := (blk_cell BK206.out 2).trans rfl; have hcz49_3 : w47.cell? ⟨gb206, 3, none⟩ = some (.int .i64 a0_3) := (blk_cell BK206.out 3).trans rfl; have hcz49_4 : w47.cell? ⟨gb206, 4, none⟩ = some (.string a0_4) := (blk_cell BK206.out 4).trans rfl; have hcz49_5 : w47.cell? ⟨gb206, 5, none⟩ = some (.bool a0_5) := (blk_cell BK206.out 5).trans rfl; have hcz49_6 : w47.cell? ⟨gb206, 6, none⟩ = some (.slice A0_6 l0_6.length c0_6) := (blk_cell BK206.out 6).trans rfl; have hcz49_7 : w47.cell? ⟨gb206, 7, none⟩ = some (.bool a0_7) := (blk_cell BK206.out 7).trans rfl; have hfz49_0 := blk_frozen BK206.out 0; have hfz49_1 := blk_frozen BK206.out 1; have hfz49_2 := blk_frozen BK206.out 2; have hfz49_3 := blk_frozen BK206.out 3; have hfz49_4 := blk_frozen BK206.out 4; have hfz49_5 := blk_frozen BK206.out 5; have hfz49_6 := blk_frozen BK206.out 6; have hfz49_7 := blk_frozen BK206.out 7; have hcz50_0 : w47.cell? ⟨gb207, 0, none⟩ = some (.int .i64 a1_0) := (blk_cell BK207.out 0).trans rfl; have hcz50_1 : w47.cell? ⟨gb207, 1, none⟩ = some (.int .i64 a1_1) := (blk_cell BK207.out 1).trans rfl; have hcz50_2 : w47.cell? ⟨gb207, 2, none⟩ = some (.int .i64 a1_2) := (blk_cell BK207.out 2).trans rfl; have hcz50_3 : w47.cell? ⟨gb207, 3, none⟩ = some (.int .i64 a1_3) := (blk_cell BK207.out 3).trans rfl; have hcz50_4 : w47.cell? ⟨gb207, 4, none⟩ = some (.string a1_4) := (blk_cell BK207.out 4).trans rfl; have hcz50_5 : w47.cell? ⟨gb207, 5, none⟩ = some (.bool a1_5) := (blk_cell BK207.out 5).trans rfl; have hcz50_6 : w47.cell? ⟨gb207, 6, none⟩ = some (.slice A1_6 l1_6.length c1_6) := (blk_cell BK207.out 6).trans rfl; have hcz50_7 : w47.cell? ⟨gb207, 7, none⟩ = some (.bool a1_7) := (blk_cell BK207.out 7).trans rfl; have hfz50_0 := blk_frozen BK207.out 0; have hfz50_1 := blk_frozen BK207.out 1; have hfz50_2 := blk_frozen BK207.out 2; have hfz50_3 := blk_frozen BK207.out 3; have hfz50_4 := blk_frozen BK207.out 4; have hfz50_5 := blk_frozen BK207.out 5; have hfz50_6 := blk_frozen BK207.out 6; have hfz50_7 := blk_frozen BK207.out 7) | ((with_reducible refine gate_callee (f := 36) rfl ?_); refine goesL_ (some 10) rfl rfl Tryd.func36 (by kernel_rfl) rfl #[.slice A0_6 l0_6.length c0_6, .slice A1_6 l1_6.length c1_6] rfl (by (try simp only [List.map_toArray, List.map_cons, List.map_nil]); first | done | rfl | (simp only [List.length_drop, List.length_take]; rfl)) ?_; (with_reducible refine (stanchionref05_Same.calls k _ _ l0_6 _ _ l1_6 false _ ?side1 ?side2 ?side3 ?side4 A3.out).mono ?_); (case side1 => repeat (first | exact (Kd.C_below HR0_6.out HB.out) | (with_reducible refine Kd.C_alloc ?_ _) | (with_reducible refine Kd.C_drewN ?_ _) | (with_reducible refine Kd.C_drew ?_))); (case side2 => exact HC0_6.out); (case side3 => repeat (first | exact (Kd.C_below HR1_6.out HB.out) | (with_reducible refine Kd.C_alloc ?_ _) | (with_reducible refine Kd.C_drewN ?_ _) | (with_reducible refine Kd.C_drew ?_))); (case side4 => exact HC1_6.out); rintro e w' ⟨rfl, ⟨nd, rfl⟩⟩; refine ⟨_, rfl, ?_⟩))
    go_ret
    exact ⟨by first | rfl | (simp [errW_none, errW_some] <;> rfl) | (simp [*, errW_none, errW_some] <;> rfl), by repeat (first | (with_reducible first | exact HB.out | apply below_alloc | apply pw_below_drewN | apply below_drew1 | refine below_set ?_ GE206.out | refine below_set ?_ GE207.out) | exact HB.out)⟩
def stanchionref16_takes.f (a0_0 : Int) (a0_1 : ByteArray) (a0_2 : ByteArray) (a0_3 : Bool) : Option (Int × ByteArray × ByteArray × Bool) := (stanchionref01_TakeNum.f a0_2).bind fun bt211 => (if a0_3 = true then (if bt211.2.2 = 0 then (if bt211.1 > 1073741824 then (some (0, (⟨#[]⟩ : ByteArray), (⟨#[]⟩ : ByteArray), false)) else (some (wrap64 (bt211.1), (⟨#[]⟩ : ByteArray), bt211.2.1, true))) else (some (0, (⟨#[]⟩ : ByteArray), (⟨#[]⟩ : ByteArray), false))) else (some (0, (⟨#[]⟩ : ByteArray), (⟨#[]⟩ : ByteArray), false)))
set_option maxHeartbeats 8000000 in
set_option maxRecDepth 100000 in
theorem stanchionref16_takes.calls (a0_0 : Int) (a0_1 : ByteArray) (a0_2 : ByteArray) (a0_3 : Bool) (r1 : Int) (r2 : ByteArray) (r3 : ByteArray) (r4 : Bool) (w : World) (h : stanchionref16_takes.f a0_0 a0_1 a0_2 a0_3 = some (r1, r2, r3, r4)) :
    Calls Tryd.prog 28 #[.agg #[.int .i64 a0_0, .string a0_1, .string a0_2, .bool a0_3]] w fun e w' => e = .returned (.agg #[.int .i64 r1, .string r2, .string r3, .bool r4]) ∧ Below w.heap.size w w' := by
  have hu67 := Tryd.underlying67
  have HB := Aside0.mk (Below.refl w.heap.size w)
  have H : ((stanchionref01_TakeNum.f a0_2).bind fun bt211 => (if a0_3 = true then (if bt211.2.2 = 0 then (if bt211.1 > 1073741824 then (some (0, (⟨#[]⟩ : ByteArray), (⟨#[]⟩ : ByteArray), false)) else (some (wrap64 (bt211.1), (⟨#[]⟩ : ByteArray), bt211.2.1, true))) else (some (0, (⟨#[]⟩ : ByteArray), (⟨#[]⟩ : ByteArray), false))) else (some (0, (⟨#[]⟩ : ByteArray), (⟨#[]⟩ : ByteArray), false)))) = some (r1, r2, r3, r4) := h
  clear h
  replace H := Option.bind_eq_some_iff.mp H
  obtain ⟨⟨t211, t212, t213⟩, A20, H⟩ := H
  replace H : (if a0_3 = true then (if t213 = 0 then (if t211 > 1073741824 then (some (0, (⟨#[]⟩ : ByteArray), (⟨#[]⟩ : ByteArray), false)) else (some (wrap64 (t211), (⟨#[]⟩ : ByteArray), t212, true))) else (some (0, (⟨#[]⟩ : ByteArray), (⟨#[]⟩ : ByteArray), false))) else (some (0, (⟨#[]⟩ : ByteArray), (⟨#[]⟩ : ByteArray), false))) = some (r1, r2, r3, r4) := H
  have A2 := Aside0.mk A20
  clear A20
  by_cases c3 : a0_3 = true
  · subst c3
    have H1 : (if t213 = 0 then (if t211 > 1073741824 then (some (0, (⟨#[]⟩ : ByteArray), (⟨#[]⟩ : ByteArray), false)) else (some (wrap64 (t211), (⟨#[]⟩ : ByteArray), t212, true))) else (some (0, (⟨#[]⟩ : ByteArray), (⟨#[]⟩ : ByteArray), false))) = some (r1, r2, r3, r4) := by rw [if_pos rfl] at H; exact H
    clear H
    have H := H1
    clear H1
    by_cases c4 : t213 = 0
    · rw [if_pos c4] at H
      have c4b0 : (t213 == 0) = true := beq_iff_eq.mpr c4
      have c4b1 : (t213 != 0) = false := bne_eq_false_iff_eq.mpr c4
      clear c4
      by_cases c5 : t211 > 1073741824
      · rw [if_pos c5] at H
        have c5b0 : decide (1073741824 < t211) = true := decide_eq_true c5
        clear c5
        simp only [Option.some.injEq, Prod.mk.injEq] at H
        obtain ⟨rfl, rfl, rfl, rfl⟩ := H
        go_enter Tryd.func28, Tryd.ntmps28
        go_wp2_with (first | ((with_reducible refine gate_dst (N := 1) rfl ?_); refine box_event ?hg (N := 1) ?hd (cs := #[.int .i64 a0_0, .string a0_1, .string a0_2, .bool true]) (t := 67) ?hr ?_; (case hd => rfl); (case hg => rfl); (case hr => first | (go_simp; done) | (go_simp; rfl)); intro gb209 hg w6 hbox hb; have n0_ := Aside0.mk (below_step (by repeat (first | (with_reducible first | exact HB.out | apply below_alloc | apply pw_below_drewN | apply below_drew1) | exact HB.out)) hb); have n1_ := Aside0.mk (hbox); have n2_ := Aside0.mk ((by rw [hg]; exact (below_size (by repeat (first | (with_reducible first | exact HB.out | apply below_alloc | apply pw_below_drewN | apply below_drew1) | exact HB.out))) : w.heap.size ≤ gb209)); have n3_ := Aside0.mk ((by rw [hg]; exact (below_size (by repeat (first | (with_reducible first | exact HB.out | apply below_alloc | apply pw_below_drewN | apply below_drew1) | exact HB.out))) : w.heap.size ≤ gb209)); clear HB; have HB := n0_; have BK209 := n1_; have GW209 := n2_; have GE209 := n3_; clear n0_ n1_ n2_ n3_; clear hb hbox hg) | ((with_reducible refine gate_dst (N := 2) rfl ?_); refine box_event ?hg (N := 2) ?hd (cs := #[.int .i64 0, .string (⟨#[]⟩ : ByteArray), .string (⟨#[]⟩ : ByteArray), .bool false]) (t := 67) ?hr ?_; (case hd => rfl); (case hg => rfl); (case hr => first | (go_simp; done) | (go_simp; rfl)); intro gb210 hg w7 hbox hb; have n0_ := Aside0.mk (blk_below (g := gb209) (o := .cells #[.int .i64 a0_0, .string a0_1, .string a0_2, .bool true] 67 (0, 0)) (by (with_reducible repeat (first | refine blk_drewN ?_ _ | refine blk_drew ?_ | refine blk_alloc ?_ _)); exact BK209.out) hb); have n1_ := Aside0.mk (below_step (by repeat (first | (with_reducible first | exact HB.out | apply below_alloc | apply pw_below_drewN | apply below_drew1 | refine below_set ?_ GE209.out) | exact HB.out)) hb); have n2_ := Aside0.mk (hbox); have n3_ := Aside0.mk ((by rw [hg]; exact (below_size (by repeat (first | (with_reducible first | exact HB.out | apply below_alloc | apply pw_below_drewN | apply below_drew1 | refine below_set ?_ GE209.out) | exact HB.out))) : w.heap.size ≤ gb210)); have n4_ := Aside0.mk ((by rw [hg]; exact (below_size (by repeat (first | (with_reducible first | exact HB.out | apply below_alloc | apply pw_below_drewN | apply below_drew1 | refine below_set ?_ GE209.out) | exact HB.out))) : w.heap.size ≤ gb210)); have n5_ := Aside0.mk ((by rw [hg]; exact Nat.ne_of_lt (blk_lt (g := gb209) (o := .cells #[.int .i64 a0_0, .string a0_1, .string a0_2, .bool true] 67 (0, 0)) (by (with_reducible repeat (first | refine blk_drewN ?_ _ | refine blk_drew ?_ | refine blk_alloc ?_ _)); exact BK209.out)) : gb209 ≠ gb210)); have n6_ := Aside0.mk ((by rw [hg]; exact Nat.ne_of_gt (blk_lt (g := gb209) (o := .cells #[.int .i64 a0_0, .string a0_1, .string a0_2, .bool true] 67 (0, 0)) (by (with_reducible repeat (first | refine blk_drewN ?_ _ | refine blk_drew ?_ | refine blk_alloc ?_ _)); exact BK209.out)) : gb210 ≠ gb209)); clear BK209; clear HB; have BK209 := n0_; have HB := n1_; have BK210 := n2_; have GW210 := n3_; have GE210 := n4_; have NB209_210 := n5_; have NB210_209 := n6_; clear n0_ n1_ n2_ n3_ n4_ n5_ n6_; clear hb hbox hg; have hnb8 := NB209_210.out; have hnc8 := NB210_209.out; have hcz9_0 : w7.cell? ⟨gb209, 0, none⟩ = some (.int .i64 a0_0) := (blk_cell BK209.out 0).trans rfl; have hcz9_1 : w7.cell? ⟨gb209, 1, none⟩ = some (.string a0_1) := (blk_cell BK209.out 1).trans rfl; have hcz9_2 : w7.cell? ⟨gb209, 2, none⟩ = some (.string a0_2) := (blk_cell BK209.out 2).trans rfl; have hcz9_3 : w7.cell? ⟨gb209, 3, none⟩ = some (.bool true) := (blk_cell BK209.out 3).trans rfl; have hfz9_0 := blk_frozen BK209.out 0; have hfz9_1 := blk_frozen BK209.out 1; have hfz9_2 := blk_frozen BK209.out 2; have hfz9_3 := blk_frozen BK209.out 3) | ((with_reducible refine gate_callee (f := 49) rfl ?_); refine goesL_ (some 9) rfl rfl Tryd.func49 (by kernel_rfl) rfl #[.string a0_2] rfl (by (try simp only [List.map_toArray, List.map_cons, List.map_nil]); first | done | rfl | (simp only [List.length_drop, List.length_take]; rfl)) ?_; (with_reducible refine (stanchionref01_TakeNum.calls a0_2 t211 t212 t213 _ A2.out).mono ?_); rintro e w10 ⟨rfl, hb⟩; refine ⟨_, rfl, ?_⟩; have n0_ := Aside0.mk (blk_below (g := gb209) (o := .cells #[.int .i64 a0_0, .string a0_1, .string a0_2, .bool true] 67 (0, 0)) (by (with_reducible repeat (first | refine blk_drewN ?_ _ | refine blk_drew ?_ | refine blk_alloc ?_ _)); exact BK209.out) hb); have n1_ := Aside0.mk (blk_below (g := gb210) (o := .cells #[.int .i64 0, .string (⟨#[]⟩ : ByteArray), .string (⟨#[]⟩ : ByteArray), .bool false] 67 (0, 0)) (by (with_reducible repeat (first | refine blk_drewN ?_ _ | refine blk_drew ?_ | refine blk_alloc ?_ _)); exact BK210.out) hb); have n2_ := Aside0.mk (below_step (by repeat (first | (with_reducible first | exact HB.out | apply below_alloc | apply pw_below_drewN | apply below_drew1 | refine below_set ?_ GE209.out | refine below_set ?_ GE210.out) | exact HB.out)) hb); clear BK209; clear BK210; clear HB; have BK209 := n0_; have BK210 := n1_; have HB := n2_; clear n0_ n1_ n2_; (try clear hb); (try clear hb2); (try clear hk); (try clear hi); have hcz11_0 : w10.cell? ⟨gb209, 0, none⟩ = some (.int .i64 a0_0) := (blk_cell BK209.out 0).trans rfl; have hcz11_1 : w10.cell? ⟨gb209, 1, none⟩ = some (.string a0_1) := (blk_cell BK209.out 1).trans rfl; have hcz11_2 : w10.cell? ⟨gb209, 2, none⟩ = some (.string a0_2) := (blk_cell BK209.out 2).trans rfl; have hcz11_3 : w10.cell? ⟨gb209, 3, none⟩ = some (.bool true) := (blk_cell BK209.out 3).trans rfl; have hfz11_0 := blk_frozen BK209.out 0; have hfz11_1 := blk_frozen BK209.out 1; have hfz11_2 := blk_frozen BK209.out 2; have hfz11_3 := blk_frozen BK209.out 3; have hcz12_0 : w10.cell? ⟨gb210, 0, none⟩ = some (.int .i64 0) := (blk_cell BK210.out 0).trans rfl; have hcz12_1 : w10.cell? ⟨gb210, 1, none⟩ = some (.string (⟨#[]⟩ : ByteArray)) := (blk_cell BK210.out 1).trans rfl; have hcz12_2 : w10.cell? ⟨gb210, 2, none⟩ = some (.string (⟨#[]⟩ : ByteArray)) := (blk_cell BK210.out 2).trans rfl; have hcz12_3 : w10.cell? ⟨gb210, 3, none⟩ = some (.bool false) := (blk_cell BK210.out 3).trans rfl; have hfz12_0 := blk_frozen BK210.out 0; have hfz12_1 := blk_frozen BK210.out 1; have hfz12_2 := blk_frozen BK210.out 2; have hfz12_3 := blk_frozen BK210.out 3))
        refine bodyPost_ret (results_cell_row rfl _ _ gb210 67 #[.int .i64 0, .string (⟨#[]⟩ : ByteArray), .string (⟨#[]⟩ : ByteArray), .bool false] (0, 0) _ rfl (by (with_reducible repeat (first | refine blk_drewN ?_ _ | refine blk_drew ?_ | refine blk_alloc ?_ _)); refine blk_put (cs := #[.int .i64 0, .string (⟨#[]⟩ : ByteArray), .string (⟨#[]⟩ : ByteArray), .bool false]) ?_ 3 _ rfl; (with_reducible repeat (first | refine blk_drewN ?_ _ | refine blk_drew ?_ | refine blk_alloc ?_ _)); refine blk_put (cs := #[.int .i64 0, .string (⟨#[]⟩ : ByteArray), .string (⟨#[]⟩ : ByteArray), .bool false]) ?_ 2 _ rfl; (with_reducible repeat (first | refine blk_drewN ?_ _ | refine blk_drew ?_ | refine blk_alloc ?_ _)); refine blk_put (cs := #[.int .i64 0, .string (⟨#[]⟩ : ByteArray), .string (⟨#[]⟩ : ByteArray), .bool false]) ?_ 1 _ rfl; (with_reducible repeat (first | refine blk_drewN ?_ _ | refine blk_drew ?_ | refine blk_alloc ?_ _)); refine blk_put (cs := #[.int .i64 0, .string (⟨#[]⟩ : ByteArray), .string (⟨#[]⟩ : ByteArray), .bool false]) ?_ 0 _ rfl; (with_reducible repeat (first | refine blk_drewN ?_ _ | refine blk_drew ?_ | refine blk_alloc ?_ _)); exact BK210.out) Tryd.underlying67 rfl (by kernel_rfl)) rfl ?_
        exact ⟨by first | rfl | (simp [errW_none, errW_some] <;> rfl) | (simp [*, errW_none, errW_some] <;> rfl), by repeat (first | (with_reducible first | exact HB.out | apply below_alloc | apply pw_below_drewN | apply below_drew1 | refine below_set ?_ GE209.out | refine below_set ?_ GE210.out) | exact HB.out)⟩
      · rw [if_neg c5] at H
        have c5b0 : decide (1073741824 < t211) = false := decide_eq_false c5
        clear c5
        simp only [Option.some.injEq, Prod.mk.injEq] at H
        obtain ⟨rfl, rfl, rfl, rfl⟩ := H
        go_enter Tryd.func28, Tryd.ntmps28
        go_wp2_with (first | ((with_reducible refine gate_dst (N := 1) rfl ?_); refine box_event ?hg (N := 1) ?hd (cs := #[.int .i64 a0_0, .string a0_1, .string a0_2, .bool true]) (t := 67) ?hr ?_; (case hd => rfl); (case hg => rfl); (case hr => first | (go_simp; done) | (go_simp; rfl)); intro gb209 hg w13 hbox hb; have n0_ := Aside0.mk (below_step (by repeat (first | (with_reducible first | exact HB.out | apply below_alloc | apply pw_below_drewN | apply below_drew1) | exact HB.out)) hb); have n1_ := Aside0.mk (hbox); have n2_ := Aside0.mk ((by rw [hg]; exact (below_size (by repeat (first | (with_reducible first | exact HB.out | apply below_alloc | apply pw_below_drewN | apply below_drew1) | exact HB.out))) : w.heap.size ≤ gb209)); have n3_ := Aside0.mk ((by rw [hg]; exact (below_size (by repeat (first | (with_reducible first | exact HB.out | apply below_alloc | apply pw_below_drewN | apply below_drew1) | exact HB.out))) : w.heap.size ≤ gb209)); clear HB; have HB := n0_; have BK209 := n1_; have GW209 := n2_; have GE209 := n3_; clear n0_ n1_ n2_ n3_; clear hb hbox hg) | ((with_reducible refine gate_dst (N := 2) rfl ?_); refine box_event ?hg (N := 2) ?hd (cs := #[.int .i64 0, .string (⟨#[]⟩ : ByteArray), .string (⟨#[]⟩ : ByteArray), .bool false]) (t := 67) ?hr ?_; (case hd => rfl); (case hg => rfl); (case hr => first | (go_simp; done) | (go_simp; rfl)); intro gb210 hg w14 hbox hb; have n0_ := Aside0.mk (blk_below (g := gb209) (o := .cells #[.int .i64 a0_0, .string a0_1, .string a0_2, .bool true] 67 (0, 0)) (by (with_reducible repeat (first | refine blk_drewN ?_ _ | refine blk_drew ?_ | refine blk_alloc ?_ _)); exact BK209.out) hb); have n1_ := Aside0.mk (below_step (by repeat (first | (with_reducible first | exact HB.out | apply below_alloc | apply pw_below_drewN | apply below_drew1 | refine below_set ?_ GE209.out) | exact HB.out)) hb); have n2_ := Aside0.mk (hbox); have n3_ := Aside0.mk ((by rw [hg]; exact (below_size (by repeat (first | (with_reducible first | exact HB.out | apply below_alloc | apply pw_below_drewN | apply below_drew1 | refine below_set ?_ GE209.out) | exact HB.out))) : w.heap.size ≤ gb210)); have n4_ := Aside0.mk ((by rw [hg]; exact (below_size (by repeat (first | (with_reducible first | exact HB.out | apply below_alloc | apply pw_below_drewN | apply below_drew1 | refine below_set ?_ GE209.out) | exact HB.out))) : w.heap.size ≤ gb210)); have n5_ := Aside0.mk ((by rw [hg]; exact Nat.ne_of_lt (blk_lt (g := gb209) (o := .cells #[.int .i64 a0_0, .string a0_1, .string a0_2, .bool true] 67 (0, 0)) (by (with_reducible repeat (first | refine blk_drewN ?_ _ | refine blk_drew ?_ | refine blk_alloc ?_ _)); exact BK209.out)) : gb209 ≠ gb210)); have n6_ := Aside0.mk ((by rw [hg]; exact Nat.ne_of_gt (blk_lt (g := gb209) (o := .cells #[.int .i64 a0_0, .string a0_1, .string a0_2, .bool true] 67 (0, 0)) (by (with_reducible repeat (first | refine blk_drewN ?_ _ | refine blk_drew ?_ | refine blk_alloc ?_ _)); exact BK209.out)) : gb210 ≠ gb209)); clear BK209; clear HB; have BK209 := n0_; have HB := n1_; have BK210 := n2_; have GW210 := n3_; have GE210 := n4_; have NB209_210 := n5_; have NB210_209 := n6_; clear n0_ n1_ n2_ n3_ n4_ n5_ n6_; clear hb hbox hg; have hnb15 := NB209_210.out; have hnc15 := NB210_209.out; have hcz16_0 : w14.cell? ⟨gb209, 0, none⟩ = some (.int .i64 a0_0) := (blk_cell BK209.out 0).trans rfl; have hcz16_1 : w14.cell? ⟨gb209, 1, none⟩ = some (.string a0_1) := (blk_cell BK209.out 1).trans rfl; have hcz16_2 : w14.cell? ⟨gb209, 2, none⟩ = some (.string a0_2) := (blk_cell BK209.out 2).trans rfl; have hcz16_3 : w14.cell? ⟨gb209, 3, none⟩ = some (.bool true) := (blk_cell BK209.out 3).trans rfl; have hfz16_0 := blk_frozen BK209.out 0; have hfz16_1 := blk_frozen BK209.out 1; have hfz16_2 := blk_frozen BK209.out 2; have hfz16_3 := blk_frozen BK209.out 3) | ((with_reducible refine gate_callee (f := 49) rfl ?_); refine goesL_ (some 9) rfl rfl Tryd.func49 (by kernel_rfl) rfl #[.string a0_2] rfl (by (try simp only [List.map_toArray, List.map_cons, List.map_nil]); first | done | rfl | (simp only [List.length_drop, List.length_take]; rfl)) ?_; (with_reducible refine (stanchionref01_TakeNum.calls a0_2 t211 t212 t213 _ A2.out).mono ?_); rintro e w17 ⟨rfl, hb⟩; refine ⟨_, rfl, ?_⟩; have n0_ := Aside0.mk (blk_below (g := gb209) (o := .cells #[.int .i64 a0_0, .string a0_1, .string a0_2, .bool true] 67 (0, 0)) (by (with_reducible repeat (first | refine blk_drewN ?_ _ | refine blk_drew ?_ | refine blk_alloc ?_ _)); exact BK209.out) hb); have n1_ := Aside0.mk (blk_below (g := gb210) (o := .cells #[.int .i64 0, .string (⟨#[]⟩ : ByteArray), .string (⟨#[]⟩ : ByteArray), .bool false] 67 (0, 0)) (by (with_reducible repeat (first | refine blk_drewN ?_ _ | refine blk_drew ?_ | refine blk_alloc ?_ _)); exact BK210.out) hb); have n2_ := Aside0.mk (below_step (by repeat (first | (with_reducible first | exact HB.out | apply below_alloc | apply pw_below_drewN | apply below_drew1 | refine below_set ?_ GE209.out | refine below_set ?_ GE210.out) | exact HB.out)) hb); clear BK209; clear BK210; clear HB; have BK209 := n0_; have BK210 := n1_; have HB := n2_; clear n0_ n1_ n2_; (try clear hb); (try clear hb2); (try clear hk); (try clear hi); have hcz18_0 : w17.cell? ⟨gb209, 0, none⟩ = some (.int .i64 a0_0) := (blk_cell BK209.out 0).trans rfl; have hcz18_1 : w17.cell? ⟨gb209, 1, none⟩ = some (.string a0_1) := (blk_cell BK209.out 1).trans rfl; have hcz18_2 : w17.cell? ⟨gb209, 2, none⟩ = some (.string a0_2) := (blk_cell BK209.out 2).trans rfl; have hcz18_3 : w17.cell? ⟨gb209, 3, none⟩ = some (.bool true) := (blk_cell BK209.out 3).trans rfl; have hfz18_0 := blk_frozen BK209.out 0; have hfz18_1 := blk_frozen BK209.out 1; have hfz18_2 := blk_frozen BK209.out 2; have hfz18_3 := blk_frozen BK209.out 3; have hcz19_0 : w17.cell? ⟨gb210, 0, none⟩ = some (.int .i64 0) := (blk_cell BK210.out 0).trans rfl; have hcz19_1 : w17.cell? ⟨gb210, 1, none⟩ = some (.string (⟨#[]⟩ : ByteArray)) := (blk_cell BK210.out 1).trans rfl; have hcz19_2 : w17.cell? ⟨gb210, 2, none⟩ = some (.string (⟨#[]⟩ : ByteArray)) := (blk_cell BK210.out 2).trans rfl; have hcz19_3 : w17.cell? ⟨gb210, 3, none⟩ = some (.bool false) := (blk_cell BK210.out 3).trans rfl; have hfz19_0 := blk_frozen BK210.out 0; have hfz19_1 := blk_frozen BK210.out 1; have hfz19_2 := blk_frozen BK210.out 2; have hfz19_3 := blk_frozen BK210.out 3))
        refine bodyPost_ret (results_cell_row rfl _ _ gb210 67 #[.int .i64 (wrap64 (t211)), .string (⟨#[]⟩ : ByteArray), .string t212, .bool true] (0, 0) _ rfl (by (with_reducible repeat (first | refine blk_drewN ?_ _ | refine blk_drew ?_ | refine blk_alloc ?_ _)); refine blk_put (cs := #[.int .i64 (wrap64 (t211)), .string (⟨#[]⟩ : ByteArray), .string t212, .bool false]) ?_ 3 _ rfl; (with_reducible repeat (first | refine blk_drewN ?_ _ | refine blk_drew ?_ | refine blk_alloc ?_ _)); refine blk_put (cs := #[.int .i64 (wrap64 (t211)), .string (⟨#[]⟩ : ByteArray), .string (⟨#[]⟩ : ByteArray), .bool false]) ?_ 2 _ rfl; (with_reducible repeat (first | refine blk_drewN ?_ _ | refine blk_drew ?_ | refine blk_alloc ?_ _)); refine blk_put (cs := #[.int .i64 (wrap64 (t211)), .string (⟨#[]⟩ : ByteArray), .string (⟨#[]⟩ : ByteArray), .bool false]) ?_ 1 _ rfl; (with_reducible repeat (first | refine blk_drewN ?_ _ | refine blk_drew ?_ | refine blk_alloc ?_ _)); refine blk_put (cs := #[.int .i64 0, .string (⟨#[]⟩ : ByteArray), .string (⟨#[]⟩ : ByteArray), .bool false]) ?_ 0 _ rfl; (with_reducible repeat (first | refine blk_drewN ?_ _ | refine blk_drew ?_ | refine blk_alloc ?_ _)); exact BK210.out) Tryd.underlying67 rfl (by kernel_rfl)) rfl ?_
        exact ⟨by first | rfl | (simp [errW_none, errW_some] <;> rfl) | (simp [*, errW_none, errW_some] <;> rfl), by repeat (first | (with_reducible first | exact HB.out | apply below_alloc | apply pw_below_drewN | apply below_drew1 | refine below_set ?_ GE209.out | refine below_set ?_ GE210.out) | exact HB.out)⟩
    · rw [if_neg c4] at H
      have c4b0 : (t213 == 0) = false := beq_eq_false_iff_ne.mpr c4
      have c4b1 : (t213 != 0) = true := bne_iff_ne.mpr c4
      simp only [Option.some.injEq, Prod.mk.injEq] at H
      obtain ⟨rfl, rfl, rfl, rfl⟩ := H
      go_enter Tryd.func28, Tryd.ntmps28
      go_wp2_with (first | ((with_reducible refine gate_dst (N := 1) rfl ?_); refine box_event ?hg (N := 1) ?hd (cs := #[.int .i64 a0_0, .string a0_1, .string a0_2, .bool true]) (t := 67) ?hr ?_; (case hd => rfl); (case hg => rfl); (case hr => first | (go_simp; done) | (go_simp; rfl)); intro gb209 hg w20 hbox hb; have n0_ := Aside0.mk (below_step (by repeat (first | (with_reducible first | exact HB.out | apply below_alloc | apply pw_below_drewN | apply below_drew1) | exact HB.out)) hb); have n1_ := Aside0.mk (hbox); have n2_ := Aside0.mk ((by rw [hg]; exact (below_size (by repeat (first | (with_reducible first | exact HB.out | apply below_alloc | apply pw_below_drewN | apply below_drew1) | exact HB.out))) : w.heap.size ≤ gb209)); have n3_ := Aside0.mk ((by rw [hg]; exact (below_size (by repeat (first | (with_reducible first | exact HB.out | apply below_alloc | apply pw_below_drewN | apply below_drew1) | exact HB.out))) : w.heap.size ≤ gb209)); clear HB; have HB := n0_; have BK209 := n1_; have GW209 := n2_; have GE209 := n3_; clear n0_ n1_ n2_ n3_; clear hb hbox hg) | ((with_reducible refine gate_dst (N := 2) rfl ?_); refine box_event ?hg (N := 2) ?hd (cs := #[.int .i64 0, .string (⟨#[]⟩ : ByteArray), .string (⟨#[]⟩ : ByteArray), .bool false]) (t := 67) ?hr ?_; (case hd => rfl); (case hg => rfl); (case hr => first | (go_simp; done) | (go_simp; rfl)); intro gb210 hg w21 hbox hb; have n0_ := Aside0.mk (blk_below (g := gb209) (o := .cells #[.int .i64 a0_0, .string a0_1, .string a0_2, .bool true] 67 (0, 0)) (by (with_reducible repeat (first | refine blk_drewN ?_ _ | refine blk_drew ?_ | refine blk_alloc ?_ _)); exact BK209.out) hb); have n1_ := Aside0.mk (below_step (by repeat (first | (with_reducible first | exact HB.out | apply below_alloc | apply pw_below_drewN | apply below_drew1 | refine below_set ?_ GE209.out) | exact HB.out)) hb); have n2_ := Aside0.mk (hbox); have n3_ := Aside0.mk ((by rw [hg]; exact (below_size (by repeat (first | (with_reducible first | exact HB.out | apply below_alloc | apply pw_below_drewN | apply below_drew1 | refine below_set ?_ GE209.out) | exact HB.out))) : w.heap.size ≤ gb210)); have n4_ := Aside0.mk ((by rw [hg]; exact (below_size (by repeat (first | (with_reducible first | exact HB.out | apply below_alloc | apply pw_below_drewN | apply below_drew1 | refine below_set ?_ GE209.out) | exact HB.out))) : w.heap.size ≤ gb210)); have n5_ := Aside0.mk ((by rw [hg]; exact Nat.ne_of_lt (blk_lt (g := gb209) (o := .cells #[.int .i64 a0_0, .string a0_1, .string a0_2, .bool true] 67 (0, 0)) (by (with_reducible repeat (first | refine blk_drewN ?_ _ | refine blk_drew ?_ | refine blk_alloc ?_ _)); exact BK209.out)) : gb209 ≠ gb210)); have n6_ := Aside0.mk ((by rw [hg]; exact Nat.ne_of_gt (blk_lt (g := gb209) (o := .cells #[.int .i64 a0_0, .string a0_1, .string a0_2, .bool true] 67 (0, 0)) (by (with_reducible repeat (first | refine blk_drewN ?_ _ | refine blk_drew ?_ | refine blk_alloc ?_ _)); exact BK209.out)) : gb210 ≠ gb209)); clear BK209; clear HB; have BK209 := n0_; have HB := n1_; have BK210 := n2_; have GW210 := n3_; have GE210 := n4_; have NB209_210 := n5_; have NB210_209 := n6_; clear n0_ n1_ n2_ n3_ n4_ n5_ n6_; clear hb hbox hg; have hnb22 := NB209_210.out; have hnc22 := NB210_209.out; have hcz23_0 : w21.cell? ⟨gb209, 0, none⟩ = some (.int .i64 a0_0) := (blk_cell BK209.out 0).trans rfl; have hcz23_1 : w21.cell? ⟨gb209, 1, none⟩ = some (.string a0_1) := (blk_cell BK209.out 1).trans rfl; have hcz23_2 : w21.cell? ⟨gb209, 2, none⟩ = some (.string a0_2) := (blk_cell BK209.out 2).trans rfl; have hcz23_3 : w21.cell? ⟨gb209, 3, none⟩ = some (.bool true) := (blk_cell BK209.out 3).trans rfl; have hfz23_0 := blk_frozen BK209.out 0; have hfz23_1 := blk_frozen BK209.out 1; have hfz23_2 := blk_frozen BK209.out 2; have hfz23_3 := blk_frozen BK209.out 3) | ((with_reducible refine gate_callee (f := 49) rfl ?_); refine goesL_ (some 9) rfl rfl Tryd.func49 (by kernel_rfl) rfl #[.string a0_2] rfl (by (try simp only [List.map_toArray, List.map_cons, List.map_nil]); first | done | rfl | (simp only [List.length_drop, List.length_take]; rfl)) ?_; (with_reducible refine (stanchionref01_TakeNum.calls a0_2 t211 t212 t213 _ A2.out).mono ?_); rintro e w24 ⟨rfl, hb⟩; refine ⟨_, rfl, ?_⟩; have n0_ := Aside0.mk (blk_below (g := gb209) (o := .cells #[.int .i64 a0_0, .string a0_1, .string a0_2, .bool true] 67 (0, 0)) (by (with_reducible repeat (first | refine blk_drewN ?_ _ | refine blk_drew ?_ | refine blk_alloc ?_ _)); exact BK209.out) hb); have n1_ := Aside0.mk (blk_below (g := gb210) (o := .cells #[.int .i64 0, .string (⟨#[]⟩ : ByteArray), .string (⟨#[]⟩ : ByteArray), .bool false] 67 (0, 0)) (by (with_reducible repeat (first | refine blk_drewN ?_ _ | refine blk_drew ?_ | refine blk_alloc ?_ _)); exact BK210.out) hb); have n2_ := Aside0.mk (below_step (by repeat (first | (with_reducible first | exact HB.out | apply below_alloc | apply pw_below_drewN | apply below_drew1 | refine below_set ?_ GE209.out | refine below_set ?_ GE210.out) | exact HB.out)) hb); clear BK209; clear BK210; clear HB; have BK209 := n0_; have BK210 := n1_; have HB := n2_; clear n0_ n1_ n2_; (try clear hb); (try clear hb2); (try clear hk); (try clear hi); have hcz25_0 : w24.cell? ⟨gb209, 0, none⟩ = some (.int .i64 a0_0) := (blk_cell BK209.out 0).trans rfl; have hcz25_1 : w24.cell? ⟨gb209, 1, none⟩ = some (.string a0_1) := (blk_cell BK209.out 1).trans rfl; have hcz25_2 : w24.cell? ⟨gb209, 2, none⟩ = some (.string a0_2) := (blk_cell BK209.out 2).trans rfl; have hcz25_3 : w24.cell? ⟨gb209, 3, none⟩ = some (.bool true) := (blk_cell BK209.out 3).trans rfl; have hfz25_0 := blk_frozen BK209.out 0; have hfz25_1 := blk_frozen BK209.out 1; have hfz25_2 := blk_frozen BK209.out 2; have hfz25_3 := blk_frozen BK209.out 3; have hcz26_0 : w24.cell? ⟨gb210, 0, none⟩ = some (.int .i64 0) := (blk_cell BK210.out 0).trans rfl; have hcz26_1 : w24.cell? ⟨gb210, 1, none⟩ = some (.string (⟨#[]⟩ : ByteArray)) := (blk_cell BK210.out 1).trans rfl; have hcz26_2 : w24.cell? ⟨gb210, 2, none⟩ = some (.string (⟨#[]⟩ : ByteArray)) := (blk_cell BK210.out 2).trans rfl; have hcz26_3 : w24.cell? ⟨gb210, 3, none⟩ = some (.bool false) := (blk_cell BK210.out 3).trans rfl; have hfz26_0 := blk_frozen BK210.out 0; have hfz26_1 := blk_frozen BK210.out 1; have hfz26_2 := blk_frozen BK210.out 2; have hfz26_3 := blk_frozen BK210.out 3))
      refine bodyPost_ret (results_cell_row rfl _ _ gb210 67 #[.int .i64 0, .string (⟨#[]⟩ : ByteArray), .string (⟨#[]⟩ : ByteArray), .bool false] (0, 0) _ rfl (by (with_reducible repeat (first | refine blk_drewN ?_ _ | refine blk_drew ?_ | refine blk_alloc ?_ _)); refine blk_put (cs := #[.int .i64 0, .string (⟨#[]⟩ : ByteArray), .string (⟨#[]⟩ : ByteArray), .bool false]) ?_ 3 _ rfl; (with_reducible repeat (first | refine blk_drewN ?_ _ | refine blk_drew ?_ | refine blk_alloc ?_ _)); refine blk_put (cs := #[.int .i64 0, .string (⟨#[]⟩ : ByteArray), .string (⟨#[]⟩ : ByteArray), .bool false]) ?_ 2 _ rfl; (with_reducible repeat (first | refine blk_drewN ?_ _ | refine blk_drew ?_ | refine blk_alloc ?_ _)); refine blk_put (cs := #[.int .i64 0, .string (⟨#[]⟩ : ByteArray), .string (⟨#[]⟩ : ByteArray), .bool false]) ?_ 1 _ rfl; (with_reducible repeat (first | refine blk_drewN ?_ _ | refine blk_drew ?_ | refine blk_alloc ?_ _)); refine blk_put (cs := #[.int .i64 0, .string (⟨#[]⟩ : ByteArray), .string (⟨#[]⟩ : ByteArray), .bool false]) ?_ 0 _ rfl; (with_reducible repeat (first | refine blk_drewN ?_ _ | refine blk_drew ?_ | refine blk_alloc ?_ _)); exact BK210.out) Tryd.underlying67 rfl (by kernel_rfl)) rfl ?_
      exact ⟨by first | rfl | (simp [errW_none, errW_some] <;> rfl) | (simp [*, errW_none, errW_some] <;> rfl), by repeat (first | (with_reducible first | exact HB.out | apply below_alloc | apply pw_below_drewN | apply below_drew1 | refine below_set ?_ GE209.out | refine below_set ?_ GE210.out) | exact HB.out)⟩
  · replace c3 := Bool.eq_false_iff.mpr c3
    subst c3
    have H1 : (some (0, (⟨#[]⟩ : ByteArray), (⟨#[]⟩ : ByteArray), false)) = some (r1, r2, r3, r4) := by rw [if_neg (show ¬ (false = true) by decide)] at H; exact H
    clear H
    have H := H1
    clear H1
    simp only [Option.some.injEq, Prod.mk.injEq] at H
    obtain ⟨rfl, rfl, rfl, rfl⟩ := H
    go_enter Tryd.func28, Tryd.ntmps28
    go_wp2_with (first | ((with_reducible refine gate_dst (N := 1) rfl ?_); refine box_event ?hg (N := 1) ?hd (cs := #[.int .i64 a0_0, .string a0_1, .string a0_2, .bool false]) (t := 67) ?hr ?_; (case hd => rfl); (case hg => rfl); (case hr => first | (go_simp; done) | (go_simp; rfl)); intro gb209 hg w27 hbox hb; have n0_ := Aside0.mk (below_step (by repeat (first | (with_reducible first | exact HB.out | apply below_alloc | apply pw_below_drewN | apply below_drew1) | exact HB.out)) hb); have n1_ := Aside0.mk (hbox); have n2_ := Aside0.mk ((by rw [hg]; exact (below_size (by repeat (first | (with_reducible first | exact HB.out | apply below_alloc | apply pw_below_drewN | apply below_drew1) | exact HB.out))) : w.heap.size ≤ gb209)); have n3_ := Aside0.mk ((by rw [hg]; exact (below_size (by repeat (first | (with_reducible first | exact HB.out | apply below_alloc | apply pw_below_drewN | apply below_drew1) | exact HB.out))) : w.heap.size ≤ gb209)); clear HB; have HB := n0_; have BK209 := n1_; have GW209 := n2_; have GE209 := n3_; clear n0_ n1_ n2_ n3_; clear hb hbox hg) | ((with_reducible refine gate_dst (N := 2) rfl ?_); refine box_event ?hg (N := 2) ?hd (cs := #[.int .i64 0, .string (⟨#[]⟩ : ByteArray), .string (⟨#[]⟩ : ByteArray), .bool false]) (t := 67) ?hr ?_; (case hd => rfl); (case hg => rfl); (case hr => first | (go_simp; done) | (go_simp; rfl)); intro gb210 hg w28 hbox hb; have n0_ := Aside0.mk (blk_below (g := gb209) (o := .cells #[.int .i64 a0_0, .string a0_1, .string a0_2, .bool false] 67 (0, 0)) (by (with_reducible repeat (first | refine blk_drewN ?_ _ | refine blk_drew ?_ | refine blk_alloc ?_ _)); exact BK209.out) hb); have n1_ := Aside0.mk (below_step (by repeat (first | (with_reducible first | exact HB.out | apply below_alloc | apply pw_below_drewN | apply below_drew1 | refine below_set ?_ GE209.out) | exact HB.out)) hb); have n2_ := Aside0.mk (hbox); have n3_ := Aside0.mk ((by rw [hg]; exact (below_size (by repeat (first | (with_reducible first | exact HB.out | apply below_alloc | apply pw_below_drewN | apply below_drew1 | refine below_set ?_ GE209.out) | exact HB.out))) : w.heap.size ≤ gb210)); have n4_ := Aside0.mk ((by rw [hg]; exact (below_size (by repeat (first | (with_reducible first | exact HB.out | apply below_alloc | apply pw_below_drewN | apply below_drew1 | refine below_set ?_ GE209.out) | exact HB.out))) : w.heap.size ≤ gb210)); have n5_ := Aside0.mk ((by rw [hg]; exact Nat.ne_of_lt (blk_lt (g := gb209) (o := .cells #[.int .i64 a0_0, .string a0_1, .string a0_2, .bool false] 67 (0, 0)) (by (with_reducible repeat (first | refine blk_drewN ?_ _ | refine blk_drew ?_ | refine blk_alloc ?_ _)); exact BK209.out)) : gb209 ≠ gb210)); have n6_ := Aside0.mk ((by rw [hg]; exact Nat.ne_of_gt (blk_lt (g := gb209) (o := .cells #[.int .i64 a0_0, .string a0_1, .string a0_2, .bool false] 67 (0, 0)) (by (with_reducible repeat (first | refine blk_drewN ?_ _ | refine blk_drew ?_ | refine blk_alloc ?_ _)); exact BK209.out)) : gb210 ≠ gb209)); clear BK209; clear HB; have BK209 := n0_; have HB := n1_; have BK210 := n2_; have GW210 := n3_; have GE210 := n4_; have NB209_210 := n5_; have NB210_209 := n6_; clear n0_ n1_ n2_ n3_ n4_ n5_ n6_; clear hb hbox hg; have hnb29 := NB209_210.out; have hnc29 := NB210_209.out; have hcz30_0 : w28.cell? ⟨gb209, 0, none⟩ = some (.int .i64 a0_0) := (blk_cell BK209.out 0).trans rfl; have hcz30_1 : w28.cell? ⟨gb209, 1, none⟩ = some (.string a0_1) := (blk_cell BK209.out 1).trans rfl; have hcz30_2 : w28.cell? ⟨gb209, 2, none⟩ = some (.string a0_2) := (blk_cell BK209.out 2).trans rfl; have hcz30_3 : w28.cell? ⟨gb209, 3, none⟩ = some (.bool false) := (blk_cell BK209.out 3).trans rfl; have hfz30_0 := blk_frozen BK209.out 0; have hfz30_1 := blk_frozen BK209.out 1; have hfz30_2 := blk_frozen BK209.out 2; have hfz30_3 := blk_frozen BK209.out 3) | ((with_reducible refine gate_callee (f := 49) rfl ?_); refine goesL_ (some 9) rfl rfl Tryd.func49 (by kernel_rfl) rfl #[.string a0_2] rfl (by (try simp only [List.map_toArray, List.map_cons, List.map_nil]); first | done | rfl | (simp only [List.length_drop, List.length_take]; rfl)) ?_; (with_reducible refine (stanchionref01_TakeNum.calls a0_2 t211 t212 t213 _ A2.out).mono ?_); rintro e w31 ⟨rfl, hb⟩; refine ⟨_, rfl, ?_⟩; have n0_ := Aside0.mk (blk_below (g := gb209) (o := .cells #[.int .i64 a0_0, .string a0_1, .string a0_2, .bool false] 67 (0, 0)) (by (with_reducible repeat (first | refine blk_drewN ?_ _ | refine blk_drew ?_ | refine blk_alloc ?_ _)); exact BK209.out) hb); have n1_ := Aside0.mk (blk_below (g := gb210) (o := .cells #[.int .i64 0, .string (⟨#[]⟩ : ByteArray), .string (⟨#[]⟩ : ByteArray), .bool false] 67 (0, 0)) (by (with_reducible repeat (first | refine blk_drewN ?_ _ | refine blk_drew ?_ | refine blk_alloc ?_ _)); exact BK210.out) hb); have n2_ := Aside0.mk (below_step (by repeat (first | (with_reducible first | exact HB.out | apply below_alloc | apply pw_below_drewN | apply below_drew1 | refine below_set ?_ GE209.out | refine below_set ?_ GE210.out) | exact HB.out)) hb); clear BK209; clear BK210; clear HB; have BK209 := n0_; have BK210 := n1_; have HB := n2_; clear n0_ n1_ n2_; (try clear hb); (try clear hb2); (try clear hk); (try clear hi); have hcz32_0 : w31.cell? ⟨gb209, 0, none⟩ = some (.int .i64 a0_0) := (blk_cell BK209.out 0).trans rfl; have hcz32_1 : w31.cell? ⟨gb209, 1, none⟩ = some (.string a0_1) := (blk_cell BK209.out 1).trans rfl; have hcz32_2 : w31.cell? ⟨gb209, 2, none⟩ = some (.string a0_2) := (blk_cell BK209.out 2).trans rfl; have hcz32_3 : w31.cell? ⟨gb209, 3, none⟩ = some (.bool false) := (blk_cell BK209.out 3).trans rfl; have hfz32_0 := blk_frozen BK209.out 0; have hfz32_1 := blk_frozen BK209.out 1; have hfz32_2 := blk_frozen BK209.out 2; have hfz32_3 := blk_frozen BK209.out 3; have hcz33_0 : w31.cell? ⟨gb210, 0, none⟩ = some (.int .i64 0) := (blk_cell BK210.out 0).trans rfl; have hcz33_1 : w31.cell? ⟨gb210, 1, none⟩ = some (.string (⟨#[]⟩ : ByteArray)) := (blk_cell BK210.out 1).trans rfl; have hcz33_2 : w31.cell? ⟨gb210, 2, none⟩ = some (.string (⟨#[]⟩ : ByteArray)) := (blk_cell BK210.out 2).trans rfl; have hcz33_3 : w31.cell? ⟨gb210, 3, none⟩ = some (.bool false) := (blk_cell BK210.out 3).trans rfl; have hfz33_0 := blk_frozen BK210.out 0; have hfz33_1 := blk_frozen BK210.out 1; have hfz33_2 := blk_frozen BK210.out 2; have hfz33_3 := blk_frozen BK210.out 3))
    refine bodyPost_ret (results_cell_row rfl _ _ gb210 67 #[.int .i64 0, .string (⟨#[]⟩ : ByteArray), .string (⟨#[]⟩ : ByteArray), .bool false] (0, 0) _ rfl (by (with_reducible repeat (first | refine blk_drewN ?_ _ | refine blk_drew ?_ | refine blk_alloc ?_ _)); refine blk_put (cs := #[.int .i64 0, .string (⟨#[]⟩ : ByteArray), .string (⟨#[]⟩ : ByteArray), .bool false]) ?_ 3 _ rfl; (with_reducible repeat (first | refine blk_drewN ?_ _ | refine blk_drew ?_ | refine blk_alloc ?_ _)); refine blk_put (cs := #[.int .i64 0, .string (⟨#[]⟩ : ByteArray), .string (⟨#[]⟩ : ByteArray), .bool false]) ?_ 2 _ rfl; (with_reducible repeat (first | refine blk_drewN ?_ _ | refine blk_drew ?_ | refine blk_alloc ?_ _)); refine blk_put (cs := #[.int .i64 0, .string (⟨#[]⟩ : ByteArray), .string (⟨#[]⟩ : ByteArray), .bool false]) ?_ 1 _ rfl; (with_reducible repeat (first | refine blk_drewN ?_ _ | refine blk_drew ?_ | refine blk_alloc ?_ _)); refine blk_put (cs := #[.int .i64 0, .string (⟨#[]⟩ : ByteArray), .string (⟨#[]⟩ : ByteArray), .bool false]) ?_ 0 _ rfl; (with_reducible repeat (first | refine blk_drewN ?_ _ | refine blk_drew ?_ | refine blk_alloc ?_ _)); exact BK210.out) Tryd.underlying67 rfl (by kernel_rfl)) rfl ?_
    exact ⟨by first | rfl | (simp [errW_none, errW_some] <;> rfl) | (simp [*, errW_none, errW_some] <;> rfl), by repeat (first | (with_reducible first | exact HB.out | apply below_alloc | apply pw_below_drewN | apply below_drew1 | refine below_set ?_ GE209.out | refine below_set ?_ GE210.out) | exact HB.out)⟩
def stanchionref16_reads.f (a0_0 : Int) (a0_1 : ByteArray) (a0_2 : ByteArray) (a0_3 : Bool) (a1 : Int) : Option (Int × ByteArray × ByteArray × Bool) := (stanchionref01_TakeText.f a0_2 a1).bind fun bt216 => (if a0_3 = true then (if bt216.2.2 = 0 then (some (0, bt216.1, bt216.2.1, true)) else (some (0, (⟨#[]⟩ : ByteArray), (⟨#[]⟩ : ByteArray), false))) else (some (0, (⟨#[]⟩ : ByteArray), (⟨#[]⟩ : ByteArray), false)))
set_option maxHeartbeats 8000000 in
set_option maxRecDepth 100000 in
theorem stanchionref16_reads.calls (a0_0 : Int) (a0_1 : ByteArray) (a0_2 : ByteArray) (a0_3 : Bool) (a1 : Int) (r1 : Int) (r2 : ByteArray) (r3 : ByteArray) (r4 : Bool) (w : World) (h : stanchionref16_reads.f a0_0 a0_1 a0_2 a0_3 a1 = some (r1, r2, r3, r4)) :
    Calls Tryd.prog 29 #[.agg #[.int .i64 a0_0, .string a0_1, .string a0_2, .bool a0_3], .int .i64 a1] w fun e w' => e = .returned (.agg #[.int .i64 r1, .string r2, .string r3, .bool r4]) ∧ Below w.heap.size w w' := by
  have hu67 := Tryd.underlying67
  have HB := Aside0.mk (Below.refl w.heap.size w)
  have H : ((stanchionref01_TakeText.f a0_2 a1).bind fun bt216 => (if a0_3 = true then (if bt216.2.2 = 0 then (some (0, bt216.1, bt216.2.1, true)) else (some (0, (⟨#[]⟩ : ByteArray), (⟨#[]⟩ : ByteArray), false))) else (some (0, (⟨#[]⟩ : ByteArray), (⟨#[]⟩ : ByteArray), false)))) = some (r1, r2, r3, r4) := h
  clear h
  replace H := Option.bind_eq_some_iff.mp H
  obtain ⟨⟨t216, t217, t218⟩, A30, H⟩ := H
  replace H : (if a0_3 = true then (if t218 = 0 then (some (0, t216, t217, true)) else (some (0, (⟨#[]⟩ : ByteArray), (⟨#[]⟩ : ByteArray), false))) else (some (0, (⟨#[]⟩ : ByteArray), (⟨#[]⟩ : ByteArray), false))) = some (r1, r2, r3, r4) := H
  have A3 := Aside0.mk A30
  clear A30
  by_cases c4 : a0_3 = true
  · subst c4
    have H1 : (if t218 = 0 then (some (0, t216, t217, true)) else (some (0, (⟨#[]⟩ : ByteArray), (⟨#[]⟩ : ByteArray), false))) = some (r1, r2, r3, r4) := by rw [if_pos rfl] at H; exact H
    clear H
    have H := H1
    clear H1
    by_cases c5 : t218 = 0
    · rw [if_pos c5] at H
      have c5b0 : (t218 == 0) = true := beq_iff_eq.mpr c5
      have c5b1 : (t218 != 0) = false := bne_eq_false_iff_eq.mpr c5
      clear c5
      simp only [Option.some.injEq, Prod.mk.injEq] at H
      obtain ⟨rfl, rfl, rfl, rfl⟩ := H
      go_enter Tryd.func29, Tryd.ntmps29
      go_wp2_with (first | ((with_reducible refine gate_dst (N := 2) rfl ?_); refine box_event ?hg (N := 2) ?hd (cs := #[.int .i64 a0_0, .string a0_1, .string a0_2, .bool true]) (t := 67) ?hr ?_; (case hd => rfl); (case hg => rfl); (case hr => first | (go_simp; done) | (go_simp; rfl)); intro gb214 hg w6 hbox hb; have n0_ := Aside0.mk (below_step (by repeat (first | (with_reducible first | exact HB.out | apply below_alloc | apply pw_below_drewN | apply below_drew1) | exact HB.out)) hb); have n1_ := Aside0.mk (hbox); have n2_ := Aside0.mk ((by rw [hg]; exact (below_size (by repeat (first | (with_reducible first | exact HB.out | apply below_alloc | apply pw_below_drewN | apply below_drew1) | exact HB.out))) : w.heap.size ≤ gb214)); have n3_ := Aside0.mk ((by rw [hg]; exact (below_size (by repeat (first | (with_reducible first | exact HB.out | apply below_alloc | apply pw_below_drewN | apply below_drew1) | exact HB.out))) : w.heap.size ≤ gb214)); clear HB; have HB := n0_; have BK214 := n1_; have GW214 := n2_; have GE214 := n3_; clear n0_ n1_ n2_ n3_; clear hb hbox hg) | ((with_reducible refine gate_dst (N := 4) rfl ?_); refine box_event ?hg (N := 4) ?hd (cs := #[.int .i64 0, .string (⟨#[]⟩ : ByteArray), .string (⟨#[]⟩ : ByteArray), .bool false]) (t := 67) ?hr ?_; (case hd => rfl); (case hg => rfl); (case hr => first | (go_simp; done) | (go_simp; rfl)); intro gb215 hg w7 hbox hb; have n0_ := Aside0.mk (blk_below (g := gb214) (o := .cells #[.int .i64 a0_0, .string a0_1, .string a0_2, .bool true] 67 (0, 0)) (by (with_reducible repeat (first | refine blk_drewN ?_ _ | refine blk_drew ?_ | refine blk_alloc ?_ _)); exact BK214.out) hb); have n1_ := Aside0.mk (below_step (by repeat (first | (with_reducible first | exact HB.out | apply below_alloc | apply pw_below_drewN | apply below_drew1 | refine below_set ?_ GE214.out) | exact HB.out)) hb); have n2_ := Aside0.mk (hbox); have n3_ := Aside0.mk ((by rw [hg]; exact (below_size (by repeat (first | (with_reducible first | exact HB.out | apply below_alloc | apply pw_below_drewN | apply below_drew1 | refine below_set ?_ GE214.out) | exact HB.out))) : w.heap.size ≤ gb215)); have n4_ := Aside0.mk ((by rw [hg]; exact (below_size (by repeat (first | (with_reducible first | exact HB.out | apply below_alloc | apply pw_below_drewN | apply below_drew1 | refine below_set ?_ GE214.out) | exact HB.out))) : w.heap.size ≤ gb215)); have n5_ := Aside0.mk ((by rw [hg]; exact Nat.ne_of_lt (blk_lt (g := gb214) (o := .cells #[.int .i64 a0_0, .string a0_1, .string a0_2, .bool true] 67 (0, 0)) (by (with_reducible repeat (first | refine blk_drewN ?_ _ | refine blk_drew ?_ | refine blk_alloc ?_ _)); exact BK214.out)) : gb214 ≠ gb215)); have n6_ := Aside0.mk ((by rw [hg]; exact Nat.ne_of_gt (blk_lt (g := gb214) (o := .cells #[.int .i64 a0_0, .string a0_1, .string a0_2, .bool true] 67 (0, 0)) (by (with_reducible repeat (first | refine blk_drewN ?_ _ | refine blk_drew ?_ | refine blk_alloc ?_ _)); exact BK214.out)) : gb215 ≠ gb214)); clear BK214; clear HB; have BK214 := n0_; have HB := n1_; have BK215 := n2_; have GW215 := n3_; have GE215 := n4_; have NB214_215 := n5_; have NB215_214 := n6_; clear n0_ n1_ n2_ n3_ n4_ n5_ n6_; clear hb hbox hg; have hnb8 := NB214_215.out; have hnc8 := NB215_214.out; have hcz9_0 : w7.cell? ⟨gb214, 0, none⟩ = some (.int .i64 a0_0) := (blk_cell BK214.out 0).trans rfl; have hcz9_1 : w7.cell? ⟨gb214, 1, none⟩ = some (.string a0_1) := (blk_cell BK214.out 1).trans rfl; have hcz9_2 : w7.cell? ⟨gb214, 2, none⟩ = some (.string a0_2) := (blk_cell BK214.out 2).trans rfl; have hcz9_3 : w7.cell? ⟨gb214, 3, none⟩ = some (.bool true) := (blk_cell BK214.out 3).trans rfl; have hfz9_0 := blk_frozen BK214.out 0; have hfz9_1 := blk_frozen BK214.out 1; have hfz9_2 := blk_frozen BK214.out 2; have hfz9_3 := blk_frozen BK214.out 3) | ((with_reducible refine gate_callee (f := 50) rfl ?_); refine goesL_ (some 12) rfl rfl Tryd.func50 (by kernel_rfl) rfl #[.string a0_2, .int .i64 a1] rfl (by (try simp only [List.map_toArray, List.map_cons, List.map_nil]); first | done | rfl | (simp only [List.length_drop, List.length_take]; rfl)) ?_; (with_reducible refine (stanchionref01_TakeText.calls a0_2 a1 t216 t217 t218 _ A3.out).mono ?_); rintro e w10 ⟨rfl, hb⟩; refine ⟨_, rfl, ?_⟩; have n0_ := Aside0.mk (blk_below (g := gb214) (o := .cells #[.int .i64 a0_0, .string a0_1, .string a0_2, .bool true] 67 (0, 0)) (by (with_reducible repeat (first | refine blk_drewN ?_ _ | refine blk_drew ?_ | refine blk_alloc ?_ _)); exact BK214.out) hb); have n1_ := Aside0.mk (blk_below (g := gb215) (o := .cells #[.int .i64 0, .string (⟨#[]⟩ : ByteArray), .string (⟨#[]⟩ : ByteArray), .bool false] 67 (0, 0)) (by (with_reducible repeat (first | refine blk_drewN ?_ _ | refine blk_drew ?_ | refine blk_alloc ?_ _)); exact BK215.out) hb); have n2_ := Aside0.mk (below_step (by repeat (first | (with_reducible first | exact HB.out | apply below_alloc | apply pw_below_drewN | apply below_drew1 | refine below_set ?_ GE214.out | refine below_set ?_ GE215.out) | exact HB.out)) hb); clear BK214; clear BK215; clear HB; have BK214 := n0_; have BK215 := n1_; have HB := n2_; clear n0_ n1_ n2_; (try clear hb); (try clear hb2); (try clear hk); (try clear hi); have hcz11_0 : w10.cell? ⟨gb214, 0, none⟩ = some (.int .i64 a0_0) := (blk_cell BK214.out 0).trans rfl; have hcz11_1 : w10.cell? ⟨gb214, 1, none⟩ = some (.string a0_1) := (blk_cell BK214.out 1).trans rfl; have hcz11_2 : w10.cell? ⟨gb214, 2, none⟩ = some (.string a0_2) := (blk_cell BK214.out 2).trans rfl; have hcz11_3 : w10.cell? ⟨gb214, 3, none⟩ = some (.bool true) := (blk_cell BK214.out 3).trans rfl; have hfz11_0 := blk_frozen BK214.out 0; have hfz11_1 := blk_frozen BK214.out 1; have hfz11_2 := blk_frozen BK214.out 2; have hfz11_3 := blk_frozen BK214.out 3; have hcz12_0 : w10.cell? ⟨gb215, 0, none⟩ = some (.int .i64 0) := (blk_cell BK215.out 0).trans rfl; have hcz12_1 : w10.cell? ⟨gb215, 1, none⟩ = some (.string (⟨#[]⟩ : ByteArray)) := (blk_cell BK215.out 1).trans rfl; have hcz12_2 : w10.cell? ⟨gb215, 2, none⟩ = some (.string (⟨#[]⟩ : ByteArray)) := (blk_cell BK215.out 2).trans rfl; have hcz12_3 : w10.cell? ⟨gb215, 3, none⟩ = some (.bool false) := (blk_cell BK215.out 3).trans rfl; have hfz12_0 := blk_frozen BK215.out 0; have hfz12_1 := blk_frozen BK215.out 1; have hfz12_2 := blk_frozen BK215.out 2; have hfz12_3 := blk_frozen BK215.out 3))
      refine bodyPost_ret (results_cell_row rfl _ _ gb215 67 #[.int .i64 0, .string t216, .string t217, .bool true] (0, 0) _ rfl (by (with_reducible repeat (first | refine blk_drewN ?_ _ | refine blk_drew ?_ | refine blk_alloc ?_ _)); refine blk_put (cs := #[.int .i64 0, .string t216, .string t217, .bool false]) ?_ 3 _ rfl; (with_reducible repeat (first | refine blk_drewN ?_ _ | refine blk_drew ?_ | refine blk_alloc ?_ _)); refine blk_put (cs := #[.int .i64 0, .string t216, .string (⟨#[]⟩ : ByteArray), .bool false]) ?_ 2 _ rfl; (with_reducible repeat (first | refine blk_drewN ?_ _ | refine blk_drew ?_ | refine blk_alloc ?_ _)); refine blk_put (cs := #[.int .i64 0, .string (⟨#[]⟩ : ByteArray), .string (⟨#[]⟩ : ByteArray), .bool false]) ?_ 1 _ rfl; (with_reducible repeat (first | refine blk_drewN ?_ _ | refine blk_drew ?_ | refine blk_alloc ?_ _)); refine blk_put (cs := #[.int .i64 0, .string (⟨#[]⟩ : ByteArray), .string (⟨#[]⟩ : ByteArray), .bool false]) ?_ 0 _ rfl; (with_reducible repeat (first | refine blk_drewN ?_ _ | refine blk_drew ?_ | refine blk_alloc ?_ _)); exact BK215.out) Tryd.underlying67 rfl (by kernel_rfl)) rfl ?_
      exact ⟨by first | rfl | (simp [errW_none, errW_some] <;> rfl) | (simp [*, errW_none, errW_some] <;> rfl), by repeat (first | (with_reducible first | exact HB.out | apply below_alloc | apply pw_below_drewN | apply below_drew1 | refine below_set ?_ GE214.out | refine below_set ?_ GE215.out) | exact HB.out)⟩
    · rw [if_neg c5] at H
      have c5b0 : (t218 == 0) = false := beq_eq_false_iff_ne.mpr c5
      have c5b1 : (t218 != 0) = true := bne_iff_ne.mpr c5
      simp only [Option.some.injEq, Prod.mk.injEq] at H
      obtain ⟨rfl, rfl, rfl, rfl⟩ := H
      go_enter Tryd.func29, Tryd.ntmps29
      go_wp2_with (first | ((with_reducible refine gate_dst (N := 2) rfl ?_); refine box_event ?hg (N := 2) ?hd (cs := #[.int .i64 a0_0, .string a0_1, .string a0_2, .bool true]) (t := 67) ?hr ?_; (case hd => rfl); (case hg => rfl); (case hr => first | (go_simp; done) | (go_simp; rfl)); intro gb214 hg w13 hbox hb; have n0_ := Aside0.mk (below_step (by repeat (first | (with_reducible first | exact HB.out | apply below_alloc | apply pw_below_drewN | apply below_drew1) | exact HB.out)) hb); have n1_ := Aside0.mk (hbox); have n2_ := Aside0.mk ((by rw [hg]; exact (below_size (by repeat (first | (with_reducible first | exact HB.out | apply below_alloc | apply pw_below_drewN | apply below_drew1) | exact HB.out))) : w.heap.size ≤ gb214)); have n3_ := Aside0.mk ((by rw [hg]; exact (below_size (by repeat (first | (with_reducible first | exact HB.out | apply below_alloc | apply pw_below_drewN | apply below_drew1) | exact HB.out))) : w.heap.size ≤ gb214)); clear HB; have HB := n0_; have BK214 := n1_; have GW214 := n2_; have GE214 := n3_; clear n0_ n1_ n2_ n3_; clear hb hbox hg) | ((with_reducible refine gate_dst (N := 4) rfl ?_); refine box_event ?hg (N := 4) ?hd (cs := #[.int .i64 0, .string (⟨#[]⟩ : ByteArray), .string (⟨#[]⟩ : ByteArray), .bool false]) (t := 67) ?hr ?_; (case hd => rfl); (case hg => rfl); (case hr => first | (go_simp; done) | (go_simp; rfl)); intro gb215 hg w14 hbox hb; have n0_ := Aside0.mk (blk_below (g := gb214) (o := .cells #[.int .i64 a0_0, .string a0_1, .string a0_2, .bool true] 67 (0, 0)) (by (with_reducible repeat (first | refine blk_drewN ?_ _ | refine blk_drew ?_ | refine blk_alloc ?_ _)); exact BK214.out) hb); have n1_ := Aside0.mk (below_step (by repeat (first | (with_reducible first | exact HB.out | apply below_alloc | apply pw_below_drewN | apply below_drew1 | refine below_set ?_ GE214.out) | exact HB.out)) hb); have n2_ := Aside0.mk (hbox); have n3_ := Aside0.mk ((by rw [hg]; exact (below_size (by repeat (first | (with_reducible first | exact HB.out | apply below_alloc | apply pw_below_drewN | apply below_drew1 | refine below_set ?_ GE214.out) | exact HB.out))) : w.heap.size ≤ gb215)); have n4_ := Aside0.mk ((by rw [hg]; exact (below_size (by repeat (first | (with_reducible first | exact HB.out | apply below_alloc | apply pw_below_drewN | apply below_drew1 | refine below_set ?_ GE214.out) | exact HB.out))) : w.heap.size ≤ gb215)); have n5_ := Aside0.mk ((by rw [hg]; exact Nat.ne_of_lt (blk_lt (g := gb214) (o := .cells #[.int .i64 a0_0, .string a0_1, .string a0_2, .bool true] 67 (0, 0)) (by (with_reducible repeat (first | refine blk_drewN ?_ _ | refine blk_drew ?_ | refine blk_alloc ?_ _)); exact BK214.out)) : gb214 ≠ gb215)); have n6_ := Aside0.mk ((by rw [hg]; exact Nat.ne_of_gt (blk_lt (g := gb214) (o := .cells #[.int .i64 a0_0, .string a0_1, .string a0_2, .bool true] 67 (0, 0)) (by (with_reducible repeat (first | refine blk_drewN ?_ _ | refine blk_drew ?_ | refine blk_alloc ?_ _)); exact BK214.out)) : gb215 ≠ gb214)); clear BK214; clear HB; have BK214 := n0_; have HB := n1_; have BK215 := n2_; have GW215 := n3_; have GE215 := n4_; have NB214_215 := n5_; have NB215_214 := n6_; clear n0_ n1_ n2_ n3_ n4_ n5_ n6_; clear hb hbox hg; have hnb15 := NB214_215.out; have hnc15 := NB215_214.out; have hcz16_0 : w14.cell? ⟨gb214, 0, none⟩ = some (.int .i64 a0_0) := (blk_cell BK214.out 0).trans rfl; have hcz16_1 : w14.cell? ⟨gb214, 1, none⟩ = some (.string a0_1) := (blk_cell BK214.out 1).trans rfl; have hcz16_2 : w14.cell? ⟨gb214, 2, none⟩ = some (.string a0_2) := (blk_cell BK214.out 2).trans rfl; have hcz16_3 : w14.cell? ⟨gb214, 3, none⟩ = some (.bool true) := (blk_cell BK214.out 3).trans rfl; have hfz16_0 := blk_frozen BK214.out 0; have hfz16_1 := blk_frozen BK214.out 1; have hfz16_2 := blk_frozen BK214.out 2; have hfz16_3 := blk_frozen BK214.out 3) | ((with_reducible refine gate_callee (f := 50) rfl ?_); refine goesL_ (some 12) rfl rfl Tryd.func50 (by kernel_rfl) rfl #[.string a0_2, .int .i64 a1] rfl (by (try simp only [List.map_toArray, List.map_cons, List.map_nil]); first | done | rfl | (simp only [List.length_drop, List.length_take]; rfl)) ?_; (with_reducible refine (stanchionref01_TakeText.calls a0_2 a1 t216 t217 t218 _ A3.out).mono ?_); rintro e w17 ⟨rfl, hb⟩; refine ⟨_, rfl, ?_⟩; have n0_ := Aside0.mk (blk_below (g := gb214) (o := .cells #[.int .i64 a0_0, .string a0_1, .string a0_2, .bool true] 67 (0, 0)) (by (with_reducible repeat (first | refine blk_drewN ?_ _ | refine blk_drew ?_ | refine blk_alloc ?_ _)); exact BK214.out) hb); have n1_ := Aside0.mk (blk_below (g := gb215) (o := .cells #[.int .i64 0, .string (⟨#[]⟩ : ByteArray), .string (⟨#[]⟩ : ByteArray), .bool false] 67 (0, 0)) (by (with_reducible repeat (first | refine blk_drewN ?_ _ | refine blk_drew ?_ | refine blk_alloc ?_ _)); exact BK215.out) hb); have n2_ := Aside0.mk (below_step (by repeat (first | (with_reducible first | exact HB.out | apply below_alloc | apply pw_below_drewN | apply below_drew1 | refine below_set ?_ GE214.out | refine below_set ?_ GE215.out) | exact HB.out)) hb); clear BK214; clear BK215; clear HB; have BK214 := n0_; have BK215 := n1_; have HB := n2_; clear n0_ n1_ n2_; (try clear hb); (try clear hb2); (try clear hk); (try clear hi); have hcz18_0 : w17.cell? ⟨gb214, 0, none⟩ = some (.int .i64 a0_0) := (blk_cell BK214.out 0).trans rfl; have hcz18_1 : w17.cell? ⟨gb214, 1, none⟩ = some (.string a0_1) := (blk_cell BK214.out 1).trans rfl; have hcz18_2 : w17.cell? ⟨gb214, 2, none⟩ = some (.string a0_2) := (blk_cell BK214.out 2).trans rfl; have hcz18_3 : w17.cell? ⟨gb214, 3, none⟩ = some (.bool true) := (blk_cell BK214.out 3).trans rfl; have hfz18_0 := blk_frozen BK214.out 0; have hfz18_1 := blk_frozen BK214.out 1; have hfz18_2 := blk_frozen BK214.out 2; have hfz18_3 := blk_frozen BK214.out 3; have hcz19_0 : w17.cell? ⟨gb215, 0, none⟩ = some (.int .i64 0) := (blk_cell BK215.out 0).trans rfl; have hcz19_1 : w17.cell? ⟨gb215, 1, none⟩ = some (.string (⟨#[]⟩ : ByteArray)) := (blk_cell BK215.out 1).trans rfl; have hcz19_2 : w17.cell? ⟨gb215, 2, none⟩ = some (.string (⟨#[]⟩ : ByteArray)) := (blk_cell BK215.out 2).trans rfl; have hcz19_3 : w17.cell? ⟨gb215, 3, none⟩ = some (.bool false) := (blk_cell BK215.out 3).trans rfl; have hfz19_0 := blk_frozen BK215.out 0; have hfz19_1 := blk_frozen BK215.out 1; have hfz19_2 := blk_frozen BK215.out 2; have hfz19_3 := blk_frozen BK215.out 3))
      refine bodyPost_ret (results_cell_row rfl _ _ gb215 67 #[.int .i64 0, .string (⟨#[]⟩ : ByteArray), .string (⟨#[]⟩ : ByteArray), .bool false] (0, 0) _ rfl (by (with_reducible repeat (first | refine blk_drewN ?_ _ | refine blk_drew ?_ | refine blk_alloc ?_ _)); refine blk_put (cs := #[.int .i64 0, .string (⟨#[]⟩ : ByteArray), .string (⟨#[]⟩ : ByteArray), .bool false]) ?_ 3 _ rfl; (with_reducible repeat (first | refine blk_drewN ?_ _ | refine blk_drew ?_ | refine blk_alloc ?_ _)); refine blk_put (cs := #[.int .i64 0, .string (⟨#[]⟩ : ByteArray), .string (⟨#[]⟩ : ByteArray), .bool false]) ?_ 2 _ rfl; (with_reducible repeat (first | refine blk_drewN ?_ _ | refine blk_drew ?_ | refine blk_alloc ?_ _)); refine blk_put (cs := #[.int .i64 0, .string (⟨#[]⟩ : ByteArray), .string (⟨#[]⟩ : ByteArray), .bool false]) ?_ 1 _ rfl; (with_reducible repeat (first | refine blk_drewN ?_ _ | refine blk_drew ?_ | refine blk_alloc ?_ _)); refine blk_put (cs := #[.int .i64 0, .string (⟨#[]⟩ : ByteArray), .string (⟨#[]⟩ : ByteArray), .bool false]) ?_ 0 _ rfl; (with_reducible repeat (first | refine blk_drewN ?_ _ | refine blk_drew ?_ | refine blk_alloc ?_ _)); exact BK215.out) Tryd.underlying67 rfl (by kernel_rfl)) rfl ?_
      exact ⟨by first | rfl | (simp [errW_none, errW_some] <;> rfl) | (simp [*, errW_none, errW_some] <;> rfl), by repeat (first | (with_reducible first | exact HB.out | apply below_alloc | apply pw_below_drewN | apply below_drew1 | refine below_set ?_ GE214.out | refine below_set ?_ GE215.out) | exact HB.out)⟩
  · replace c4 := Bool.eq_false_iff.mpr c4
    subst c4
    have H1 : (some (0, (⟨#[]⟩ : ByteArray), (⟨#[]⟩ : ByteArray), false)) = some (r1, r2, r3, r4) := by rw [if_neg (show ¬ (false = true) by decide)] at H; exact H
    clear H
    have H := H1
    clear H1
    simp only [Option.some.injEq, Prod.mk.injEq] at H
    obtain ⟨rfl, rfl, rfl, rfl⟩ := H
    go_enter Tryd.func29, Tryd.ntmps29
    go_wp2_with (first | ((with_reducible refine gate_dst (N := 2) rfl ?_); refine box_event ?hg (N := 2) ?hd (cs := #[.int .i64 a0_0, .string a0_1, .string a0_2, .bool false]) (t := 67) ?hr ?_; (case hd => rfl); (case hg => rfl); (case hr => first | (go_simp; done) | (go_simp; rfl)); intro gb214 hg w20 hbox hb; have n0_ := Aside0.mk (below_step (by repeat (first | (with_reducible first | exact HB.out | apply below_alloc | apply pw_below_drewN | apply below_drew1) | exact HB.out)) hb); have n1_ := Aside0.mk (hbox); have n2_ := Aside0.mk ((by rw [hg]; exact (below_size (by repeat (first | (with_reducible first | exact HB.out | apply below_alloc | apply pw_below_drewN | apply below_drew1) | exact HB.out))) : w.heap.size ≤ gb214)); have n3_ := Aside0.mk ((by rw [hg]; exact (below_size (by repeat (first | (with_reducible first | exact HB.out | apply below_alloc | apply pw_below_drewN | apply below_drew1) | exact HB.out))) : w.heap.size ≤ gb214)); clear HB; have HB := n0_; have BK214 := n1_; have GW214 := n2_; have GE214 := n3_; clear n0_ n1_ n2_ n3_; clear hb hbox hg) | ((with_reducible refine gate_dst (N := 4) rfl ?_); refine box_event ?hg (N := 4) ?hd (cs := #[.int .i64 0, .string (⟨#[]⟩ : ByteArray), .string (⟨#[]⟩ : ByteArray), .bool false]) (t := 67) ?hr ?_; (case hd => rfl); (case hg => rfl); (case hr => first | (go_simp; done) | (go_simp; rfl)); intro gb215 hg w21 hbox hb; have n0_ := Aside0.mk (blk_below (g := gb214) (o := .cells #[.int .i64 a0_0, .string a0_1, .string a0_2, .bool false] 67 (0, 0)) (by (with_reducible repeat (first | refine blk_drewN ?_ _ | refine blk_drew ?_ | refine blk_alloc ?_ _)); exact BK214.out) hb); have n1_ := Aside0.mk (below_step (by repeat (first | (with_reducible first | exact HB.out | apply below_alloc | apply pw_below_drewN | apply below_drew1 | refine below_set ?_ GE214.out) | exact HB.out)) hb); have n2_ := Aside0.mk (hbox); have n3_ := Aside0.mk ((by rw [hg]; exact (below_size (by repeat (first | (with_reducible first | exact HB.out | apply below_alloc | apply pw_below_drewN | apply below_drew1 | refine below_set ?_ GE214.out) | exact HB.out))) : w.heap.size ≤ gb215)); have n4_ := Aside0.mk ((by rw [hg]; exact (below_size (by repeat (first | (with_reducible first | exact HB.out | apply below_alloc | apply pw_below_drewN | apply below_drew1 | refine below_set ?_ GE214.out) | exact HB.out))) : w.heap.size ≤ gb215)); have n5_ := Aside0.mk ((by rw [hg]; exact Nat.ne_of_lt (blk_lt (g := gb214) (o := .cells #[.int .i64 a0_0, .string a0_1, .string a0_2, .bool false] 67 (0, 0)) (by (with_reducible repeat (first | refine blk_drewN ?_ _ | refine blk_drew ?_ | refine blk_alloc ?_ _)); exact BK214.out)) : gb214 ≠ gb215)); have n6_ := Aside0.mk ((by rw [hg]; exact Nat.ne_of_gt (blk_lt (g := gb214) (o := .cells #[.int .i64 a0_0, .string a0_1, .string a0_2, .bool false] 67 (0, 0)) (by (with_reducible repeat (first | refine blk_drewN ?_ _ | refine blk_drew ?_ | refine blk_alloc ?_ _)); exact BK214.out)) : gb215 ≠ gb214)); clear BK214; clear HB; have BK214 := n0_; have HB := n1_; have BK215 := n2_; have GW215 := n3_; have GE215 := n4_; have NB214_215 := n5_; have NB215_214 := n6_; clear n0_ n1_ n2_ n3_ n4_ n5_ n6_; clear hb hbox hg; have hnb22 := NB214_215.out; have hnc22 := NB215_214.out; have hcz23_0 : w21.cell? ⟨gb214, 0, none⟩ = some (.int .i64 a0_0) := (blk_cell BK214.out 0).trans rfl; have hcz23_1 : w21.cell? ⟨gb214, 1, none⟩ = some (.string a0_1) := (blk_cell BK214.out 1).trans rfl; have hcz23_2 : w21.cell? ⟨gb214, 2, none⟩ = some (.string a0_2) := (blk_cell BK214.out 2).trans rfl; have hcz23_3 : w21.cell? ⟨gb214, 3, none⟩ = some (.bool false) := (blk_cell BK214.out 3).trans rfl; have hfz23_0 := blk_frozen BK214.out 0; have hfz23_1 := blk_frozen BK214.out 1; have hfz23_2 := blk_frozen BK214.out 2; have hfz23_3 := blk_frozen BK214.out 3) | ((with_reducible refine gate_callee (f := 50) rfl ?_); refine goesL_ (some 12) rfl rfl Tryd.func50 (by kernel_rfl) rfl #[.string a0_2, .int .i64 a1] rfl (by (try simp only [List.map_toArray, List.map_cons, List.map_nil]); first | done | rfl | (simp only [List.length_drop, List.length_take]; rfl)) ?_; (with_reducible refine (stanchionref01_TakeText.calls a0_2 a1 t216 t217 t218 _ A3.out).mono ?_); rintro e w24 ⟨rfl, hb⟩; refine ⟨_, rfl, ?_⟩; have n0_ := Aside0.mk (blk_below (g := gb214) (o := .cells #[.int .i64 a0_0, .string a0_1, .string a0_2, .bool false] 67 (0, 0)) (by (with_reducible repeat (first | refine blk_drewN ?_ _ | refine blk_drew ?_ | refine blk_alloc ?_ _)); exact BK214.out) hb); have n1_ := Aside0.mk (blk_below (g := gb215) (o := .cells #[.int .i64 0, .string (⟨#[]⟩ : ByteArray), .string (⟨#[]⟩ : ByteArray), .bool false] 67 (0, 0)) (by (with_reducible repeat (first | refine blk_drewN ?_ _ | refine blk_drew ?_ | refine blk_alloc ?_ _)); exact BK215.out) hb); have n2_ := Aside0.mk (below_step (by repeat (first | (with_reducible first | exact HB.out | apply below_alloc | apply pw_below_drewN | apply below_drew1 | refine below_set ?_ GE214.out | refine below_set ?_ GE215.out) | exact HB.out)) hb); clear BK214; clear BK215; clear HB; have BK214 := n0_; have BK215 := n1_; have HB := n2_; clear n0_ n1_ n2_; (try clear hb); (try clear hb2); (try clear hk); (try clear hi); have hcz25_0 : w24.cell? ⟨gb214, 0, none⟩ = some (.int .i64 a0_0) := (blk_cell BK214.out 0).trans rfl; have hcz25_1 : w24.cell? ⟨gb214, 1, none⟩ = some (.string a0_1) := (blk_cell BK214.out 1).trans rfl; have hcz25_2 : w24.cell? ⟨gb214, 2, none⟩ = some (.string a0_2) := (blk_cell BK214.out 2).trans rfl; have hcz25_3 : w24.cell? ⟨gb214, 3, none⟩ = some (.bool false) := (blk_cell BK214.out 3).trans rfl; have hfz25_0 := blk_frozen BK214.out 0; have hfz25_1 := blk_frozen BK214.out 1; have hfz25_2 := blk_frozen BK214.out 2; have hfz25_3 := blk_frozen BK214.out 3; have hcz26_0 : w24.cell? ⟨gb215, 0, none⟩ = some (.int .i64 0) := (blk_cell BK215.out 0).trans rfl; have hcz26_1 : w24.cell? ⟨gb215, 1, none⟩ = some (.string (⟨#[]⟩ : ByteArray)) := (blk_cell BK215.out 1).trans rfl; have hcz26_2 : w24.cell? ⟨gb215, 2, none⟩ = some (.string (⟨#[]⟩ : ByteArray)) := (blk_cell BK215.out 2).trans rfl; have hcz26_3 : w24.cell? ⟨gb215, 3, none⟩ = some (.bool false) := (blk_cell BK215.out 3).trans rfl; have hfz26_0 := blk_frozen BK215.out 0; have hfz26_1 := blk_frozen BK215.out 1; have hfz26_2 := blk_frozen BK215.out 2; have hfz26_3 := blk_frozen BK215.out 3))
    refine bodyPost_ret (results_cell_row rfl _ _ gb215 67 #[.int .i64 0, .string (⟨#[]⟩ : ByteArray), .string (⟨#[]⟩ : ByteArray), .bool false] (0, 0) _ rfl (by (with_reducible repeat (first | refine blk_drewN ?_ _ | refine blk_drew ?_ | refine blk_alloc ?_ _)); refine blk_put (cs := #[.int .i64 0, .string (⟨#[]⟩ : ByteArray), .string (⟨#[]⟩ : ByteArray), .bool false]) ?_ 3 _ rfl; (with_reducible repeat (first | refine blk_drewN ?_ _ | refine blk_drew ?_ | refine blk_alloc ?_ _)); refine blk_put (cs := #[.int .i64 0, .string (⟨#[]⟩ : ByteArray), .string (⟨#[]⟩ : ByteArray), .bool false]) ?_ 2 _ rfl; (with_reducible repeat (first | refine blk_drewN ?_ _ | refine blk_drew ?_ | refine blk_alloc ?_ _)); refine blk_put (cs := #[.int .i64 0, .string (⟨#[]⟩ : ByteArray), .string (⟨#[]⟩ : ByteArray), .bool false]) ?_ 1 _ rfl; (with_reducible repeat (first | refine blk_drewN ?_ _ | refine blk_drew ?_ | refine blk_alloc ?_ _)); refine blk_put (cs := #[.int .i64 0, .string (⟨#[]⟩ : ByteArray), .string (⟨#[]⟩ : ByteArray), .bool false]) ?_ 0 _ rfl; (with_reducible repeat (first | refine blk_drewN ?_ _ | refine blk_drew ?_ | refine blk_alloc ?_ _)); exact BK215.out) Tryd.underlying67 rfl (by kernel_rfl)) rfl ?_
    exact ⟨by first | rfl | (simp [errW_none, errW_some] <;> rfl) | (simp [*, errW_none, errW_some] <;> rfl), by repeat (first | (with_reducible first | exact HB.out | apply below_alloc | apply pw_below_drewN | apply below_drew1 | refine below_set ?_ GE214.out | refine below_set ?_ GE215.out) | exact HB.out)⟩
end Go.Proofs.YtlpcidjmaeicoaaDoor.QWi
namespace Go.Proofs.YtlpcidjmaeicoaaDoor.Reader
open Go Go.RowKit Go.Proofs.YtlpcidjmaeicoaaDoor.DecM Go.Proofs.YtlpcidjmaeicoaaDoor.Giv Go.Proofs.YtlpcidjmaeicoaaDoorW.PrintWords Go.Proofs.YtlpcidjmaeicoaaDoorW.PrintLast Go.Proofs.YtlpcidjmaeicoaaDoor.QWi
def tkR (s : ByteArray) (is : Bool) : Int × ByteArray × Bool := if is = true ∧ (takeNum s).2.2 = 0 ∧ (takeNum s).1 ≤ 1073741824 then ((takeNum s).1, (takeNum s).2.1, true) else (0, ⟨#[]⟩, false)
def rdR (s : ByteArray) (is : Bool) (most : Int) : ByteArray × ByteArray × Bool := if is = true ∧ (takeText s most).2.2 = 0 then ((takeText s most).1, (takeText s most).2.1, true) else (⟨#[]⟩, ⟨#[]⟩, false)
theorem tkR_size (s : ByteArray) (is : Bool) : (tkR s is).2.1.size ≤ s.size := by
  unfold tkR
  split
  · exact (take_first s).2.2
  · exact Nat.zero_le _
theorem rdR_size (s : ByteArray) (is : Bool) (most : Int) : (rdR s is most).2.1.size ≤ s.size := by
  unfold rdR
  split
  · exact (DecPure.takeText_size s most).2
  · exact Nat.zero_le _
theorem bsr {α β : Type} (a : α) (f : α → Option β) : (some a).bind f = f a := Eq.trans (Option.bind_some a f) (Eq.refl _)
structure Gives (v : Value) (w : World) (e : Ending) (w' : World) : Prop where
  e : e = .returned v
  b : Below w.heap.size w w'
theorem takes_is (n : Int) (t r : ByteArray) (b : Bool) (hs : r.size ≤ 9223372036854775807) (w : World) :
    Calls Tryd.prog 28 #[.agg #[.int .i64 n, .string t, .string r, .bool b]] w fun e w' => Gives (.agg #[.int .i64 (tkR r b).1, .string ⟨#[]⟩, .string (tkR r b).2.1, .bool (tkR r b).2.2]) w e w' := by
  refine (stanchionref16_takes.calls n t r b _ _ _ _ w ?_).mono fun e w' h => ⟨h.1, h.2⟩
  have hv := takeNum_nonneg r
  unfold stanchionref16_takes.f
  rw [show stanchionref01_TakeNum.f r = some (takeNum r) from DecPure.ref_some hs, bsr]
  unfold tkR
  cases b with
  | false => rw [if_neg (by decide), if_neg (by simp)]
  | true =>
    rw [if_pos rfl]
    by_cases h1 : (takeNum r).2.2 = 0
    · rw [if_pos h1]
      by_cases h2 : (takeNum r).1 > 1073741824
      · rw [if_pos h2, if_neg (by omega)]
      · rw [if_neg h2, if_pos ⟨rfl, h1, by omega⟩]
        have hw : wrap64 (takeNum r).1 = (takeNum r).1 := by
          unfold wrap64
          omega
        rw [hw]
    · rw [if_neg h1, if_neg (fun h => h1 h.2.1)]
theorem reads_is (n : Int) (t r : ByteArray) (b : Bool) (most : Int) (hs : r.size ≤ 9223372036854775807) (hm : most ≤ 9223372036854775807) (w : World) :
    Calls Tryd.prog 29 #[.agg #[.int .i64 n, .string t, .string r, .bool b], .int .i64 most] w fun e w' => Gives (.agg #[.int .i64 0, .string (rdR r b most).1, .string (rdR r b most).2.1, .bool (rdR r b most).2.2]) w e w' := by
  refine (stanchionref16_reads.calls n t r b most _ _ _ _ w ?_).mono fun e w' h => ⟨h.1, h.2⟩
  unfold stanchionref16_reads.f
  rw [show stanchionref01_TakeText.f r most = some (takeText r most) from DecPure.reft_some 0 r most hs hm, bsr]
  unfold rdR
  cases b with
  | false => rw [if_neg (by decide), if_neg (by simp)]
  | true =>
    rw [if_pos rfl]
    by_cases h1 : (takeText r most).2.2 = 0
    · rw [if_pos h1, if_pos ⟨rfl, h1⟩]
    · rw [if_neg h1, if_neg (fun h => h1 h.2)]
structure Bk (w0 : World) (ks : List (Nat × List Value)) (w : World) (v : Value) (l : List S74) : Prop where
  bel : Below w0.heap.size w0 w
  kc : ∀ x ∈ ks, CellsAt w x.1 x.2 ∧ 0 < x.2.length ∧ w0.heap.size ≤ x.1
  nd : (ks.map Prod.fst).Nodup
  row : Kd.R k74 74 w w0.heap.size (fun k => k ∉ ks.map Prod.fst) v l
theorem Bk.start (w : World) (z : Array Value) (t : TypeId) (hz : 0 < z.toList.length) : Bk w [(w.heap.size, z.toList)] (w.alloc (.cells z t)) (.slice none 0 0) [] :=
  ⟨(Below.refl w.heap.size w).alloc (Nat.le_refl _) _, fun x hx => by rw [List.mem_singleton.1 hx]; exact ⟨cells_new w z t, hz, Nat.le_refl _⟩, by simp, Kd.R_nil _ _ _ _ _⟩
section
variable {w0 w w' : World} {ks : List (Nat × List Value)} {v : Value} {l : List S74}
theorem Bk.at' (h : Bk w0 ks w v l) (i : Nat) {b : Nat} {c : List Value} (hi : ks[i]? = some (b, c)) : CellsAt w b c := (h.kc (b, c) (List.mem_of_getElem? hi)).1
theorem Bk.lt (h : Bk w0 ks w v l) {k : Nat} (hk : k ∈ ks.map Prod.fst) : k < w.heap.size := by
  obtain ⟨x, hx, rfl⟩ := List.mem_map.1 hk
  obtain ⟨h1, h2, _⟩ := h.kc x hx
  exact cell_lt (h1.c 0 h2)
theorem Bk.call (h : Bk w0 ks w v l) (hb : Below w.heap.size w w') : Bk w0 ks w' v l :=
  ⟨h.bel.trans (hb.mono h.bel.size), fun x hx => ⟨(h.kc x hx).1.below (h.kc x hx).2.1 hb, (h.kc x hx).2⟩, h.nd, Kd.R_below h.row hb⟩
theorem Bk.push (h : Bk w0 ks w v l) (c : Array Value) (t : TypeId) (hc : 0 < c.toList.length) : Bk w0 ((w.heap.size, c.toList) :: ks) (w.alloc (.cells c t)) v l := by
  have hb := (Below.refl w.heap.size w).alloc (Nat.le_refl _) (.cells c t)
  refine ⟨h.bel.trans (hb.mono h.bel.size), fun x hx => ?_, ?_, ?_⟩
  · rcases List.mem_cons.1 hx with e | e
    · subst e
      exact ⟨cells_new w c t, hc, h.bel.size⟩
    · exact ⟨(h.kc x e).1.below (h.kc x e).2.1 hb, (h.kc x e).2⟩
  · rw [List.map_cons, List.nodup_cons]
    exact ⟨fun hm => Nat.lt_irrefl _ (h.lt hm), h.nd⟩
  · refine Kd.R_below (Kd.R_mono (Kd.R_bound h.row) fun k hk => ?_) hb
    rw [List.map_cons, List.mem_cons]
    rintro (e | e)
    · have := hk.2.2.1
      omega
    · exact hk.1 e
theorem Bk.store {pre post : List (Nat × List Value)} {b : Nat} {c : List Value} (h : Bk w0 (pre ++ (b, c) :: post) w v l) (j : Nat) (hj : j < c.length) (u : Value) : Bk w0 (pre ++ (b, c.set j u) :: post) (w.setCell ⟨b, j, none⟩ u) v l := by
  have ho : Only b w (w.setCell ⟨b, j, none⟩ u) := (Only.refl b w).set j u
  have hm : (b, c) ∈ pre ++ (b, c) :: post := List.mem_append_right _ (List.mem_cons_self ..)
  have e : (pre ++ (b, c.set j u) :: post).map Prod.fst = (pre ++ (b, c) :: post).map Prod.fst := by simp
  have hn : ∀ x ∈ pre ++ post, x.1 ≠ b := by
    have hd := h.nd
    rw [List.map_append, List.map_cons, List.nodup_append] at hd
    intro x hx ex
    rcases List.mem_append.1 hx with hx | hx
    · exact hd.2.2 x.1 (List.mem_map_of_mem hx) b (List.mem_cons_self ..) ex
    · have hp : b ∉ post.map Prod.fst := (List.nodup_cons.1 hd.2.1).1
      exact hp (ex ▸ List.mem_map_of_mem (f := Prod.fst) hx)
  refine ⟨h.bel.setCell (h.kc _ hm).2.2 u, fun x hx => ?_, e ▸ h.nd, ?_⟩
  · rcases List.mem_append.1 hx with hx | hx
    · have hk := h.kc x (List.mem_append_left _ hx)
      exact ⟨hk.1.only hk.2.1 ho (hn x (List.mem_append_left _ hx)), hk.2⟩
    · rcases List.mem_cons.1 hx with hx | hx
      · subst hx
        have hk := h.kc _ hm
        exact ⟨hk.1.set j hj u, by rw [List.length_set]; exact hk.2.1, hk.2.2⟩
      · have hk := h.kc x (List.mem_append_right _ (List.mem_cons_of_mem _ hx))
        exact ⟨hk.1.only hk.2.1 ho (hn x (List.mem_append_right _ hx)), hk.2⟩
  · rw [e]
    exact Kd.R_step h.row (fun k hk hlt => ho.block k hlt (fun e => hk (by rw [e]; exact List.mem_map_of_mem (f := Prod.fst) hm)))
theorem Bk.drop {x : Nat × List Value} (h : Bk w0 (x :: ks) w v l) : Bk w0 ks w v l :=
  ⟨h.bel, fun y hy => h.kc y (List.mem_cons_of_mem _ hy), by have := h.nd; rw [List.map_cons, List.nodup_cons] at this; exact this.2, Kd.R_mono h.row (fun k hk hm => hk (by rw [List.map_cons]; exact List.mem_cons_of_mem _ hm))⟩
theorem Bk.grown {v1 : Value} {l1 : List S74} (h : Bk w0 ks w v l) (hR : Kd.R k74 74 w' w0.heap.size (fun k => k ∉ ks.map Prod.fst) v1 l1) (hB : Below w0.heap.size w0 w') (hg : w.grownBy w' v.ownBlock) : Bk w0 ks w' v1 l1 := by
  refine ⟨hB, fun x hx => ?_, h.nd, hR⟩
  have hk := h.kc x hx
  have hlt := cell_lt (hk.1.c 0 hk.2.1)
  have hne : some x.1 ≠ v.ownBlock := fun e => h.row.1 x.1 e.symm (List.mem_map_of_mem hx)
  exact ⟨⟨fun j hj => (World.cell?_of_block (w := w) (a := ⟨x.1, j, none⟩) (hg.block x.1 hlt hne)).trans (hk.1.c j hj), fun o => (World.frozen?_of_block (w := w) (a := ⟨x.1, o, none⟩) (hg.block x.1 hlt hne)).trans (hk.1.f o)⟩, hk.2⟩
end
end Go.Proofs.YtlpcidjmaeicoaaDoor.Reader
