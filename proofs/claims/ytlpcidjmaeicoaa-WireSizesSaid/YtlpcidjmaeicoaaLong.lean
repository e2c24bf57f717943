/- The closure of wire.mayReply, and the two functions of package slices that call it. -/
import Derived.Test.YtlpcidjmaeicoaaQWix4
import Derived.Lib.Hide
import Derived.Deep.QuietTactic
import Derived.BigQuiet
import Derived.Deep.LoopGhost
namespace Go.Proofs.Ytlpcidjmaeicoaa.QWi
open Go Go.RowKit Go.Proofs.YtlpcidjmaeicoaaW.PrintWords Go.Proofs.YtlpcidjmaeicoaaW.PrintLast Go.Proofs.YtlpcidjmaeicoaaW.PrintMore

/-- Is a pair too long? -/
def longP (x : S41) : Bool := decide (32 < x.f0.size) || decide (64 < x.f1.size)
theorem rd_pair (l : List S41) (i : Nat) (hi : i < l.length) : rd_T41 l (i : Int) = l[i] := by
  unfold rd_T41
  simp [List.getElem?_eq_getElem hi]
set_option maxHeartbeats 1000000 in
theorem long_yes (x : S41) (w : World) (h : longP x = true) : Calls Try.prog 17 #[.agg #[.string x.f0, .string x.f1]] w fun e w' => e = .returned (.bool true) ∧ Below w.heap.size w w' := by
  unfold longP at h
  obtain ⟨a, b⟩ := x
  simp only at h ⊢
  by_cases h1 : (32 : Int) < a.size
  · clear h
    go_enter Try.func17, Try.ntmps17
    go_wp2
    go_ret
    exact ⟨rfl, (Below.refl _ _).alloc (Nat.le_refl _) _⟩
  · have h2 : (64 : Int) < b.size := by simp at h; omega
    clear h
    go_enter Try.func17, Try.ntmps17
    go_wp2
    go_ret
    exact ⟨rfl, (Below.refl _ _).alloc (Nat.le_refl _) _⟩
set_option maxHeartbeats 1000000 in
theorem long_no (x : S41) (w : World) (h : longP x = false) : Calls Try.prog 17 #[.agg #[.string x.f0, .string x.f1]] w fun e w' => e = .returned (.bool false) ∧ Below w.heap.size w w' := by
  unfold longP at h
  obtain ⟨a, b⟩ := x
  simp only at h ⊢
  have h1 : ¬ (32 : Int) < a.size := by simp at h; omega
  have h2 : ¬ (64 : Int) < b.size := by simp at h; omega
  clear h
  go_enter Try.func17, Try.ntmps17
  go_wp2
  go_ret
  exact ⟨rfl, (Below.refl _ _).alloc (Nat.le_refl _) _⟩
/-- What slices.IndexFunc answers: a place, or -1. -/
def Found (l : List S41) (w : World) (e : Ending) (w' : World) : Prop := ∃ z : Int, e = .returned (.int .i64 z) ∧ -1 ≤ z ∧ z ≤ 4611686018427387904 ∧ decide (0 ≤ z) = l.any longP ∧ Below w.heap.size w w'
set_option maxHeartbeats 2000000 in
theorem index_calls (A0 : Option Addr) (c0 : Nat) (l0 : List S41) (w : World) (hr0 : Kd.C k41 w A0 l0.length l0) (hc0 : l0.length ≤ c0) (hl : l0.length ≤ 1048576) :
    Calls Try.prog 21 #[.slice A0 l0.length c0, .func (.func 17) #[] #[]] w (Found l0 w) := by
  have HF : Hid (∀ (z : Int) (w' : World), -1 ≤ z → z ≤ 4611686018427387904 → decide (0 ≤ z) = l0.any longP → Below w.heap.size w w' → Found l0 w (.returned (.int .i64 z)) w') := Lib.hid fun z w' h1 h2 h3 h4 => ⟨z, rfl, h1, h2, h3, h4⟩
  have HR := Lib.hid hr0
  have HC := Lib.hid hc0
  have HL := Lib.hid hl
  have b0' : Aside0 (Below w.heap.size w w) := ⟨Below.refl _ _⟩
  clear hr0 hc0 hl
  go_enter Try.func21, Try.ntmps21
  go_wp2
  go_loopg [8] l0.length (fun kq v8 w' => ∃ i : Nat, v8 = .int .i64 i ∧ Aside0 (kq + i = l0.length) ∧ Aside0 (∀ j (h : j < l0.length), j < i → longP l0[j] = false) ∧ Aside0 (Below w.heap.size w w'))
  case atStart => exact ⟨0, rfl, ⟨by omega⟩, ⟨fun j _ h => absurd h (Nat.not_lt_zero j)⟩, b0'⟩
  case round =>
    obtain ⟨i, rfl, HK, HN, HW⟩ := hrel
    clear b0'
    by_cases hi : i < l0.length
    · have c0b : decide ((i : Int) < (l0.length : Int)) = true := decide_eq_true (by omega)
      obtain ⟨ad, e1, hx0, hx1⟩ := at_T41 (Kd.C_below HR.out HW.out) (i : Int) (by omega) (by omega)
      cases e1
      rw [rd_pair l0 i hi, Int.toNat_natCast] at hx0 hx1
      have hp : ((0 : Int) ≤ (i : Int)) = True := eq_true (by omega)
      have hq : ((i : Int) < (l0.length : Int)) = True := eq_true (by omega)
      have hi40 : (i : Int) ≤ 1048576 := by have := HL.out; omega
      by_cases hlg : longP l0[i] = true
      · have HY := Lib.hid fun w => long_yes l0[i] w hlg
        have HZ := Lib.hid (show decide ((0 : Int) ≤ (i : Int)) = l0.any longP by rw [decide_eq_true (by omega)]; exact (List.any_eq_true.2 ⟨_, List.getElem_mem hi, hlg⟩).symm)
        clear hlg
        generalize l0[i] = x at hx0 hx1 HY
        go_wp2_with (go_at_call 17; refine (HY.out _).mono ?_)
        rintro e w3 ⟨rfl, b3⟩
        have HB3 := Lib.hid b3
        clear b3
        go_wp2
        go_ret
        exact HF.out _ _ (by omega) (by omega) HZ.out (HW.out.trans (HB3.out.mono HW.out.size))
      · have hlg := Bool.eq_false_iff.mpr hlg
        have HY := Lib.hid fun w => long_no l0[i] w hlg
        have HN' : Aside0 (∀ j (h : j < l0.length), j < i + 1 → longP l0[j] = false) := ⟨fun j h hj => by
          by_cases e : j = i
          · subst e
            exact hlg
          · exact HN.out j h (by omega)⟩
        clear hlg
        generalize l0[i] = x at hx0 hx1 HY
        go_wp2_with (go_at_call 17; refine (HY.out _).mono ?_)
        rintro e w3 ⟨rfl, b3⟩
        have b3' : Aside0 (Below w.heap.size w w3) := ⟨HW.out.trans (b3.mono HW.out.size)⟩
        clear b3
        go_wp2
        go_roundg (gk - 1)
        case measure => have := HK.out; omega
        case rel => exact ⟨i + 1, by go_num, ⟨by have := HK.out; omega⟩, HN', b3'⟩
    · have c0b : decide ((i : Int) < (l0.length : Int)) = false := decide_eq_false (by omega)
      have e : i = l0.length := by have := HK.out; omega
      have HZ := Lib.hid (show decide ((0 : Int) ≤ -1) = l0.any longP by
        have h : l0.any longP = false := by
          rw [List.any_eq_false]
          intro x hx
          obtain ⟨j, hj, rfl⟩ := List.getElem_of_mem hx
          rw [HN.out j hj (by omega)]
          decide
        rw [h]
        rfl)
      clear e
      go_wp2
      go_ret
      exact HF.out _ _ (by omega) (by omega) HZ.out HW.out
set_option maxHeartbeats 1000000 in
theorem contains_yes (A0 : Option Addr) (c0 : Nat) (l0 : List S41) (w : World) (hr0 : Kd.C k41 w A0 l0.length l0) (hc0 : l0.length ≤ c0) (hl : l0.length ≤ 1048576) (hm : l0.any longP = true) :
    Calls Try.prog 19 #[.slice A0 l0.length c0, .func (.func 17) #[] #[]] w fun e w' => e = .returned (.bool true) ∧ Below w.heap.size w w' := by
  have HI := Lib.hid (index_calls A0 c0 l0 w hr0 hc0 hl)
  have HM := Lib.hid hm
  clear hr0 hc0 hl hm
  go_enter Try.func19, Try.ntmps19
  go_wp2_with fail
  refine HI.out.mono ?_
  rintro e w1 ⟨z, rfl, h1, h2, h3, h4⟩
  have HB := Lib.hid h4
  have hz : (0 : Int) ≤ z := by
    rw [HM.out] at h3
    simpa using h3
  clear h3 h4
  go_wp2
  go_ret
  exact ⟨rfl, HB.out⟩
set_option maxHeartbeats 1000000 in
theorem contains_no (A0 : Option Addr) (c0 : Nat) (l0 : List S41) (w : World) (hr0 : Kd.C k41 w A0 l0.length l0) (hc0 : l0.length ≤ c0) (hl : l0.length ≤ 1048576) (hm : l0.any longP = false) :
    Calls Try.prog 19 #[.slice A0 l0.length c0, .func (.func 17) #[] #[]] w fun e w' => e = .returned (.bool false) ∧ Below w.heap.size w w' := by
  have HI := Lib.hid (index_calls A0 c0 l0 w hr0 hc0 hl)
  have HM := Lib.hid hm
  clear hr0 hc0 hl hm
  go_enter Try.func19, Try.ntmps19
  go_wp2_with fail
  refine HI.out.mono ?_
  rintro e w1 ⟨z, rfl, h1, h2, h3, h4⟩
  have HB := Lib.hid h4
  have hz : z < (0 : Int) := by
    rw [HM.out] at h3
    simpa using h3
  have hzb : decide ((0 : Int) ≤ z) = false := decide_eq_false (by omega)
  clear h3 h4
  go_wp2
  go_ret
  exact ⟨rfl, HB.out⟩
end Go.Proofs.Ytlpcidjmaeicoaa.QWi
