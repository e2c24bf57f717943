/- The contracts of wire.nums and wire.texts, as the printed texts call them. -/
import Derived.Test.YtlpcidjmaeicoaaNums
namespace Go.Proofs.Ytlpcidjmaeicoaa.QWi
open Go Go.RowKit Go.Proofs.Ytlpcidjmaeicoaa.Wire Go.Proofs.YtlpcidjmaeicoaaW.PrintWords Go.Proofs.YtlpcidjmaeicoaaW.PrintLast

def wire_nums.f (l : List Int) : Option (ByteArray) := if l.length ≤ 1048576 ∧ l.all (fun x => decide (0 ≤ x) && decide (x ≤ 4611686018427387904)) = true then some (numsS l) else none
theorem wire_nums.calls (A0 : Option Addr) (c0 : Nat) (l0 : List Int) (r : ByteArray) (w : World) (hr0 : Kd.C (Kd.int .i64) w A0 l0.length l0) (hc0 : l0.length ≤ c0) (h : wire_nums.f l0 = some r) :
    Calls Try.prog 8 #[.slice A0 l0.length c0] w fun e w' => e = .returned (.string r) ∧ Below w.heap.size w w' := by
  unfold wire_nums.f at h
  by_cases hs : l0.length ≤ 1048576 ∧ l0.all (fun x => decide (0 ≤ x) && decide (x ≤ 4611686018427387904)) = true
  · rw [if_pos hs] at h
    have hv := nums_calls A0 c0 l0 w hr0 hc0 hs.1 (fun x hx => by
      have := List.all_eq_true.1 hs.2 x hx
      simpa using this)
    rw [Option.some.inj h] at hv
    exact hv
  · rw [if_neg hs] at h
    cases h
def wire_texts.f (l : List ByteArray) : Option (ByteArray) := if l.length ≤ 1048576 ∧ (glue (textP l)).length ≤ 70368744177664 then some (textsW l) else none
theorem wire_texts.calls (A0 : Option Addr) (c0 : Nat) (l0 : List ByteArray) (r : ByteArray) (w : World) (hr0 : Kd.C Kd.string w A0 l0.length l0) (hc0 : l0.length ≤ c0) (h : wire_texts.f l0 = some r) :
    Calls Try.prog 9 #[.slice A0 l0.length c0] w fun e w' => e = .returned (.string r) ∧ Below w.heap.size w w' := by
  unfold wire_texts.f at h
  by_cases hs : l0.length ≤ 1048576 ∧ (glue (textP l0)).length ≤ 70368744177664
  · rw [if_pos hs] at h
    have hv := texts_calls A0 c0 l0 w hr0 hc0 hs.1 hs.2
    rw [Option.some.inj h] at hv
    exact hv
  · rw [if_neg hs] at h
    cases h
end Go.Proofs.Ytlpcidjmaeicoaa.QWi
