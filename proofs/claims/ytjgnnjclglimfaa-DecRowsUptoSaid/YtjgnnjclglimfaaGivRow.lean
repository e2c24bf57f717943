/- The contracts of the two Row functions, as the printed texts call them. -/
import Derived.Test.YtjgnnjclglimfaaRow
namespace Go.Proofs.Ytjgnnjclglimfaa.QDec
open Go Go.RowKit Go.Proofs.Ytjgnnjclglimfaa.DecM Go.Proofs.Ytjgnnjclglimfaa.Giv Go.Proofs.Ytjgnnjclglimfaa.Row Go.Proofs.YtjgnnjclglimfaaW.PrintWords Go.Proofs.YtjgnnjclglimfaaW.PrintLast Go.Proofs.YtjgnnjclglimfaaW.PrintMore

def dec_Row.f (a0 : List ByteArray) : Option (ByteArray) := if a0.length ≤ 4611686018427387904 ∧ (rowS a0).size ≤ 70368744177664 then some (rowS a0) else none
theorem dec_Row.calls (A0 : Option Addr) (c0 : Nat) (l0 : List ByteArray) (r : ByteArray) (w : World) (hr0 : Kd.C Kd.string w A0 l0.length l0) (hc0 : l0.length ≤ c0) (h : dec_Row.f l0 = some r) :
    Calls Try.prog 25 #[.slice A0 l0.length c0] w fun e w' => e = .returned (.string r) ∧ Below w.heap.size w w' := by
  unfold dec_Row.f at h
  by_cases hs : l0.length ≤ 4611686018427387904 ∧ (rowS l0).size ≤ 70368744177664
  · rw [if_pos hs] at h
    have e := Option.some.inj h
    have hv := row_calls A0 c0 l0 w hr0 hc0 hs.1 hs.2
    rw [e] at hv
    exact hv
  · rw [if_neg hs] at h
    cases h
def stanchionref01_Row.f (a0 : List ByteArray) : Option (ByteArray) := if a0.length ≤ 4611686018427387904 ∧ (rowS a0).size ≤ 70368744177664 then some (rowS a0) else none
theorem stanchionref01_Row.calls (A0 : Option Addr) (c0 : Nat) (l0 : List ByteArray) (r : ByteArray) (w : World) (hr0 : Kd.C Kd.string w A0 l0.length l0) (hc0 : l0.length ≤ c0) (h : stanchionref01_Row.f l0 = some r) :
    Calls Try.prog 26 #[.slice A0 l0.length c0] w fun e w' => e = .returned (.string r) ∧ Below w.heap.size w w' := by
  unfold stanchionref01_Row.f at h
  by_cases hs : l0.length ≤ 4611686018427387904 ∧ (rowS l0).size ≤ 70368744177664
  · rw [if_pos hs] at h
    have e := Option.some.inj h
    have hv := refRow_calls A0 c0 l0 w hr0 hc0 hs.1 hs.2
    rw [e] at hv
    exact hv
  · rw [if_neg hs] at h
    cases h
end Go.Proofs.Ytjgnnjclglimfaa.QDec
