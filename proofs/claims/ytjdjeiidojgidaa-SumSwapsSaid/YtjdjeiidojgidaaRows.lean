/-
  No cell of these rows narrows 'for every input' (looked for: loops, veiled, ifaces, maps, wideKeys, modest, calm, conditions, laid).
  DERIVED. THE GIVEN ROWS OF THIS SEAT. 9 by the template 'for every input the law returns true; each argument reads behind the call as it read before'; 0 by the template 'total and deterministic' (their statements: YtjdjeiidojgidaaTotals.lean).
  GIVEN WITH THE SEED: the statements are not yours to turn. If you find one false, say at which input.
  Laid BY PROGRAM, IN A SANDBOX (cutbox-rows.mjs): the forced cells as the released guide's own fill.sh prints them over the translation 0fde032e72e332c3… (all of the seat's roots in one cut). By AI agents, Wed Nov 11 2026. No macro, syntax, notation, axiom, sorry.
-/
import Derived.Test.YtjdjeiidojgidaaChecked
import GoSem.Claim
import GoSem.ClaimJoined
import GoSem.ClaimMapViews
import Derived.JoinedTies
import Derived.KernelRfl
namespace Go.Proofs.Ytjdjeiidojgidaa
/- THE CELL 'sum', in the pinned program and in every row, IS THE sha256 OF THE DUMP (.gsa) THAT YtjdjeiidojgidaaProg.lean LOADS. Nothing in Lean hashes anything: it is a label: what it is worth is what the hold of that sum in a sandbox is worth. -/
noncomputable def Try.pinned : Pinned := { name := "ytjdjeiidojgidaa", sum := "0fde032e72e332c3c3cffc26dde4273a9fb8a2e90e5cc3b4882b17f2373c22d0", checked := Try.checked }
namespace Rows
def none {H : Type} : Left H := { results := [], args := [] }

/-- 'stanchionlaw02.SumOfs': WHATEVER THE INPUT: true; the input reads as it did. -/
def sumOfsSpec : ChangeSpec := { name := "sumOfs", fn := fun _ => fun
  | [d] => { results := [.lit (.bool true)], args := [d] }
  | _ => none }
def sumOfsRow : OpenClaim := { program := "ytjdjeiidojgidaa", sum := "0fde032e72e332c3c3cffc26dde4273a9fb8a2e90e5cc3b4882b17f2373c22d0", func := "stanchion/stanchionlaw02.SumOfs", spec := "sumOfs", unfollowed := true, recurses := true, apart := false }
def SumOfsSaid : Prop := sumOfsRow.holds Try.pinned (OpenSpec.ofChange sumOfsSpec)

/-- ITS FALSE NEIGHBOUR: 'it returns false'. Refute it at one input. -/
def sumOfsWrong : ChangeSpec := { name := "sumOfs", fn := fun _ => fun
  | [d] => { results := [.lit (.bool false)], args := [d] }
  | _ => none }
def SumOfsWrongFalsely : Prop := sumOfsRow.holds Try.pinned (OpenSpec.ofChange sumOfsWrong)

/-- 'stanchionlaw02.SumTells': WHATEVER THE INPUT: true; the input reads as it did. -/
def sumTellsSpec : ChangeSpec := { name := "sumTells", fn := fun _ => fun
  | [d1, d2, d3] => { results := [.lit (.bool true)], args := [d1, d2, d3] }
  | _ => none }
def sumTellsRow : OpenClaim := { program := "ytjdjeiidojgidaa", sum := "0fde032e72e332c3c3cffc26dde4273a9fb8a2e90e5cc3b4882b17f2373c22d0", func := "stanchion/stanchionlaw02.SumTells", spec := "sumTells", unfollowed := true, recurses := true, apart := false }
def SumTellsSaid : Prop := sumTellsRow.holds Try.pinned (OpenSpec.ofChange sumTellsSpec)

/-- ITS FALSE NEIGHBOUR: 'it returns false'. Refute it at one input. -/
def sumTellsWrong : ChangeSpec := { name := "sumTells", fn := fun _ => fun
  | [d1, d2, d3] => { results := [.lit (.bool false)], args := [d1, d2, d3] }
  | _ => none }
def SumTellsWrongFalsely : Prop := sumTellsRow.holds Try.pinned (OpenSpec.ofChange sumTellsWrong)

/-- 'stanchionlaw02.SumSwaps': WHATEVER THE INPUT: true; the input reads as it did. -/
def sumSwapsSpec : ChangeSpec := { name := "sumSwaps", fn := fun _ => fun
  | [d1, d2] => { results := [.lit (.bool true)], args := [d1, d2] }
  | _ => none }
def sumSwapsRow : OpenClaim := { program := "ytjdjeiidojgidaa", sum := "0fde032e72e332c3c3cffc26dde4273a9fb8a2e90e5cc3b4882b17f2373c22d0", func := "stanchion/stanchionlaw02.SumSwaps", spec := "sumSwaps", unfollowed := true, recurses := true, apart := false }
def SumSwapsSaid : Prop := sumSwapsRow.holds Try.pinned (OpenSpec.ofChange sumSwapsSpec)

/-- ITS FALSE NEIGHBOUR: 'it returns false'. Refute it at one input. -/
def sumSwapsWrong : ChangeSpec := { name := "sumSwaps", fn := fun _ => fun
  | [d1, d2] => { results := [.lit (.bool false)], args := [d1, d2] }
  | _ => none }
def SumSwapsWrongFalsely : Prop := sumSwapsRow.holds Try.pinned (OpenSpec.ofChange sumSwapsWrong)

/-- 'stanchionlaw02.SumHalves': WHATEVER THE INPUT: true; the input reads as it did. -/
def sumHalvesSpec : ChangeSpec := { name := "sumHalves", fn := fun _ => fun
  | [d] => { results := [.lit (.bool true)], args := [d] }
  | _ => none }
def sumHalvesRow : OpenClaim := { program := "ytjdjeiidojgidaa", sum := "0fde032e72e332c3c3cffc26dde4273a9fb8a2e90e5cc3b4882b17f2373c22d0", func := "stanchion/stanchionlaw02.SumHalves", spec := "sumHalves", unfollowed := true, recurses := true, apart := false }
def SumHalvesSaid : Prop := sumHalvesRow.holds Try.pinned (OpenSpec.ofChange sumHalvesSpec)

/-- ITS FALSE NEIGHBOUR: 'it returns false'. Refute it at one input. -/
def sumHalvesWrong : ChangeSpec := { name := "sumHalves", fn := fun _ => fun
  | [d] => { results := [.lit (.bool false)], args := [d] }
  | _ => none }
def SumHalvesWrongFalsely : Prop := sumHalvesRow.holds Try.pinned (OpenSpec.ofChange sumHalvesWrong)

/-- 'stanchionlaw02.SumJoined': WHATEVER THE INPUT: true; the input reads as it did. -/
def sumJoinedSpec : ChangeSpec := { name := "sumJoined", fn := fun _ => fun
  | [d1, d2, d3] => { results := [.lit (.bool true)], args := [d1, d2, d3] }
  | _ => none }
def sumJoinedRow : OpenClaim := { program := "ytjdjeiidojgidaa", sum := "0fde032e72e332c3c3cffc26dde4273a9fb8a2e90e5cc3b4882b17f2373c22d0", func := "stanchion/stanchionlaw02.SumJoined", spec := "sumJoined", unfollowed := true, recurses := true, apart := false }
def SumJoinedSaid : Prop := sumJoinedRow.holds Try.pinned (OpenSpec.ofChange sumJoinedSpec)

/-- ITS FALSE NEIGHBOUR: 'it returns false'. Refute it at one input. -/
def sumJoinedWrong : ChangeSpec := { name := "sumJoined", fn := fun _ => fun
  | [d1, d2, d3] => { results := [.lit (.bool false)], args := [d1, d2, d3] }
  | _ => none }
def SumJoinedWrongFalsely : Prop := sumJoinedRow.holds Try.pinned (OpenSpec.ofChange sumJoinedWrong)

/-- 'stanchionlaw02.SumTwo': WHATEVER THE INPUT: true; the input reads as it did. -/
def sumTwoSpec : ChangeSpec := { name := "sumTwo", fn := fun _ => fun
  | [d1, d2] => { results := [.lit (.bool true)], args := [d1, d2] }
  | _ => none }
def sumTwoRow : OpenClaim := { program := "ytjdjeiidojgidaa", sum := "0fde032e72e332c3c3cffc26dde4273a9fb8a2e90e5cc3b4882b17f2373c22d0", func := "stanchion/stanchionlaw02.SumTwo", spec := "sumTwo", unfollowed := true, recurses := true, apart := false }
def SumTwoSaid : Prop := sumTwoRow.holds Try.pinned (OpenSpec.ofChange sumTwoSpec)

/-- ITS FALSE NEIGHBOUR: 'it returns false'. Refute it at one input. -/
def sumTwoWrong : ChangeSpec := { name := "sumTwo", fn := fun _ => fun
  | [d1, d2] => { results := [.lit (.bool false)], args := [d1, d2] }
  | _ => none }
def SumTwoWrongFalsely : Prop := sumTwoRow.holds Try.pinned (OpenSpec.ofChange sumTwoWrong)

/-- 'stanchionlaw02.SumOpens': WHATEVER THE INPUT: true; the input reads as it did. -/
def sumOpensSpec : ChangeSpec := { name := "sumOpens", fn := fun _ => fun
  | [d1, d2] => { results := [.lit (.bool true)], args := [d1, d2] }
  | _ => none }
def sumOpensRow : OpenClaim := { program := "ytjdjeiidojgidaa", sum := "0fde032e72e332c3c3cffc26dde4273a9fb8a2e90e5cc3b4882b17f2373c22d0", func := "stanchion/stanchionlaw02.SumOpens", spec := "sumOpens", unfollowed := true, recurses := true, apart := false }
def SumOpensSaid : Prop := sumOpensRow.holds Try.pinned (OpenSpec.ofChange sumOpensSpec)

/-- ITS FALSE NEIGHBOUR: 'it returns false'. Refute it at one input. -/
def sumOpensWrong : ChangeSpec := { name := "sumOpens", fn := fun _ => fun
  | [d1, d2] => { results := [.lit (.bool false)], args := [d1, d2] }
  | _ => none }
def SumOpensWrongFalsely : Prop := sumOpensRow.holds Try.pinned (OpenSpec.ofChange sumOpensWrong)

/-- 'stanchionlaw02.SumBack': WHATEVER THE INPUT: true; the input reads as it did. -/
def sumBackSpec : ChangeSpec := { name := "sumBack", fn := fun _ => fun
  | [d1, d2, d3] => { results := [.lit (.bool true)], args := [d1, d2, d3] }
  | _ => none }
def sumBackRow : OpenClaim := { program := "ytjdjeiidojgidaa", sum := "0fde032e72e332c3c3cffc26dde4273a9fb8a2e90e5cc3b4882b17f2373c22d0", func := "stanchion/stanchionlaw02.SumBack", spec := "sumBack", unfollowed := true, recurses := true, apart := false }
def SumBackSaid : Prop := sumBackRow.holds Try.pinned (OpenSpec.ofChange sumBackSpec)

/-- ITS FALSE NEIGHBOUR: 'it returns false'. Refute it at one input. -/
def sumBackWrong : ChangeSpec := { name := "sumBack", fn := fun _ => fun
  | [d1, d2, d3] => { results := [.lit (.bool false)], args := [d1, d2, d3] }
  | _ => none }
def SumBackWrongFalsely : Prop := sumBackRow.holds Try.pinned (OpenSpec.ofChange sumBackWrong)

/-- 'stanchionlaw02.SumBound': WHATEVER THE INPUT: true; the input reads as it did. -/
def sumBoundSpec : ChangeSpec := { name := "sumBound", fn := fun _ => fun
  | [d1, d2] => { results := [.lit (.bool true)], args := [d1, d2] }
  | _ => none }
def sumBoundRow : OpenClaim := { program := "ytjdjeiidojgidaa", sum := "0fde032e72e332c3c3cffc26dde4273a9fb8a2e90e5cc3b4882b17f2373c22d0", func := "stanchion/stanchionlaw02.SumBound", spec := "sumBound", unfollowed := true, recurses := true, apart := false }
def SumBoundSaid : Prop := sumBoundRow.holds Try.pinned (OpenSpec.ofChange sumBoundSpec)

/-- ITS FALSE NEIGHBOUR: 'it returns false'. Refute it at one input. -/
def sumBoundWrong : ChangeSpec := { name := "sumBound", fn := fun _ => fun
  | [d1, d2] => { results := [.lit (.bool false)], args := [d1, d2] }
  | _ => none }
def SumBoundWrongFalsely : Prop := sumBoundRow.holds Try.pinned (OpenSpec.ofChange sumBoundWrong)

/- THE SECOND FORM. 'bulk': how many values and letters a reading holds, each counted each time it is reached (what is shared counts as often as it is met; a slice's spare places count too). A statement '..UptoSaid' is the law's where the arguments, and the package variables that the reading takes, are together of bulk at most 1048576: NARROWER than '..Said'. Prove '..Said' where nothing that the law and all that it calls make is longer than what came in: it says more and counts as full. Else prove '..UptoSaid'. A law counts once. -/
mutual
def uptoBulk {H : Type} : DataW H → Nat
  | .lit (.string bytes) => bytes.length + 1
  | .lit _ => 1
  | .nil => 1
  | .ptr d => uptoBulk d + 1
  | .slice elems spare => uptoBulkAll elems + uptoBulkAll spare + 1
  | .agg parts => uptoBulkAll parts + 1
  | .iface _ d => uptoBulk d + 1
  | .map entries => uptoBulkEntries entries + 1
  | .held _ => 1
def uptoBulkAll {H : Type} : List (DataW H) → Nat
  | [] => 0
  | d :: r => uptoBulk d + uptoBulkAll r
def uptoBulkEntries {H : Type} : List (Lit × DataW H) → Nat
  | [] => 0
  | x :: r => uptoBulkEntry x + uptoBulkEntries r
def uptoBulkEntry {H : Type} : Lit × DataW H → Nat
  | (.string bytes, d) => bytes.length + uptoBulk d + 1
  | (_, d) => uptoBulk d + 1
 end
def uptoSmall : (H : Type) → List (DataW H) → Bool := fun _ ds => decide (uptoBulkAll ds ≤ 1048576)
def OpenSpec.upto (s : _root_.Go.ChangeSpec) : _root_.Go.OpenSpec := { _root_.Go.OpenSpec.ofChange s with cond := some uptoSmall }

/-- 'stanchionlaw02.SumOfs', WHERE WHAT IT READS IS OF BULK AT MOST 1048576: true; the input reads as it did. -/
def sumOfsUptoRow : OpenClaim := { program := "ytjdjeiidojgidaa", sum := "0fde032e72e332c3c3cffc26dde4273a9fb8a2e90e5cc3b4882b17f2373c22d0", func := "stanchion/stanchionlaw02.SumOfs", spec := "sumOfs", unfollowed := true, recurses := true, apart := false, narrowed := true }
def SumOfsUptoSaid : Prop := sumOfsUptoRow.holds Try.pinned (OpenSpec.upto sumOfsSpec)

/-- 'stanchionlaw02.SumTells', WHERE WHAT IT READS IS OF BULK AT MOST 1048576: true; the input reads as it did. -/
def sumTellsUptoRow : OpenClaim := { program := "ytjdjeiidojgidaa", sum := "0fde032e72e332c3c3cffc26dde4273a9fb8a2e90e5cc3b4882b17f2373c22d0", func := "stanchion/stanchionlaw02.SumTells", spec := "sumTells", unfollowed := true, recurses := true, apart := false, narrowed := true }
def SumTellsUptoSaid : Prop := sumTellsUptoRow.holds Try.pinned (OpenSpec.upto sumTellsSpec)

/-- 'stanchionlaw02.SumSwaps', WHERE WHAT IT READS IS OF BULK AT MOST 1048576: true; the input reads as it did. -/
def sumSwapsUptoRow : OpenClaim := { program := "ytjdjeiidojgidaa", sum := "0fde032e72e332c3c3cffc26dde4273a9fb8a2e90e5cc3b4882b17f2373c22d0", func := "stanchion/stanchionlaw02.SumSwaps", spec := "sumSwaps", unfollowed := true, recurses := true, apart := false, narrowed := true }
def SumSwapsUptoSaid : Prop := sumSwapsUptoRow.holds Try.pinned (OpenSpec.upto sumSwapsSpec)

/-- 'stanchionlaw02.SumHalves', WHERE WHAT IT READS IS OF BULK AT MOST 1048576: true; the input reads as it did. -/
def sumHalvesUptoRow : OpenClaim := { program := "ytjdjeiidojgidaa", sum := "0fde032e72e332c3c3cffc26dde4273a9fb8a2e90e5cc3b4882b17f2373c22d0", func := "stanchion/stanchionlaw02.SumHalves", spec := "sumHalves", unfollowed := true, recurses := true, apart := false, narrowed := true }
def SumHalvesUptoSaid : Prop := sumHalvesUptoRow.holds Try.pinned (OpenSpec.upto sumHalvesSpec)

/-- 'stanchionlaw02.SumJoined', WHERE WHAT IT READS IS OF BULK AT MOST 1048576: true; the input reads as it did. -/
def sumJoinedUptoRow : OpenClaim := { program := "ytjdjeiidojgidaa", sum := "0fde032e72e332c3c3cffc26dde4273a9fb8a2e90e5cc3b4882b17f2373c22d0", func := "stanchion/stanchionlaw02.SumJoined", spec := "sumJoined", unfollowed := true, recurses := true, apart := false, narrowed := true }
def SumJoinedUptoSaid : Prop := sumJoinedUptoRow.holds Try.pinned (OpenSpec.upto sumJoinedSpec)

/-- 'stanchionlaw02.SumTwo', WHERE WHAT IT READS IS OF BULK AT MOST 1048576: true; the input reads as it did. -/
def sumTwoUptoRow : OpenClaim := { program := "ytjdjeiidojgidaa", sum := "0fde032e72e332c3c3cffc26dde4273a9fb8a2e90e5cc3b4882b17f2373c22d0", func := "stanchion/stanchionlaw02.SumTwo", spec := "sumTwo", unfollowed := true, recurses := true, apart := false, narrowed := true }
def SumTwoUptoSaid : Prop := sumTwoUptoRow.holds Try.pinned (OpenSpec.upto sumTwoSpec)

/-- 'stanchionlaw02.SumOpens', WHERE WHAT IT READS IS OF BULK AT MOST 1048576: true; the input reads as it did. -/
def sumOpensUptoRow : OpenClaim := { program := "ytjdjeiidojgidaa", sum := "0fde032e72e332c3c3cffc26dde4273a9fb8a2e90e5cc3b4882b17f2373c22d0", func := "stanchion/stanchionlaw02.SumOpens", spec := "sumOpens", unfollowed := true, recurses := true, apart := false, narrowed := true }
def SumOpensUptoSaid : Prop := sumOpensUptoRow.holds Try.pinned (OpenSpec.upto sumOpensSpec)

/-- 'stanchionlaw02.SumBack', WHERE WHAT IT READS IS OF BULK AT MOST 1048576: true; the input reads as it did. -/
def sumBackUptoRow : OpenClaim := { program := "ytjdjeiidojgidaa", sum := "0fde032e72e332c3c3cffc26dde4273a9fb8a2e90e5cc3b4882b17f2373c22d0", func := "stanchion/stanchionlaw02.SumBack", spec := "sumBack", unfollowed := true, recurses := true, apart := false, narrowed := true }
def SumBackUptoSaid : Prop := sumBackUptoRow.holds Try.pinned (OpenSpec.upto sumBackSpec)

/-- 'stanchionlaw02.SumBound', WHERE WHAT IT READS IS OF BULK AT MOST 1048576: true; the input reads as it did. -/
def sumBoundUptoRow : OpenClaim := { program := "ytjdjeiidojgidaa", sum := "0fde032e72e332c3c3cffc26dde4273a9fb8a2e90e5cc3b4882b17f2373c22d0", func := "stanchion/stanchionlaw02.SumBound", spec := "sumBound", unfollowed := true, recurses := true, apart := false, narrowed := true }
def SumBoundUptoSaid : Prop := sumBoundUptoRow.holds Try.pinned (OpenSpec.upto sumBoundSpec)

end Rows
end Go.Proofs.Ytjdjeiidojgidaa
