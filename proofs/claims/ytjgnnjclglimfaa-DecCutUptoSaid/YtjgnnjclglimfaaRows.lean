/-
  No cell of these rows narrows 'for every input' (looked for: loops, veiled, ifaces, maps, wideKeys, modest, calm, conditions, laid).
  DERIVED. THE GIVEN ROWS OF THIS SEAT. 10 by the template 'for every input the law returns true; each argument reads behind the call as it read before'; 0 by the template 'total and deterministic' (their statements: YtjgnnjclglimfaaTotals.lean).
  GIVEN WITH THE SEED: the statements are not yours to turn. If you find one false, say at which input.
  Laid BY PROGRAM, IN A SANDBOX (cutbox-rows.mjs): the forced cells as the released guide's own fill.sh prints them over the translation 1ef89f3d0c8411c3… (all of the seat's roots in one cut). By AI agents, Wed Nov 11 2026. No macro, syntax, notation, axiom, sorry.
-/
import Derived.Test.YtjgnnjclglimfaaChecked
import GoSem.Claim
import GoSem.ClaimJoined
import GoSem.ClaimMapViews
import Derived.JoinedTies
import Derived.KernelRfl
namespace Go.Proofs.Ytjgnnjclglimfaa
/- THE CELL 'sum', in the pinned program and in every row, IS THE sha256 OF THE DUMP (.gsa) THAT YtjgnnjclglimfaaProg.lean LOADS. Nothing in Lean hashes anything: it is a label: what it is worth is what the hold of that sum in a sandbox is worth. -/
noncomputable def Try.pinned : Pinned := { name := "ytjgnnjclglimfaa", sum := "1ef89f3d0c8411c39e8776d9be736063170a54d386d0558420b4ccc8804f6816", checked := Try.checked }
namespace Rows
def none {H : Type} : Left H := { results := [], args := [] }

/-- 'stanchionlaw01.DecTakes': WHATEVER THE INPUT: true; the input reads as it did. -/
def decTakesSpec : ChangeSpec := { name := "decTakes", fn := fun _ => fun
  | [d] => { results := [.lit (.bool true)], args := [d] }
  | _ => none }
def decTakesRow : OpenClaim := { program := "ytjgnnjclglimfaa", sum := "1ef89f3d0c8411c39e8776d9be736063170a54d386d0558420b4ccc8804f6816", func := "stanchion/stanchionlaw01.DecTakes", spec := "decTakes", apart := false }
def DecTakesSaid : Prop := decTakesRow.holds Try.pinned (OpenSpec.ofChange decTakesSpec)

/-- ITS FALSE NEIGHBOUR: 'it returns false'. Refute it at one input. -/
def decTakesWrong : ChangeSpec := { name := "decTakes", fn := fun _ => fun
  | [d] => { results := [.lit (.bool false)], args := [d] }
  | _ => none }
def DecTakesWrongFalsely : Prop := decTakesRow.holds Try.pinned (OpenSpec.ofChange decTakesWrong)

/-- 'stanchionlaw01.DecBack': WHATEVER THE INPUT: true; the input reads as it did. -/
def decBackSpec : ChangeSpec := { name := "decBack", fn := fun _ => fun
  | [d1, d2, d3] => { results := [.lit (.bool true)], args := [d1, d2, d3] }
  | _ => none }
def decBackRow : OpenClaim := { program := "ytjgnnjclglimfaa", sum := "1ef89f3d0c8411c39e8776d9be736063170a54d386d0558420b4ccc8804f6816", func := "stanchion/stanchionlaw01.DecBack", spec := "decBack", apart := false }
def DecBackSaid : Prop := decBackRow.holds Try.pinned (OpenSpec.ofChange decBackSpec)

/-- ITS FALSE NEIGHBOUR: 'it returns false'. Refute it at one input. -/
def decBackWrong : ChangeSpec := { name := "decBack", fn := fun _ => fun
  | [d1, d2, d3] => { results := [.lit (.bool false)], args := [d1, d2, d3] }
  | _ => none }
def DecBackWrongFalsely : Prop := decBackRow.holds Try.pinned (OpenSpec.ofChange decBackWrong)

/-- 'stanchionlaw01.DecFigures': WHATEVER THE INPUT: true; the input reads as it did. -/
def decFiguresSpec : ChangeSpec := { name := "decFigures", fn := fun _ => fun
  | [d1, d2] => { results := [.lit (.bool true)], args := [d1, d2] }
  | _ => none }
def decFiguresRow : OpenClaim := { program := "ytjgnnjclglimfaa", sum := "1ef89f3d0c8411c39e8776d9be736063170a54d386d0558420b4ccc8804f6816", func := "stanchion/stanchionlaw01.DecFigures", spec := "decFigures", apart := false }
def DecFiguresSaid : Prop := decFiguresRow.holds Try.pinned (OpenSpec.ofChange decFiguresSpec)

/-- ITS FALSE NEIGHBOUR: 'it returns false'. Refute it at one input. -/
def decFiguresWrong : ChangeSpec := { name := "decFigures", fn := fun _ => fun
  | [d1, d2] => { results := [.lit (.bool false)], args := [d1, d2] }
  | _ => none }
def DecFiguresWrongFalsely : Prop := decFiguresRow.holds Try.pinned (OpenSpec.ofChange decFiguresWrong)

/-- 'stanchionlaw01.DecNums': WHATEVER THE INPUT: true; the input reads as it did. -/
def decNumsSpec : ChangeSpec := { name := "decNums", fn := fun _ => fun
  | [d1, d2] => { results := [.lit (.bool true)], args := [d1, d2] }
  | _ => none }
def decNumsRow : OpenClaim := { program := "ytjgnnjclglimfaa", sum := "1ef89f3d0c8411c39e8776d9be736063170a54d386d0558420b4ccc8804f6816", func := "stanchion/stanchionlaw01.DecNums", spec := "decNums", apart := false }
def DecNumsSaid : Prop := decNumsRow.holds Try.pinned (OpenSpec.ofChange decNumsSpec)

/-- ITS FALSE NEIGHBOUR: 'it returns false'. Refute it at one input. -/
def decNumsWrong : ChangeSpec := { name := "decNums", fn := fun _ => fun
  | [d1, d2] => { results := [.lit (.bool false)], args := [d1, d2] }
  | _ => none }
def DecNumsWrongFalsely : Prop := decNumsRow.holds Try.pinned (OpenSpec.ofChange decNumsWrong)

/-- 'stanchionlaw01.DecTexts': WHATEVER THE INPUT: true; the input reads as it did. -/
def decTextsSpec : ChangeSpec := { name := "decTexts", fn := fun _ => fun
  | [d1, d2] => { results := [.lit (.bool true)], args := [d1, d2] }
  | _ => none }
def decTextsRow : OpenClaim := { program := "ytjgnnjclglimfaa", sum := "1ef89f3d0c8411c39e8776d9be736063170a54d386d0558420b4ccc8804f6816", func := "stanchion/stanchionlaw01.DecTexts", spec := "decTexts", apart := false }
def DecTextsSaid : Prop := decTextsRow.holds Try.pinned (OpenSpec.ofChange decTextsSpec)

/-- ITS FALSE NEIGHBOUR: 'it returns false'. Refute it at one input. -/
def decTextsWrong : ChangeSpec := { name := "decTexts", fn := fun _ => fun
  | [d1, d2] => { results := [.lit (.bool false)], args := [d1, d2] }
  | _ => none }
def DecTextsWrongFalsely : Prop := decTextsRow.holds Try.pinned (OpenSpec.ofChange decTextsWrong)

/-- 'stanchionlaw01.DecTextBack': WHATEVER THE INPUT: true; the input reads as it did. -/
def decTextBackSpec : ChangeSpec := { name := "decTextBack", fn := fun _ => fun
  | [d1, d2, d3] => { results := [.lit (.bool true)], args := [d1, d2, d3] }
  | _ => none }
def decTextBackRow : OpenClaim := { program := "ytjgnnjclglimfaa", sum := "1ef89f3d0c8411c39e8776d9be736063170a54d386d0558420b4ccc8804f6816", func := "stanchion/stanchionlaw01.DecTextBack", spec := "decTextBack", apart := false }
def DecTextBackSaid : Prop := decTextBackRow.holds Try.pinned (OpenSpec.ofChange decTextBackSpec)

/-- ITS FALSE NEIGHBOUR: 'it returns false'. Refute it at one input. -/
def decTextBackWrong : ChangeSpec := { name := "decTextBack", fn := fun _ => fun
  | [d1, d2, d3] => { results := [.lit (.bool false)], args := [d1, d2, d3] }
  | _ => none }
def DecTextBackWrongFalsely : Prop := decTextBackRow.holds Try.pinned (OpenSpec.ofChange decTextBackWrong)

/-- 'stanchionlaw01.DecRows': WHATEVER THE INPUT: true; the input reads as it did. -/
def decRowsSpec : ChangeSpec := { name := "decRows", fn := fun _ => fun
  | [d] => { results := [.lit (.bool true)], args := [d] }
  | _ => none }
def decRowsRow : OpenClaim := { program := "ytjgnnjclglimfaa", sum := "1ef89f3d0c8411c39e8776d9be736063170a54d386d0558420b4ccc8804f6816", func := "stanchion/stanchionlaw01.DecRows", spec := "decRows", inPlace := ["internal/abi.NoEscape"], apart := false }
def DecRowsSaid : Prop := decRowsRow.holds Try.pinned (OpenSpec.ofChange decRowsSpec)

/-- ITS FALSE NEIGHBOUR: 'it returns false'. Refute it at one input. -/
def decRowsWrong : ChangeSpec := { name := "decRows", fn := fun _ => fun
  | [d] => { results := [.lit (.bool false)], args := [d] }
  | _ => none }
def DecRowsWrongFalsely : Prop := decRowsRow.holds Try.pinned (OpenSpec.ofChange decRowsWrong)

/-- 'stanchionlaw01.DecRowBack': WHATEVER THE INPUT: true; the input reads as it did. -/
def decRowBackSpec : ChangeSpec := { name := "decRowBack", fn := fun _ => fun
  | [d1, d2] => { results := [.lit (.bool true)], args := [d1, d2] }
  | _ => none }
def decRowBackRow : OpenClaim := { program := "ytjgnnjclglimfaa", sum := "1ef89f3d0c8411c39e8776d9be736063170a54d386d0558420b4ccc8804f6816", func := "stanchion/stanchionlaw01.DecRowBack", spec := "decRowBack", inPlace := ["internal/abi.NoEscape"], apart := false }
def DecRowBackSaid : Prop := decRowBackRow.holds Try.pinned (OpenSpec.ofChange decRowBackSpec)

/-- ITS FALSE NEIGHBOUR: 'it returns false'. Refute it at one input. -/
def decRowBackWrong : ChangeSpec := { name := "decRowBack", fn := fun _ => fun
  | [d1, d2] => { results := [.lit (.bool false)], args := [d1, d2] }
  | _ => none }
def DecRowBackWrongFalsely : Prop := decRowBackRow.holds Try.pinned (OpenSpec.ofChange decRowBackWrong)

/-- 'stanchionlaw01.DecCut': WHATEVER THE INPUT: true; the input reads as it did. -/
def decCutSpec : ChangeSpec := { name := "decCut", fn := fun _ => fun
  | [d1, d2, d3] => { results := [.lit (.bool true)], args := [d1, d2, d3] }
  | _ => none }
def decCutRow : OpenClaim := { program := "ytjgnnjclglimfaa", sum := "1ef89f3d0c8411c39e8776d9be736063170a54d386d0558420b4ccc8804f6816", func := "stanchion/stanchionlaw01.DecCut", spec := "decCut", inPlace := ["internal/abi.NoEscape"], apart := false }
def DecCutSaid : Prop := decCutRow.holds Try.pinned (OpenSpec.ofChange decCutSpec)

/-- ITS FALSE NEIGHBOUR: 'it returns false'. Refute it at one input. -/
def decCutWrong : ChangeSpec := { name := "decCut", fn := fun _ => fun
  | [d1, d2, d3] => { results := [.lit (.bool false)], args := [d1, d2, d3] }
  | _ => none }
def DecCutWrongFalsely : Prop := decCutRow.holds Try.pinned (OpenSpec.ofChange decCutWrong)

/-- 'stanchionlaw01.DecJoin': WHATEVER THE INPUT: true; the input reads as it did. -/
def decJoinSpec : ChangeSpec := { name := "decJoin", fn := fun _ => fun
  | [d1, d2] => { results := [.lit (.bool true)], args := [d1, d2] }
  | _ => none }
def decJoinRow : OpenClaim := { program := "ytjgnnjclglimfaa", sum := "1ef89f3d0c8411c39e8776d9be736063170a54d386d0558420b4ccc8804f6816", func := "stanchion/stanchionlaw01.DecJoin", spec := "decJoin", inPlace := ["internal/abi.NoEscape"], apart := false }
def DecJoinSaid : Prop := decJoinRow.holds Try.pinned (OpenSpec.ofChange decJoinSpec)

/-- ITS FALSE NEIGHBOUR: 'it returns false'. Refute it at one input. -/
def decJoinWrong : ChangeSpec := { name := "decJoin", fn := fun _ => fun
  | [d1, d2] => { results := [.lit (.bool false)], args := [d1, d2] }
  | _ => none }
def DecJoinWrongFalsely : Prop := decJoinRow.holds Try.pinned (OpenSpec.ofChange decJoinWrong)

/- THE SECOND FORM. 'bulk': how many values and letters a reading holds, each counted each time it is reached (what is shared counts as often as it is met; a slice's spare places count too). A statement '..UptoSaid' is the law's where the arguments, and the package variables that the reading takes, are together of bulk at most 1048576: NARROWER than '..Said'. Prove '..Said' where nothing that the law and all that it calls make is longer than what came in: it says more and counts as full. Else prove '..UptoSaid'. A law counts once. -/
mutual
def uptoBulk {H : Type} : DataW H → Nat
  | .lit (.string bytes) => bytes.length + 1
  | .lit _ => 1
  | .nil => 1
  | .ptr d => uptoBulk d + 1
  | .slice elems spare => uptoBulkAll elems + uptoBulkAll spare + 1
  | .agg parts => uptoBulkAll parts + 1
  | .iface _ d => uptoBulk d + 1
  | .map entries => uptoBulkEntries entries + 1
  | .held _ => 1
def uptoBulkAll {H : Type} : List (DataW H) → Nat
  | [] => 0
  | d :: r => uptoBulk d + uptoBulkAll r
def uptoBulkEntries {H : Type} : List (Lit × DataW H) → Nat
  | [] => 0
  | x :: r => uptoBulkEntry x + uptoBulkEntries r
def uptoBulkEntry {H : Type} : Lit × DataW H → Nat
  | (.string bytes, d) => bytes.length + uptoBulk d + 1
  | (_, d) => uptoBulk d + 1
 end
def uptoSmall : (H : Type) → List (DataW H) → Bool := fun _ ds => decide (uptoBulkAll ds ≤ 1048576)
def OpenSpec.upto (s : _root_.Go.ChangeSpec) : _root_.Go.OpenSpec := { _root_.Go.OpenSpec.ofChange s with cond := some uptoSmall }

/-- 'stanchionlaw01.DecTakes', WHERE WHAT IT READS IS OF BULK AT MOST 1048576: true; the input reads as it did. -/
def decTakesUptoRow : OpenClaim := { program := "ytjgnnjclglimfaa", sum := "1ef89f3d0c8411c39e8776d9be736063170a54d386d0558420b4ccc8804f6816", func := "stanchion/stanchionlaw01.DecTakes", spec := "decTakes", apart := false, narrowed := true }
def DecTakesUptoSaid : Prop := decTakesUptoRow.holds Try.pinned (OpenSpec.upto decTakesSpec)

/-- 'stanchionlaw01.DecBack', WHERE WHAT IT READS IS OF BULK AT MOST 1048576: true; the input reads as it did. -/
def decBackUptoRow : OpenClaim := { program := "ytjgnnjclglimfaa", sum := "1ef89f3d0c8411c39e8776d9be736063170a54d386d0558420b4ccc8804f6816", func := "stanchion/stanchionlaw01.DecBack", spec := "decBack", apart := false, narrowed := true }
def DecBackUptoSaid : Prop := decBackUptoRow.holds Try.pinned (OpenSpec.upto decBackSpec)

/-- 'stanchionlaw01.DecFigures', WHERE WHAT IT READS IS OF BULK AT MOST 1048576: true; the input reads as it did. -/
def decFiguresUptoRow : OpenClaim := { program := "ytjgnnjclglimfaa", sum := "1ef89f3d0c8411c39e8776d9be736063170a54d386d0558420b4ccc8804f6816", func := "stanchion/stanchionlaw01.DecFigures", spec := "decFigures", apart := false, narrowed := true }
def DecFiguresUptoSaid : Prop := decFiguresUptoRow.holds Try.pinned (OpenSpec.upto decFiguresSpec)

/-- 'stanchionlaw01.DecNums', WHERE WHAT IT READS IS OF BULK AT MOST 1048576: true; the input reads as it did. -/
def decNumsUptoRow : OpenClaim := { program := "ytjgnnjclglimfaa", sum := "1ef89f3d0c8411c39e8776d9be736063170a54d386d0558420b4ccc8804f6816", func := "stanchion/stanchionlaw01.DecNums", spec := "decNums", apart := false, narrowed := true }
def DecNumsUptoSaid : Prop := decNumsUptoRow.holds Try.pinned (OpenSpec.upto decNumsSpec)

/-- 'stanchionlaw01.DecTexts', WHERE WHAT IT READS IS OF BULK AT MOST 1048576: true; the input reads as it did. -/
def decTextsUptoRow : OpenClaim := { program := "ytjgnnjclglimfaa", sum := "1ef89f3d0c8411c39e8776d9be736063170a54d386d0558420b4ccc8804f6816", func := "stanchion/stanchionlaw01.DecTexts", spec := "decTexts", apart := false, narrowed := true }
def DecTextsUptoSaid : Prop := decTextsUptoRow.holds Try.pinned (OpenSpec.upto decTextsSpec)

/-- 'stanchionlaw01.DecTextBack', WHERE WHAT IT READS IS OF BULK AT MOST 1048576: true; the input reads as it did. -/
def decTextBackUptoRow : OpenClaim := { program := "ytjgnnjclglimfaa", sum := "1ef89f3d0c8411c39e8776d9be736063170a54d386d0558420b4ccc8804f6816", func := "stanchion/stanchionlaw01.DecTextBack", spec := "decTextBack", apart := false, narrowed := true }
def DecTextBackUptoSaid : Prop := decTextBackUptoRow.holds Try.pinned (OpenSpec.upto decTextBackSpec)

/-- 'stanchionlaw01.DecRows', WHERE WHAT IT READS IS OF BULK AT MOST 1048576: true; the input reads as it did. -/
def decRowsUptoRow : OpenClaim := { program := "ytjgnnjclglimfaa", sum := "1ef89f3d0c8411c39e8776d9be736063170a54d386d0558420b4ccc8804f6816", func := "stanchion/stanchionlaw01.DecRows", spec := "decRows", inPlace := ["internal/abi.NoEscape"], apart := false, narrowed := true }
def DecRowsUptoSaid : Prop := decRowsUptoRow.holds Try.pinned (OpenSpec.upto decRowsSpec)

/-- 'stanchionlaw01.DecRowBack', WHERE WHAT IT READS IS OF BULK AT MOST 1048576: true; the input reads as it did. -/
def decRowBackUptoRow : OpenClaim := { program := "ytjgnnjclglimfaa", sum := "1ef89f3d0c8411c39e8776d9be736063170a54d386d0558420b4ccc8804f6816", func := "stanchion/stanchionlaw01.DecRowBack", spec := "decRowBack", inPlace := ["internal/abi.NoEscape"], apart := false, narrowed := true }
def DecRowBackUptoSaid : Prop := decRowBackUptoRow.holds Try.pinned (OpenSpec.upto decRowBackSpec)

/-- 'stanchionlaw01.DecCut', WHERE WHAT IT READS IS OF BULK AT MOST 1048576: true; the input reads as it did. -/
def decCutUptoRow : OpenClaim := { program := "ytjgnnjclglimfaa", sum := "1ef89f3d0c8411c39e8776d9be736063170a54d386d0558420b4ccc8804f6816", func := "stanchion/stanchionlaw01.DecCut", spec := "decCut", inPlace := ["internal/abi.NoEscape"], apart := false, narrowed := true }
def DecCutUptoSaid : Prop := decCutUptoRow.holds Try.pinned (OpenSpec.upto decCutSpec)

/-- 'stanchionlaw01.DecJoin', WHERE WHAT IT READS IS OF BULK AT MOST 1048576: true; the input reads as it did. -/
def decJoinUptoRow : OpenClaim := { program := "ytjgnnjclglimfaa", sum := "1ef89f3d0c8411c39e8776d9be736063170a54d386d0558420b4ccc8804f6816", func := "stanchion/stanchionlaw01.DecJoin", spec := "decJoin", inPlace := ["internal/abi.NoEscape"], apart := false, narrowed := true }
def DecJoinUptoSaid : Prop := decJoinUptoRow.holds Try.pinned (OpenSpec.upto decJoinSpec)

end Rows
end Go.Proofs.Ytjgnnjclglimfaa
