/- FrameFeeds returns true for every input of bulk at most 1048576 that can be read: the row in its second form, out of the printed contract and the plain law. -/
import Derived.Test.YtcepfdilbbbemaaRows
import Derived.Test.YtcepfdilbbbemaaQFrx
import Derived.Test.YtcepfdilbbbemaaFramePlain
import Derived.Test.YtcepfdilbbbemaaOpenRow
import Derived.WalkKit
import Derived.ProofKit
import Derived.OpenShut
import Derived.ShutString
import Derived.ChangeOld
import Derived.Below
import Derived.Carry
import Derived.JoinedCond
namespace Go.Proofs.Ytcepfdilbbbemaa.frameFeeds
open Go.ChangeShapes Go.WideShapes Go.ChangeAt Go.RowKit
open Go.ChangeMaps (open_string shut_string)
set_option linter.unusedVariables false
theorem len2 {α : Type} {l : List α} (h : l.length = 2) : ∃ a0 a1, l = [a0, a1] :=
  match l, h with
  | [a0, a1], _ => ⟨a0, a1, rfl⟩
theorem own : ownKnob Try.prog.godebug = none := by kernel_rfl
theorem laidOut : laidOutB Try.prog = true := by kernel_rfl
theorem c4 : Try.prog.cellsOf 4 = 1 := by kernel_rfl
theorem c9 : Try.prog.cellsOf 9 = 1 := by kernel_rfl
theorem c25 : Try.prog.cellsOf 25 = 2 := by kernel_rfl
set_option maxRecDepth 100000 in
theorem contract (H : Type) (enc : TypeId × Value → H) (W : World) (base : Nat) (args : Array Value) (ds gs : List (DataW H)) (before : List MemPlace)
    (hval0 : ∀ (j : Nat) t v, Try.f6.params[j]? = some t → args[j]? = some v → Value.okWide Try.prog W .any base t v)
    (hW : DataW.Whole enc Try.prog Try.f6.params.toList Rows.frameFeedsSpec.vars false W args.toList ds gs before) (hk0 : Rows.uptoSmall H (ds ++ gs) = true) :
    Calls Try.prog 6 args W fun e W' => ∃ v, e = .returned v ∧ Rows.frameFeedsSpec.post enc Try.prog Try.f6 false true false false W args v W' := by
  have hval : ∀ (j : Nat) t v, Try.f6.params[j]? = some t → args[j]? = some v → Value.okWide Try.prog W .any base t v := hval0
  have hW' := hW
  obtain ⟨p, q, hA0, hV, rfl, hfz, hnd⟩ := hW
  have hA : DataW.TrodAll enc Try.prog W 0 (fun _ => true) true Try.f6.params.toList args.toList ds p := hA0
  rw [Try.params6] at hA hval
  obtain ⟨v0, vs0, d0, ds0, p0, q0, hargs, rfl, rfl, h0, r0⟩ := trodAll_cons hA
  obtain ⟨v1, vs1, d1, ds1, p1, q1, rfl, rfl, rfl, h1, r1⟩ := trodAll_cons r0
  obtain ⟨rfl, rfl, rfl⟩ := trodAll_nil r1
  obtain rfl : args = #[v0, v1] := by cases args; simp_all
  obtain ⟨rfl, rfl⟩ := trodVars_none hV
  have h0k := h0
  obtain ⟨cs0, rfl, hs0⟩ := okWide_struct Try.underlying25 (hval 0 25 v0 rfl rfl)
  obtain ⟨lx0⟩ := cs0
  rw [c25] at hs0
  obtain ⟨c0_0c, c0_1c, rfl⟩ := len2 hs0
  obtain ⟨n0, f0⟩ := h0
  have f0x : DataW.trod enc Try.prog W 0 (fun _ => true) true n0 25 [c0_0c, c0_1c] = some (d0, p0) := f0
  obtain ⟨xs0, n0, _, ex0, _, hl0, hg0⟩ := DataW.trod_struct Try.underlying25 f0x
  obtain ⟨y0_0, y0_1, rfl⟩ := len2 hl0
  have eb0 := OpenRow.agg_bulk ex0
  simp only [Rows.uptoBulkAll, List.map_cons, List.map_nil] at eb0
  have g0_0 : DataW.trod enc Try.prog W 0 (fun _ => true) true n0 9 [c0_0c] = some y0_0 := by
    have z : DataW.trod enc Try.prog W 0 (fun _ => true) true n0 9 (([c0_0c, c0_1c].drop 0).take (Try.prog.cellsOf 9)) = [y0_0, y0_1][0]? := hg0 0 _ rfl
    rw [c9] at z
    exact z
  have g0_1 : DataW.trod enc Try.prog W 0 (fun _ => true) true n0 4 [c0_1c] = some y0_1 := by
    have z : DataW.trod enc Try.prog W 0 (fun _ => true) true n0 4 (([c0_0c, c0_1c].drop 1).take (Try.prog.cellsOf 4)) = [y0_0, y0_1][1]? := hg0 1 _ rfl
    rw [c4] at z
    exact z
  obtain ⟨a0_0, e0_0, q0_0, w0_0⟩ := DataW.trod_string Try.underlying9 g0_0
  simp only [List.cons.injEq, and_true] at e0_0
  subst e0_0
  have b0_0 := OpenRow.str_bulk q0_0
  obtain ⟨a0_1, e0_1, q0_1⟩ := DataW.trod_bool Try.underlying4 g0_1
  simp only [List.cons.injEq, and_true] at e0_1
  subst e0_1
  have h1k := h1
  obtain ⟨a1, rfl, rfl, rfl, y1⟩ := open_string Try.underlying9 (hval 1 9 v1 rfl rfl) h1
  have b1 := OpenRow.str_bulk0 (H := H) a1
  have hb := OpenRow.bound hk0
  simp only [List.append_nil, Rows.uptoBulkAll] at hb
  clear hA0 hval0 hk0
  have hlt0 : ∀ x ∈ p0, x.block < W.heap.size := by
    obtain ⟨m0, hm0⟩ := h0k
    exact DataW.trod_lt m0 _ _ _ hm0
  obtain ⟨k, hk⟩ := FrP.Feeds a0_0 a0_1 a1 (by omega) (by omega)
  refine (QFr.stanchionlaw14_FrameFeeds.calls k a0_0 a0_1 a1 true W  hk rfl).mono fun e W' ⟨he, bel⟩ => ?_
  subst he
  exact ⟨_, rfl, _, _, _, [], _, [], hW', trodAll_mk1 (shut_bool Try.underlying4 _), (trodAll_cons_mk (Below.trod laidOut (by kernel_rfl) (of_decide_eq_true (by kernel_rfl)) h0k bel hlt0) (trodAll_cons_mk (shut_string Try.underlying9 y1) trodAll_mk0)), rfl, bel.frame _, fun h => by cases h⟩
set_option maxRecDepth 100000 in
theorem lifted (os : Os) (started : os.Started) (H : Type) (enc : TypeId × Value → H) (F : Stop.Interp) :
    ReturnsInHanded {} Try.checked os 6 .any ((Rows.OpenSpec.upto Rows.frameFeedsSpec).pre6 enc Try.prog Try.f6 Rows.frameFeedsUptoRow.domain false) (((Rows.OpenSpec.upto Rows.frameFeedsSpec).at F).post enc Try.prog Try.f6 false true false false) := by
  refine returnsInHanded_of_cond (C := Try.checked) (s := Rows.OpenSpec.upto Rows.frameFeedsSpec) (k := Rows.uptoSmall) rfl own started (by kernel_rfl) Try.func6
    (OpenSpec.witness (enc := enc) (C := Try.checked) (s := Rows.OpenSpec.upto Rows.frameFeedsSpec) (k := Rows.uptoSmall) rfl false ⟨#[], #[.agg #[.string ByteArray.empty, .bool false], .string ByteArray.empty], []⟩ 8 (by kernel_rfl) (by kernel_rfl) (by kernel_rfl)
      (x := ([.agg [.lit (.string []), .lit (.bool false)], .lit (.string [])], [], [])) (by kernel_rfl) rfl (by kernel_rfl)) ?_
  intro W base args ds gs before hval hW _ hk _
  exact contract H enc W base args ds gs before hval hW hk
theorem proved : Rows.FrameFeedsUptoSaid :=
  OpenClaim.holds_of_cond 6 Try.f6 rfl rfl rfl rfl rfl rfl rfl ⟨rfl, rfl, rfl, rfl, rfl⟩ rfl rfl rfl rfl rfl (by kernel_rfl) Try.func6 (by kernel_rfl)
    (of_decide_eq_true (by kernel_rfl)) (by unfold Func.isWrapper; first | (rw [if_pos (by decide +kernel)]; kernel_rfl) | (rw [if_neg (by decide +kernel)]; exact ⟨rfl, rfl⟩))
    (fun os started H enc _ F => lifted os started H enc F)
#print axioms proved
end Go.Proofs.Ytcepfdilbbbemaa.frameFeeds
namespace Go.Proofs.Ytcepfdilbbbemaa
/-- The row, under a short name, for the claim. -/
theorem frameFeeds_upto : Rows.FrameFeedsUptoSaid := frameFeeds.proved
end Go.Proofs.Ytcepfdilbbbemaa
