/- SpanCovers returns true for every input that can be read: the row, out of the printed contract and the plain law. -/
import Derived.Test.YtdobceajlplfhaaRows
import Derived.Test.YtdobceajlplfhaaQSpanx10
import Derived.Test.YtdobceajlplfhaaSpanCoversP
import Derived.WalkKit
import Derived.ProofKit
import Derived.OpenShut
import Derived.ShutString
import Derived.ChangeOld
import Derived.Below
import Derived.Carry
import Derived.SizedLaws
namespace Go.Proofs.Ytdobceajlplfhaa.spanCovers
open Go.ChangeShapes Go.WideShapes Go.ChangeAt Go.RowKit
open Go.ChangeMaps (open_string shut_string)
set_option linter.unusedVariables false
theorem len3 {α : Type} {l : List α} (h : l.length = 3) : ∃ a0 a1 a2, l = [a0, a1, a2] :=
  match l, h with
  | [a0, a1, a2], _ => ⟨a0, a1, a2, rfl⟩
theorem len4 {α : Type} {l : List α} (h : l.length = 4) : ∃ a0 a1 a2 a3, l = [a0, a1, a2, a3] :=
  match l, h with
  | [a0, a1, a2, a3], _ => ⟨a0, a1, a2, a3, rfl⟩
theorem len10 {α : Type} {l : List α} (h : l.length = 10) : ∃ a0 a1 a2 a3 a4 a5 a6 a7 a8 a9, l = [a0, a1, a2, a3, a4, a5, a6, a7, a8, a9] :=
  match l, h with
  | [a0, a1, a2, a3, a4, a5, a6, a7, a8, a9], _ => ⟨a0, a1, a2, a3, a4, a5, a6, a7, a8, a9, rfl⟩
theorem own : ownKnob Try.prog.godebug = none := by kernel_rfl
theorem laidOut : laidOutB Try.prog = true := by kernel_rfl
theorem c3 : Try.prog.cellsOf 3 = 1 := by kernel_rfl
theorem c9 : Try.prog.cellsOf 9 = 1 := by kernel_rfl
theorem c23 : Try.prog.cellsOf 23 = 3 := by kernel_rfl
theorem c34 : Try.prog.cellsOf 34 = 10 := by kernel_rfl
set_option maxRecDepth 100000 in
theorem lifted (os : Os) (started : os.Started) (H : Type) (enc : TypeId × Value → H) :
    ReturnsInHanded {} Try.checked os 8 .any (Rows.spanCoversSpec.pre6 enc Try.prog Try.f8 Rows.spanCoversRow.domain false) (Rows.spanCoversSpec.post enc Try.prog Try.f8 false true false false) := by
  refine returnsInHanded_of_change_sized (C := Try.checked) own started (by kernel_rfl) Try.func8
    (ChangeSpec.witness6 (enc := enc) (C := Try.checked) false ⟨#[], #[.agg #[.int .i64 0, .string ByteArray.empty, .string ByteArray.empty, .int .i64 0, .string ByteArray.empty, .string ByteArray.empty, .int .i64 0, .string ByteArray.empty, .string ByteArray.empty, .string ByteArray.empty]], []⟩ 8 (by kernel_rfl) (by kernel_rfl) (by kernel_rfl) (by kernel_rfl)) ?_
  intro W base args ds gs before hval0 hW hcnd hsz0 _
  have hsz : (DataW.weightsEach Try.prog (Try.f8.params.toList ++ Rows.spanCoversSpec.plain.varTypes Try.prog) (ds ++ gs)).all (· ≤ reachBytes) = true := hsz0
  have hval : ∀ (j : Nat) t v, Try.f8.params[j]? = some t → args[j]? = some v → Value.okWide Try.prog W .any base t v := hval0
  have hW' := hW
  obtain ⟨p, q, hA0, hV, rfl, hfz, hnd⟩ := hW
  have hA : DataW.TrodAll enc Try.prog W 0 (fun _ => true) true Try.f8.params.toList args.toList ds p := hA0
  rw [Try.params8] at hA hval hsz
  obtain ⟨v0, vs0, d0, ds0, p0, q0, hargs, rfl, rfl, h0, r0⟩ := trodAll_cons hA
  obtain ⟨rfl, rfl, rfl⟩ := trodAll_nil r0
  obtain rfl : args = #[v0] := by cases args; simp_all
  obtain ⟨rfl, rfl⟩ := trodVars_none hV
  have h0k := h0
  obtain ⟨cs0, rfl, hs0⟩ := okWide_struct Try.underlying34 (hval 0 34 v0 rfl rfl)
  obtain ⟨l0⟩ := cs0
  rw [c34] at hs0
  obtain ⟨c0_0, c0_1, c0_2, c0_3, c0_4, c0_5, c0_6, c0_7, c0_8, c0_9, rfl⟩ := len10 hs0
  obtain ⟨n0, f0⟩ := h0
  have f0x : DataW.trod enc Try.prog W 0 (fun _ => true) true n0 34 [c0_0, c0_1, c0_2, c0_3, c0_4, c0_5, c0_6, c0_7, c0_8, c0_9] = some (d0, p0) := f0
  obtain ⟨xs0, n0, _, _, _, hl0, hg0⟩ := DataW.trod_struct Try.underlying34 f0x
  obtain ⟨y0_0, y0_1, y0_2, y0_3, rfl⟩ := len4 hl0
  have g0_0 : DataW.trod enc Try.prog W 0 (fun _ => true) true n0 23 [c0_0, c0_1, c0_2] = some y0_0 := by
    have z : DataW.trod enc Try.prog W 0 (fun _ => true) true n0 23 (([c0_0, c0_1, c0_2, c0_3, c0_4, c0_5, c0_6, c0_7, c0_8, c0_9].drop 0).take (Try.prog.cellsOf 23)) = [y0_0, y0_1, y0_2, y0_3][0]? := hg0 0 _ rfl
    rw [c23] at z
    exact z
  have g0_1 : DataW.trod enc Try.prog W 0 (fun _ => true) true n0 23 [c0_3, c0_4, c0_5] = some y0_1 := by
    have z : DataW.trod enc Try.prog W 0 (fun _ => true) true n0 23 (([c0_0, c0_1, c0_2, c0_3, c0_4, c0_5, c0_6, c0_7, c0_8, c0_9].drop 3).take (Try.prog.cellsOf 23)) = [y0_0, y0_1, y0_2, y0_3][1]? := hg0 1 _ rfl
    rw [c23] at z
    exact z
  have g0_2 : DataW.trod enc Try.prog W 0 (fun _ => true) true n0 23 [c0_6, c0_7, c0_8] = some y0_2 := by
    have z : DataW.trod enc Try.prog W 0 (fun _ => true) true n0 23 (([c0_0, c0_1, c0_2, c0_3, c0_4, c0_5, c0_6, c0_7, c0_8, c0_9].drop 6).take (Try.prog.cellsOf 23)) = [y0_0, y0_1, y0_2, y0_3][2]? := hg0 2 _ rfl
    rw [c23] at z
    exact z
  have g0_3 : DataW.trod enc Try.prog W 0 (fun _ => true) true n0 9 [c0_9] = some y0_3 := by
    have z : DataW.trod enc Try.prog W 0 (fun _ => true) true n0 9 (([c0_0, c0_1, c0_2, c0_3, c0_4, c0_5, c0_6, c0_7, c0_8, c0_9].drop 9).take (Try.prog.cellsOf 9)) = [y0_0, y0_1, y0_2, y0_3][3]? := hg0 3 _ rfl
    rw [c9] at z
    exact z
  obtain ⟨xs0_0, n0_0, _, _, _, hl0_0, hg0_0⟩ := DataW.trod_struct Try.underlying23 g0_0
  obtain ⟨y0_0_0, y0_0_1, y0_0_2, rfl⟩ := len3 hl0_0
  have g0_0_0 : DataW.trod enc Try.prog W 0 (fun _ => true) true n0_0 3 [c0_0] = some y0_0_0 := by
    have z : DataW.trod enc Try.prog W 0 (fun _ => true) true n0_0 3 (([c0_0, c0_1, c0_2].drop 0).take (Try.prog.cellsOf 3)) = [y0_0_0, y0_0_1, y0_0_2][0]? := hg0_0 0 _ rfl
    rw [c3] at z
    exact z
  have g0_0_1 : DataW.trod enc Try.prog W 0 (fun _ => true) true n0_0 9 [c0_1] = some y0_0_1 := by
    have z : DataW.trod enc Try.prog W 0 (fun _ => true) true n0_0 9 (([c0_0, c0_1, c0_2].drop 1).take (Try.prog.cellsOf 9)) = [y0_0_0, y0_0_1, y0_0_2][1]? := hg0_0 1 _ rfl
    rw [c9] at z
    exact z
  have g0_0_2 : DataW.trod enc Try.prog W 0 (fun _ => true) true n0_0 9 [c0_2] = some y0_0_2 := by
    have z : DataW.trod enc Try.prog W 0 (fun _ => true) true n0_0 9 (([c0_0, c0_1, c0_2].drop 2).take (Try.prog.cellsOf 9)) = [y0_0_0, y0_0_1, y0_0_2][2]? := hg0_0 2 _ rfl
    rw [c9] at z
    exact z
  obtain ⟨a0_0_0, e0_0_0, _, w0_0_0⟩ := DataW.trod_int Try.underlying3 g0_0_0
  simp only [List.cons.injEq, and_true] at e0_0_0
  subst e0_0_0
  obtain ⟨a0_0_1, e0_0_1, _, w0_0_1⟩ := DataW.trod_string Try.underlying9 g0_0_1
  simp only [List.cons.injEq, and_true] at e0_0_1
  subst e0_0_1
  obtain ⟨a0_0_2, e0_0_2, _, w0_0_2⟩ := DataW.trod_string Try.underlying9 g0_0_2
  simp only [List.cons.injEq, and_true] at e0_0_2
  subst e0_0_2
  obtain ⟨xs0_1, n0_1, _, _, _, hl0_1, hg0_1⟩ := DataW.trod_struct Try.underlying23 g0_1
  obtain ⟨y0_1_0, y0_1_1, y0_1_2, rfl⟩ := len3 hl0_1
  have g0_1_0 : DataW.trod enc Try.prog W 0 (fun _ => true) true n0_1 3 [c0_3] = some y0_1_0 := by
    have z : DataW.trod enc Try.prog W 0 (fun _ => true) true n0_1 3 (([c0_3, c0_4, c0_5].drop 0).take (Try.prog.cellsOf 3)) = [y0_1_0, y0_1_1, y0_1_2][0]? := hg0_1 0 _ rfl
    rw [c3] at z
    exact z
  have g0_1_1 : DataW.trod enc Try.prog W 0 (fun _ => true) true n0_1 9 [c0_4] = some y0_1_1 := by
    have z : DataW.trod enc Try.prog W 0 (fun _ => true) true n0_1 9 (([c0_3, c0_4, c0_5].drop 1).take (Try.prog.cellsOf 9)) = [y0_1_0, y0_1_1, y0_1_2][1]? := hg0_1 1 _ rfl
    rw [c9] at z
    exact z
  have g0_1_2 : DataW.trod enc Try.prog W 0 (fun _ => true) true n0_1 9 [c0_5] = some y0_1_2 := by
    have z : DataW.trod enc Try.prog W 0 (fun _ => true) true n0_1 9 (([c0_3, c0_4, c0_5].drop 2).take (Try.prog.cellsOf 9)) = [y0_1_0, y0_1_1, y0_1_2][2]? := hg0_1 2 _ rfl
    rw [c9] at z
    exact z
  obtain ⟨a0_1_0, e0_1_0, _, w0_1_0⟩ := DataW.trod_int Try.underlying3 g0_1_0
  simp only [List.cons.injEq, and_true] at e0_1_0
  subst e0_1_0
  obtain ⟨a0_1_1, e0_1_1, _, w0_1_1⟩ := DataW.trod_string Try.underlying9 g0_1_1
  simp only [List.cons.injEq, and_true] at e0_1_1
  subst e0_1_1
  obtain ⟨a0_1_2, e0_1_2, _, w0_1_2⟩ := DataW.trod_string Try.underlying9 g0_1_2
  simp only [List.cons.injEq, and_true] at e0_1_2
  subst e0_1_2
  obtain ⟨xs0_2, n0_2, _, _, _, hl0_2, hg0_2⟩ := DataW.trod_struct Try.underlying23 g0_2
  obtain ⟨y0_2_0, y0_2_1, y0_2_2, rfl⟩ := len3 hl0_2
  have g0_2_0 : DataW.trod enc Try.prog W 0 (fun _ => true) true n0_2 3 [c0_6] = some y0_2_0 := by
    have z : DataW.trod enc Try.prog W 0 (fun _ => true) true n0_2 3 (([c0_6, c0_7, c0_8].drop 0).take (Try.prog.cellsOf 3)) = [y0_2_0, y0_2_1, y0_2_2][0]? := hg0_2 0 _ rfl
    rw [c3] at z
    exact z
  have g0_2_1 : DataW.trod enc Try.prog W 0 (fun _ => true) true n0_2 9 [c0_7] = some y0_2_1 := by
    have z : DataW.trod enc Try.prog W 0 (fun _ => true) true n0_2 9 (([c0_6, c0_7, c0_8].drop 1).take (Try.prog.cellsOf 9)) = [y0_2_0, y0_2_1, y0_2_2][1]? := hg0_2 1 _ rfl
    rw [c9] at z
    exact z
  have g0_2_2 : DataW.trod enc Try.prog W 0 (fun _ => true) true n0_2 9 [c0_8] = some y0_2_2 := by
    have z : DataW.trod enc Try.prog W 0 (fun _ => true) true n0_2 9 (([c0_6, c0_7, c0_8].drop 2).take (Try.prog.cellsOf 9)) = [y0_2_0, y0_2_1, y0_2_2][2]? := hg0_2 2 _ rfl
    rw [c9] at z
    exact z
  obtain ⟨a0_2_0, e0_2_0, _, w0_2_0⟩ := DataW.trod_int Try.underlying3 g0_2_0
  simp only [List.cons.injEq, and_true] at e0_2_0
  subst e0_2_0
  obtain ⟨a0_2_1, e0_2_1, _, w0_2_1⟩ := DataW.trod_string Try.underlying9 g0_2_1
  simp only [List.cons.injEq, and_true] at e0_2_1
  subst e0_2_1
  obtain ⟨a0_2_2, e0_2_2, _, w0_2_2⟩ := DataW.trod_string Try.underlying9 g0_2_2
  simp only [List.cons.injEq, and_true] at e0_2_2
  subst e0_2_2
  obtain ⟨a0_3, e0_3, _, w0_3⟩ := DataW.trod_string Try.underlying9 g0_3
  simp only [List.cons.injEq, and_true] at e0_3
  subst e0_3
  clear hA0 hval0 hsz0 hsz
  have hlt0 : ∀ x ∈ p0, x.block < W.heap.size := fun x hx => by simpa using hW'.lt x (by simp [hx])
  obtain ⟨k, hk⟩ := SpanPure.Covers a0_0_0 a0_0_1 a0_0_2 a0_1_0 a0_1_1 a0_1_2 a0_2_0 a0_2_1 a0_2_2 a0_3 
  refine (QSpan.stanchionlaw09_SpanCovers.calls k a0_0_0 a0_0_1 a0_0_2 a0_1_0 a0_1_1 a0_1_2 a0_2_0 a0_2_1 a0_2_2 a0_3 true W hk).mono fun e W' ⟨he, bel⟩ => ?_
  subst he
  exact ⟨_, rfl, _, _, _, [], _, [], hW', trodAll_mk1 (shut_bool Try.underlying4 _), (trodAll_cons_mk (Below.trod laidOut (by kernel_rfl) (of_decide_eq_true (by kernel_rfl)) h0k bel hlt0) trodAll_mk0), rfl, bel.frame _, fun h => by cases h⟩
theorem over : Rows.spanCoversRow.holds Try.pinned (OpenSpec.ofChange Rows.spanCoversSpec) :=
  OpenClaim.holds_of_wide 8 Try.f8 rfl rfl rfl rfl rfl rfl rfl ⟨rfl, rfl, rfl, rfl, rfl⟩ rfl rfl rfl rfl rfl (by kernel_rfl) Try.func8 (by kernel_rfl)
    (of_decide_eq_true (by kernel_rfl)) (by unfold Func.isWrapper; first | (rw [if_pos (by decide +kernel)]; kernel_rfl) | (rw [if_neg (by decide +kernel)]; exact ⟨rfl, rfl⟩))
    (fun os started H enc _ => lifted os started H enc)
theorem proved : Rows.SpanCoversSaid := over
#print axioms proved
end Go.Proofs.Ytdobceajlplfhaa.spanCovers
namespace Go.Proofs.Ytdobceajlplfhaa
/-- The row, under a short name, for the claim. -/
theorem spanCovers_holds : Rows.SpanCoversSaid := spanCovers.proved
end Go.Proofs.Ytdobceajlplfhaa
