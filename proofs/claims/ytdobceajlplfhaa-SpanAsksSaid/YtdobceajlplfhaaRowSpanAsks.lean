/- SpanAsks returns true for every input that can be read: the row, out of the printed contract and the plain law. -/
import Derived.Test.YtdobceajlplfhaaRows
import Derived.Test.YtdobceajlplfhaaQSpanx6
import Derived.Test.YtdobceajlplfhaaSpanAsksP
import Derived.WalkKit
import Derived.ProofKit
import Derived.OpenShut
import Derived.ShutString
import Derived.ChangeOld
import Derived.Below
import Derived.Carry
import Derived.SizedLaws
namespace Go.Proofs.Ytdobceajlplfhaa.spanAsks
open Go.ChangeShapes Go.WideShapes Go.ChangeAt Go.RowKit
open Go.ChangeMaps (open_string shut_string)
set_option linter.unusedVariables false
theorem len3 {α : Type} {l : List α} (h : l.length = 3) : ∃ a0 a1 a2, l = [a0, a1, a2] :=
  match l, h with
  | [a0, a1, a2], _ => ⟨a0, a1, a2, rfl⟩
theorem own : ownKnob Try.prog.godebug = none := by kernel_rfl
theorem laidOut : laidOutB Try.prog = true := by kernel_rfl
theorem c3 : Try.prog.cellsOf 3 = 1 := by kernel_rfl
theorem c9 : Try.prog.cellsOf 9 = 1 := by kernel_rfl
theorem c23 : Try.prog.cellsOf 23 = 3 := by kernel_rfl
set_option maxRecDepth 100000 in
theorem lifted (os : Os) (started : os.Started) (H : Type) (enc : TypeId × Value → H) :
    ReturnsInHanded {} Try.checked os 5 .any (Rows.spanAsksSpec.pre6 enc Try.prog Try.f5 Rows.spanAsksRow.domain false) (Rows.spanAsksSpec.post enc Try.prog Try.f5 false true false false) := by
  refine returnsInHanded_of_change_sized (C := Try.checked) own started (by kernel_rfl) Try.func5
    (ChangeSpec.witness6 (enc := enc) (C := Try.checked) false ⟨#[], #[.agg #[.int .i64 0, .string ByteArray.empty, .string ByteArray.empty], .int .i64 0, .string ByteArray.empty], []⟩ 8 (by kernel_rfl) (by kernel_rfl) (by kernel_rfl) (by kernel_rfl)) ?_
  intro W base args ds gs before hval0 hW hcnd hsz0 _
  have hsz : (DataW.weightsEach Try.prog (Try.f5.params.toList ++ Rows.spanAsksSpec.plain.varTypes Try.prog) (ds ++ gs)).all (· ≤ reachBytes) = true := hsz0
  have hval : ∀ (j : Nat) t v, Try.f5.params[j]? = some t → args[j]? = some v → Value.okWide Try.prog W .any base t v := hval0
  have hW' := hW
  obtain ⟨p, q, hA0, hV, rfl, hfz, hnd⟩ := hW
  have hA : DataW.TrodAll enc Try.prog W 0 (fun _ => true) true Try.f5.params.toList args.toList ds p := hA0
  rw [Try.params5] at hA hval hsz
  obtain ⟨v0, vs0, d0, ds0, p0, q0, hargs, rfl, rfl, h0, r0⟩ := trodAll_cons hA
  obtain ⟨v1, vs1, d1, ds1, p1, q1, rfl, rfl, rfl, h1, r1⟩ := trodAll_cons r0
  obtain ⟨v2, vs2, d2, ds2, p2, q2, rfl, rfl, rfl, h2, r2⟩ := trodAll_cons r1
  obtain ⟨rfl, rfl, rfl⟩ := trodAll_nil r2
  obtain rfl : args = #[v0, v1, v2] := by cases args; simp_all
  obtain ⟨rfl, rfl⟩ := trodVars_none hV
  have h0k := h0
  obtain ⟨cs0, rfl, hs0⟩ := okWide_struct Try.underlying23 (hval 0 23 v0 rfl rfl)
  obtain ⟨l0⟩ := cs0
  rw [c23] at hs0
  obtain ⟨c0_0, c0_1, c0_2, rfl⟩ := len3 hs0
  obtain ⟨n0, f0⟩ := h0
  have f0x : DataW.trod enc Try.prog W 0 (fun _ => true) true n0 23 [c0_0, c0_1, c0_2] = some (d0, p0) := f0
  obtain ⟨xs0, n0, _, _, _, hl0, hg0⟩ := DataW.trod_struct Try.underlying23 f0x
  obtain ⟨y0_0, y0_1, y0_2, rfl⟩ := len3 hl0
  have g0_0 : DataW.trod enc Try.prog W 0 (fun _ => true) true n0 3 [c0_0] = some y0_0 := by
    have z : DataW.trod enc Try.prog W 0 (fun _ => true) true n0 3 (([c0_0, c0_1, c0_2].drop 0).take (Try.prog.cellsOf 3)) = [y0_0, y0_1, y0_2][0]? := hg0 0 _ rfl
    rw [c3] at z
    exact z
  have g0_1 : DataW.trod enc Try.prog W 0 (fun _ => true) true n0 9 [c0_1] = some y0_1 := by
    have z : DataW.trod enc Try.prog W 0 (fun _ => true) true n0 9 (([c0_0, c0_1, c0_2].drop 1).take (Try.prog.cellsOf 9)) = [y0_0, y0_1, y0_2][1]? := hg0 1 _ rfl
    rw [c9] at z
    exact z
  have g0_2 : DataW.trod enc Try.prog W 0 (fun _ => true) true n0 9 [c0_2] = some y0_2 := by
    have z : DataW.trod enc Try.prog W 0 (fun _ => true) true n0 9 (([c0_0, c0_1, c0_2].drop 2).take (Try.prog.cellsOf 9)) = [y0_0, y0_1, y0_2][2]? := hg0 2 _ rfl
    rw [c9] at z
    exact z
  obtain ⟨a0_0, e0_0, _, w0_0⟩ := DataW.trod_int Try.underlying3 g0_0
  simp only [List.cons.injEq, and_true] at e0_0
  subst e0_0
  obtain ⟨a0_1, e0_1, _, w0_1⟩ := DataW.trod_string Try.underlying9 g0_1
  simp only [List.cons.injEq, and_true] at e0_1
  subst e0_1
  obtain ⟨a0_2, e0_2, _, w0_2⟩ := DataW.trod_string Try.underlying9 g0_2
  simp only [List.cons.injEq, and_true] at e0_2
  subst e0_2
  have h1k := h1
  obtain ⟨a1, rfl, rfl, rfl, w1⟩ := open_int Try.underlying3 (hval 1 3 v1 rfl rfl) h1
  have h2k := h2
  obtain ⟨a2, rfl, rfl, rfl, y2⟩ := open_string Try.underlying9 (hval 2 9 v2 rfl rfl) h2
  have w2 : a2.size ≤ 140737488351232 := by
    have z := sized_string hsz (j := 2) (t := 9) rfl rfl
    rw [Array.length_toList] at z
    exact z
  clear hA0 hval0 hsz0 hsz
  have hlt0 : ∀ x ∈ p0, x.block < W.heap.size := fun x hx => by simpa using hW'.lt x (by simp [hx])
  obtain ⟨k, hk⟩ := SpanPure.Asks a0_0 a0_1 a0_2 a1 a2 w0_1 w2
  refine (QSpan.stanchionlaw09_SpanAsks.calls k a0_0 a0_1 a0_2 a1 a2 true W hk).mono fun e W' ⟨he, bel⟩ => ?_
  subst he
  exact ⟨_, rfl, _, _, _, [], _, [], hW', trodAll_mk1 (shut_bool Try.underlying4 _), (trodAll_cons_mk (Below.trod laidOut (by kernel_rfl) (of_decide_eq_true (by kernel_rfl)) h0k bel hlt0) (trodAll_cons_mk (shut_int Try.underlying3 w1) (trodAll_cons_mk (shut_string Try.underlying9 y2) trodAll_mk0))), rfl, bel.frame _, fun h => by cases h⟩
theorem over : Rows.spanAsksRow.holds Try.pinned (OpenSpec.ofChange Rows.spanAsksSpec) :=
  OpenClaim.holds_of_wide 5 Try.f5 rfl rfl rfl rfl rfl rfl rfl ⟨rfl, rfl, rfl, rfl, rfl⟩ rfl rfl rfl rfl rfl (by kernel_rfl) Try.func5 (by kernel_rfl)
    (of_decide_eq_true (by kernel_rfl)) (by unfold Func.isWrapper; first | (rw [if_pos (by decide +kernel)]; kernel_rfl) | (rw [if_neg (by decide +kernel)]; exact ⟨rfl, rfl⟩))
    (fun os started H enc _ => lifted os started H enc)
theorem proved : Rows.SpanAsksSaid := over
#print axioms proved
end Go.Proofs.Ytdobceajlplfhaa.spanAsks
namespace Go.Proofs.Ytdobceajlplfhaa
/-- The row, under a short name, for the claim. -/
theorem spanAsks_holds : Rows.SpanAsksSaid := spanAsks.proved
end Go.Proofs.Ytdobceajlplfhaa
