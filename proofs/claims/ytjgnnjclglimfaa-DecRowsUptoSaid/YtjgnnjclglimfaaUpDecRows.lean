/- DecRows returns true for every input of bulk at most 1048576 that can be read: the row in its second form, out of the printed contract and the plain law. -/
import Derived.Test.YtjgnnjclglimfaaRows
import Derived.Test.YtjgnnjclglimfaaQDecx3
import Derived.Test.YtjgnnjclglimfaaUptoDec
import Derived.Test.YtjgnnjclglimfaaOpenRow
import Derived.WalkKit
import Derived.ProofKit
import Derived.OpenShut
import Derived.ShutString
import Derived.ChangeOld
import Derived.Below
import Derived.Carry
import Derived.JoinedCond
namespace Go.Proofs.Ytjgnnjclglimfaa.decRows
open Go.ChangeShapes Go.WideShapes Go.ChangeAt Go.RowKit
open Go.ChangeMaps (open_string shut_string)
set_option linter.unusedVariables false
theorem len4 {α : Type} {l : List α} (h : l.length = 4) : ∃ a0 a1 a2 a3, l = [a0, a1, a2, a3] :=
  match l, h with
  | [a0, a1, a2, a3], _ => ⟨a0, a1, a2, a3, rfl⟩
theorem own : ownKnob Try.prog.godebug = none := by kernel_rfl
theorem laidOut : laidOutB Try.prog = true := by kernel_rfl
theorem c3 : Try.prog.cellsOf 3 = 1 := by kernel_rfl
theorem c9 : Try.prog.cellsOf 9 = 1 := by kernel_rfl
theorem c41 : Try.prog.cellsOf 41 = 1 := by kernel_rfl
theorem c43 : Try.prog.cellsOf 43 = 4 := by kernel_rfl
set_option maxRecDepth 100000 in
theorem contract (H : Type) (enc : TypeId × Value → H) (W : World) (base : Nat) (args : Array Value) (ds gs : List (DataW H)) (before : List MemPlace)
    (hval0 : ∀ (j : Nat) t v, Try.f9.params[j]? = some t → args[j]? = some v → Value.okWide Try.prog W .any base t v)
    (hW : DataW.Whole enc Try.prog Try.f9.params.toList Rows.decRowsSpec.vars false W args.toList ds gs before) (hk0 : Rows.uptoSmall H (ds ++ gs) = true) :
    Calls Try.prog 9 args W fun e W' => ∃ v, e = .returned v ∧ Rows.decRowsSpec.post enc Try.prog Try.f9 false true false false W args v W' := by
  have hval : ∀ (j : Nat) t v, Try.f9.params[j]? = some t → args[j]? = some v → Value.okWide Try.prog W .any base t v := hval0
  have hW' := hW
  obtain ⟨p, q, hA0, hV, rfl, hfz, hnd⟩ := hW
  have hA : DataW.TrodAll enc Try.prog W 0 (fun _ => true) true Try.f9.params.toList args.toList ds p := hA0
  rw [Try.params9] at hA hval
  obtain ⟨v0, vs0, d0, ds0, p0, q0, hargs, rfl, rfl, h0, r0⟩ := trodAll_cons hA
  obtain ⟨rfl, rfl, rfl⟩ := trodAll_nil r0
  obtain rfl : args = #[v0] := by cases args; simp_all
  obtain ⟨rfl, rfl⟩ := trodVars_none hV
  have h0k := h0
  obtain ⟨cs0, rfl, hs0⟩ := okWide_struct Try.underlying43 (hval 0 43 v0 rfl rfl)
  obtain ⟨lx0⟩ := cs0
  rw [c43] at hs0
  obtain ⟨c0_0c, c0_1c, c0_2c, c0_3c, rfl⟩ := len4 hs0
  obtain ⟨n0, f0⟩ := h0
  have f0x : DataW.trod enc Try.prog W 0 (fun _ => true) true n0 43 [c0_0c, c0_1c, c0_2c, c0_3c] = some (d0, p0) := f0
  obtain ⟨xs0, n0, _, ex0, _, hl0, hg0⟩ := DataW.trod_struct Try.underlying43 f0x
  obtain ⟨y0_0, y0_1, y0_2, y0_3, rfl⟩ := len4 hl0
  have eb0 := OpenRow.agg_bulk ex0
  simp only [Rows.uptoBulkAll, List.map_cons, List.map_nil] at eb0
  have g0_0 : DataW.trod enc Try.prog W 0 (fun _ => true) true n0 41 [c0_0c] = some y0_0 := by
    have z : DataW.trod enc Try.prog W 0 (fun _ => true) true n0 41 (([c0_0c, c0_1c, c0_2c, c0_3c].drop 0).take (Try.prog.cellsOf 41)) = [y0_0, y0_1, y0_2, y0_3][0]? := hg0 0 _ rfl
    rw [c41] at z
    exact z
  have g0_1 : DataW.trod enc Try.prog W 0 (fun _ => true) true n0 9 [c0_1c] = some y0_1 := by
    have z : DataW.trod enc Try.prog W 0 (fun _ => true) true n0 9 (([c0_0c, c0_1c, c0_2c, c0_3c].drop 1).take (Try.prog.cellsOf 9)) = [y0_0, y0_1, y0_2, y0_3][1]? := hg0 1 _ rfl
    rw [c9] at z
    exact z
  have g0_2 : DataW.trod enc Try.prog W 0 (fun _ => true) true n0 3 [c0_2c] = some y0_2 := by
    have z : DataW.trod enc Try.prog W 0 (fun _ => true) true n0 3 (([c0_0c, c0_1c, c0_2c, c0_3c].drop 2).take (Try.prog.cellsOf 3)) = [y0_0, y0_1, y0_2, y0_3][2]? := hg0 2 _ rfl
    rw [c3] at z
    exact z
  have g0_3 : DataW.trod enc Try.prog W 0 (fun _ => true) true n0 3 [c0_3c] = some y0_3 := by
    have z : DataW.trod enc Try.prog W 0 (fun _ => true) true n0 3 (([c0_0c, c0_1c, c0_2c, c0_3c].drop 3).take (Try.prog.cellsOf 3)) = [y0_0, y0_1, y0_2, y0_3][3]? := hg0 3 _ rfl
    rw [c3] at z
    exact z
  obtain ⟨A0_0, n0_0q, c0_0, es0_0⟩ := OpenRow.slice_value1 Try.underlying41 g0_0
  subst es0_0
  obtain ⟨l0_0, en0_0, hr0_0, hc0_0, b0_0⟩ := OpenRow.open_row Try.underlying41 Try.underlying9 (by kernel_rfl) g0_0
  subst en0_0
  obtain ⟨a0_1, e0_1, q0_1, w0_1⟩ := DataW.trod_string Try.underlying9 g0_1
  simp only [List.cons.injEq, and_true] at e0_1
  subst e0_1
  have b0_1 := OpenRow.str_bulk q0_1
  obtain ⟨a0_2, e0_2, q0_2, w0_2⟩ := DataW.trod_int Try.underlying3 g0_2
  simp only [List.cons.injEq, and_true] at e0_2
  subst e0_2
  obtain ⟨a0_3, e0_3, q0_3, w0_3⟩ := DataW.trod_int Try.underlying3 g0_3
  simp only [List.cons.injEq, and_true] at e0_3
  subst e0_3
  have hb := OpenRow.bound hk0
  simp only [List.append_nil, Rows.uptoBulkAll] at hb
  clear hA0 hval0 hk0
  have hlt0 : ∀ x ∈ p0, x.block < W.heap.size := by
    obtain ⟨m0, hm0⟩ := h0k
    exact DataW.trod_lt m0 _ _ _ hm0
  obtain ⟨k, hk⟩ := DecPure.URows l0_0 a0_1 a0_2 a0_3 w0_2 w0_3 (by omega) (by omega)
  refine (QDec.stanchionlaw01_DecRows.calls k A0_0 c0_0 l0_0 a0_1 a0_2 a0_3 true W hr0_0 hc0_0 hk).mono fun e W' ⟨he, bel⟩ => ?_
  subst he
  exact ⟨_, rfl, _, _, _, [], _, [], hW', trodAll_mk1 (shut_bool Try.underlying4 _), (trodAll_cons_mk (Below.trod laidOut (by kernel_rfl) (of_decide_eq_true (by kernel_rfl)) h0k bel hlt0) trodAll_mk0), rfl, bel.frame _, fun h => by cases h⟩
set_option maxRecDepth 100000 in
theorem lifted (os : Os) (started : os.Started) (H : Type) (enc : TypeId × Value → H) (F : Stop.Interp) :
    ReturnsInHanded {} Try.checked os 9 .any ((Rows.OpenSpec.upto Rows.decRowsSpec).pre6 enc Try.prog Try.f9 Rows.decRowsUptoRow.domain false) (((Rows.OpenSpec.upto Rows.decRowsSpec).at F).post enc Try.prog Try.f9 false true false false) := by
  refine returnsInHanded_of_cond (C := Try.checked) (s := Rows.OpenSpec.upto Rows.decRowsSpec) (k := Rows.uptoSmall) rfl own started (by kernel_rfl) Try.func9
    (OpenSpec.witness (enc := enc) (C := Try.checked) (s := Rows.OpenSpec.upto Rows.decRowsSpec) (k := Rows.uptoSmall) rfl false ⟨#[], #[.agg #[.slice none 0 0, .string ByteArray.empty, .int .i64 0, .int .i64 0]], []⟩ 8 (by kernel_rfl) (by kernel_rfl) (by kernel_rfl)
      (x := ([.agg [.nil, .lit (.string []), .lit (.int .i64 0), .lit (.int .i64 0)]], [], [])) (by kernel_rfl) rfl (by kernel_rfl)) ?_
  intro W base args ds gs before hval hW _ hk _
  exact contract H enc W base args ds gs before hval hW hk
theorem proved : Rows.DecRowsUptoSaid :=
  OpenClaim.holds_of_cond 9 Try.f9 rfl rfl rfl rfl rfl rfl rfl ⟨rfl, rfl, rfl, rfl, rfl⟩ rfl rfl rfl rfl rfl (by kernel_rfl) Try.func9 (by kernel_rfl)
    (of_decide_eq_true (by kernel_rfl)) (by unfold Func.isWrapper; first | (rw [if_pos (by decide +kernel)]; kernel_rfl) | (rw [if_neg (by decide +kernel)]; exact ⟨rfl, rfl⟩))
    (fun os started H enc _ F => lifted os started H enc F)
#print axioms proved
end Go.Proofs.Ytjgnnjclglimfaa.decRows
namespace Go.Proofs.Ytjgnnjclglimfaa
/-- The row, under a short name, for the claim. -/
theorem decRows_upto : Rows.DecRowsUptoSaid := decRows.proved
end Go.Proofs.Ytjgnnjclglimfaa
