/- WireSizes returns true for every input that can be read: the row, out of the printed contract and the plain law. -/
import Derived.Test.YtlpcidjmaeicoaaRows
import Derived.Test.YtlpcidjmaeicoaaQWix6
import Derived.Test.YtlpcidjmaeicoaaOpenPairs
import Derived.Test.YtlpcidjmaeicoaaWireSizes
import Derived.Test.YtlpcidjmaeicoaaOpenRow
import Derived.WalkKit
import Derived.ProofKit
import Derived.OpenShut
import Derived.ShutString
import Derived.ChangeOld
import Derived.Below
import Derived.Carry
import Derived.SizedLaws
namespace Go.Proofs.Ytlpcidjmaeicoaa.wireSizes
open Go.ChangeShapes Go.WideShapes Go.ChangeAt Go.RowKit
open Go.ChangeMaps (open_string shut_string)
set_option linter.unusedVariables false
theorem len6 {α : Type} {l : List α} (h : l.length = 6) : ∃ a0 a1 a2 a3 a4 a5, l = [a0, a1, a2, a3, a4, a5] :=
  match l, h with
  | [a0, a1, a2, a3, a4, a5], _ => ⟨a0, a1, a2, a3, a4, a5, rfl⟩
theorem len8 {α : Type} {l : List α} (h : l.length = 8) : ∃ a0 a1 a2 a3 a4 a5 a6 a7, l = [a0, a1, a2, a3, a4, a5, a6, a7] :=
  match l, h with
  | [a0, a1, a2, a3, a4, a5, a6, a7], _ => ⟨a0, a1, a2, a3, a4, a5, a6, a7, rfl⟩
theorem len11 {α : Type} {l : List α} (h : l.length = 11) : ∃ a0 a1 a2 a3 a4 a5 a6 a7 a8 a9 a10, l = [a0, a1, a2, a3, a4, a5, a6, a7, a8, a9, a10] :=
  match l, h with
  | [a0, a1, a2, a3, a4, a5, a6, a7, a8, a9, a10], _ => ⟨a0, a1, a2, a3, a4, a5, a6, a7, a8, a9, a10, rfl⟩
theorem own : ownKnob Try.prog.godebug = none := by kernel_rfl
theorem laidOut : laidOutB Try.prog = true := by kernel_rfl
theorem c3 : Try.prog.cellsOf 3 = 1 := by kernel_rfl
theorem c4 : Try.prog.cellsOf 4 = 1 := by kernel_rfl
theorem c9 : Try.prog.cellsOf 9 = 1 := by kernel_rfl
theorem c23 : Try.prog.cellsOf 23 = 6 := by kernel_rfl
theorem c25 : Try.prog.cellsOf 25 = 11 := by kernel_rfl
theorem c26 : Try.prog.cellsOf 26 = 1 := by kernel_rfl
theorem c27 : Try.prog.cellsOf 27 = 1 := by kernel_rfl
theorem c29 : Try.prog.cellsOf 29 = 8 := by kernel_rfl
set_option maxRecDepth 100000 in
theorem contract (H : Type) (enc : TypeId × Value → H) (W : World) (base : Nat) (args : Array Value) (ds gs : List (DataW H)) (before : List MemPlace)
    (hval0 : ∀ (j : Nat) t v, Try.f3.params[j]? = some t → args[j]? = some v → Value.okWide Try.prog W .any base t v)
    (hW : DataW.Whole enc Try.prog Try.f3.params.toList Rows.wireSizesSpec.vars false W args.toList ds gs before) :
    Calls Try.prog 3 args W fun e W' => ∃ v, e = .returned v ∧ Rows.wireSizesSpec.post enc Try.prog Try.f3 false true false false W args v W' := by
  have hval : ∀ (j : Nat) t v, Try.f3.params[j]? = some t → args[j]? = some v → Value.okWide Try.prog W .any base t v := hval0
  have hW' := hW
  obtain ⟨p, q, hA0, hV, rfl, hfz, hnd⟩ := hW
  have hA : DataW.TrodAll enc Try.prog W 0 (fun _ => true) true Try.f3.params.toList args.toList ds p := hA0
  rw [Try.params3] at hA hval
  obtain ⟨v0, vs0, d0, ds0, p0, q0, hargs, rfl, rfl, h0, r0⟩ := trodAll_cons hA
  obtain ⟨v1, vs1, d1, ds1, p1, q1, rfl, rfl, rfl, h1, r1⟩ := trodAll_cons r0
  obtain ⟨rfl, rfl, rfl⟩ := trodAll_nil r1
  obtain rfl : args = #[v0, v1] := by cases args; simp_all
  obtain ⟨rfl, rfl⟩ := trodVars_none hV
  have h0k := h0
  obtain ⟨cs0, rfl, hs0⟩ := okWide_struct Try.underlying25 (hval 0 25 v0 rfl rfl)
  obtain ⟨lx0⟩ := cs0
  rw [c25] at hs0
  obtain ⟨c0_0c, c0_1c, c0_2c, c0_3c, c0_4c, c0_5c, c0_6c, c0_7c, c0_8c, c0_9c, c0_10c, rfl⟩ := len11 hs0
  obtain ⟨n0, f0⟩ := h0
  have f0x : DataW.trod enc Try.prog W 0 (fun _ => true) true n0 25 [c0_0c, c0_1c, c0_2c, c0_3c, c0_4c, c0_5c, c0_6c, c0_7c, c0_8c, c0_9c, c0_10c] = some (d0, p0) := f0
  obtain ⟨xs0, n0, _, ex0, _, hl0, hg0⟩ := DataW.trod_struct Try.underlying25 f0x
  obtain ⟨y0_0, y0_1, y0_2, y0_3, y0_4, y0_5, rfl⟩ := len6 hl0
  have eb0 := OpenRow.agg_bulk ex0
  simp only [Rows.uptoBulkAll, List.map_cons, List.map_nil] at eb0
  have g0_0 : DataW.trod enc Try.prog W 0 (fun _ => true) true n0 3 [c0_0c] = some y0_0 := by
    have z : DataW.trod enc Try.prog W 0 (fun _ => true) true n0 3 (([c0_0c, c0_1c, c0_2c, c0_3c, c0_4c, c0_5c, c0_6c, c0_7c, c0_8c, c0_9c, c0_10c].drop 0).take (Try.prog.cellsOf 3)) = [y0_0, y0_1, y0_2, y0_3, y0_4, y0_5][0]? := hg0 0 _ rfl
    rw [c3] at z
    exact z
  have g0_1 : DataW.trod enc Try.prog W 0 (fun _ => true) true n0 3 [c0_1c] = some y0_1 := by
    have z : DataW.trod enc Try.prog W 0 (fun _ => true) true n0 3 (([c0_0c, c0_1c, c0_2c, c0_3c, c0_4c, c0_5c, c0_6c, c0_7c, c0_8c, c0_9c, c0_10c].drop 1).take (Try.prog.cellsOf 3)) = [y0_0, y0_1, y0_2, y0_3, y0_4, y0_5][1]? := hg0 1 _ rfl
    rw [c3] at z
    exact z
  have g0_2 : DataW.trod enc Try.prog W 0 (fun _ => true) true n0 3 [c0_2c] = some y0_2 := by
    have z : DataW.trod enc Try.prog W 0 (fun _ => true) true n0 3 (([c0_0c, c0_1c, c0_2c, c0_3c, c0_4c, c0_5c, c0_6c, c0_7c, c0_8c, c0_9c, c0_10c].drop 2).take (Try.prog.cellsOf 3)) = [y0_0, y0_1, y0_2, y0_3, y0_4, y0_5][2]? := hg0 2 _ rfl
    rw [c3] at z
    exact z
  have g0_3 : DataW.trod enc Try.prog W 0 (fun _ => true) true n0 3 [c0_3c] = some y0_3 := by
    have z : DataW.trod enc Try.prog W 0 (fun _ => true) true n0 3 (([c0_0c, c0_1c, c0_2c, c0_3c, c0_4c, c0_5c, c0_6c, c0_7c, c0_8c, c0_9c, c0_10c].drop 3).take (Try.prog.cellsOf 3)) = [y0_0, y0_1, y0_2, y0_3, y0_4, y0_5][3]? := hg0 3 _ rfl
    rw [c3] at z
    exact z
  have g0_4 : DataW.trod enc Try.prog W 0 (fun _ => true) true n0 9 [c0_4c] = some y0_4 := by
    have z : DataW.trod enc Try.prog W 0 (fun _ => true) true n0 9 (([c0_0c, c0_1c, c0_2c, c0_3c, c0_4c, c0_5c, c0_6c, c0_7c, c0_8c, c0_9c, c0_10c].drop 4).take (Try.prog.cellsOf 9)) = [y0_0, y0_1, y0_2, y0_3, y0_4, y0_5][4]? := hg0 4 _ rfl
    rw [c9] at z
    exact z
  have g0_5 : DataW.trod enc Try.prog W 0 (fun _ => true) true n0 23 [c0_5c, c0_6c, c0_7c, c0_8c, c0_9c, c0_10c] = some y0_5 := by
    have z : DataW.trod enc Try.prog W 0 (fun _ => true) true n0 23 (([c0_0c, c0_1c, c0_2c, c0_3c, c0_4c, c0_5c, c0_6c, c0_7c, c0_8c, c0_9c, c0_10c].drop 5).take (Try.prog.cellsOf 23)) = [y0_0, y0_1, y0_2, y0_3, y0_4, y0_5][5]? := hg0 5 _ rfl
    rw [c23] at z
    exact z
  obtain ⟨a0_0, e0_0, q0_0, w0_0⟩ := DataW.trod_int Try.underlying3 g0_0
  simp only [List.cons.injEq, and_true] at e0_0
  subst e0_0
  obtain ⟨a0_1, e0_1, q0_1, w0_1⟩ := DataW.trod_int Try.underlying3 g0_1
  simp only [List.cons.injEq, and_true] at e0_1
  subst e0_1
  obtain ⟨a0_2, e0_2, q0_2, w0_2⟩ := DataW.trod_int Try.underlying3 g0_2
  simp only [List.cons.injEq, and_true] at e0_2
  subst e0_2
  obtain ⟨a0_3, e0_3, q0_3, w0_3⟩ := DataW.trod_int Try.underlying3 g0_3
  simp only [List.cons.injEq, and_true] at e0_3
  subst e0_3
  obtain ⟨a0_4, e0_4, q0_4, w0_4⟩ := DataW.trod_string Try.underlying9 g0_4
  simp only [List.cons.injEq, and_true] at e0_4
  subst e0_4
  have b0_4 := OpenRow.str_bulk q0_4
  obtain ⟨xs0_5, n0_5, _, ex0_5, _, hl0_5, hg0_5⟩ := DataW.trod_struct Try.underlying23 g0_5
  obtain ⟨y0_5_0, y0_5_1, y0_5_2, y0_5_3, y0_5_4, y0_5_5, rfl⟩ := len6 hl0_5
  have eb0_5 := OpenRow.agg_bulk1 ex0_5
  simp only [Rows.uptoBulkAll, List.map_cons, List.map_nil] at eb0_5
  have g0_5_0 : DataW.trod enc Try.prog W 0 (fun _ => true) true n0_5 3 [c0_5c] = some y0_5_0 := by
    have z : DataW.trod enc Try.prog W 0 (fun _ => true) true n0_5 3 (([c0_5c, c0_6c, c0_7c, c0_8c, c0_9c, c0_10c].drop 0).take (Try.prog.cellsOf 3)) = [y0_5_0, y0_5_1, y0_5_2, y0_5_3, y0_5_4, y0_5_5][0]? := hg0_5 0 _ rfl
    rw [c3] at z
    exact z
  have g0_5_1 : DataW.trod enc Try.prog W 0 (fun _ => true) true n0_5 9 [c0_6c] = some y0_5_1 := by
    have z : DataW.trod enc Try.prog W 0 (fun _ => true) true n0_5 9 (([c0_5c, c0_6c, c0_7c, c0_8c, c0_9c, c0_10c].drop 1).take (Try.prog.cellsOf 9)) = [y0_5_0, y0_5_1, y0_5_2, y0_5_3, y0_5_4, y0_5_5][1]? := hg0_5 1 _ rfl
    rw [c9] at z
    exact z
  have g0_5_2 : DataW.trod enc Try.prog W 0 (fun _ => true) true n0_5 9 [c0_7c] = some y0_5_2 := by
    have z : DataW.trod enc Try.prog W 0 (fun _ => true) true n0_5 9 (([c0_5c, c0_6c, c0_7c, c0_8c, c0_9c, c0_10c].drop 2).take (Try.prog.cellsOf 9)) = [y0_5_0, y0_5_1, y0_5_2, y0_5_3, y0_5_4, y0_5_5][2]? := hg0_5 2 _ rfl
    rw [c9] at z
    exact z
  have g0_5_3 : DataW.trod enc Try.prog W 0 (fun _ => true) true n0_5 9 [c0_8c] = some y0_5_3 := by
    have z : DataW.trod enc Try.prog W 0 (fun _ => true) true n0_5 9 (([c0_5c, c0_6c, c0_7c, c0_8c, c0_9c, c0_10c].drop 3).take (Try.prog.cellsOf 9)) = [y0_5_0, y0_5_1, y0_5_2, y0_5_3, y0_5_4, y0_5_5][3]? := hg0_5 3 _ rfl
    rw [c9] at z
    exact z
  have g0_5_4 : DataW.trod enc Try.prog W 0 (fun _ => true) true n0_5 9 [c0_9c] = some y0_5_4 := by
    have z : DataW.trod enc Try.prog W 0 (fun _ => true) true n0_5 9 (([c0_5c, c0_6c, c0_7c, c0_8c, c0_9c, c0_10c].drop 4).take (Try.prog.cellsOf 9)) = [y0_5_0, y0_5_1, y0_5_2, y0_5_3, y0_5_4, y0_5_5][4]? := hg0_5 4 _ rfl
    rw [c9] at z
    exact z
  have g0_5_5 : DataW.trod enc Try.prog W 0 (fun _ => true) true n0_5 3 [c0_10c] = some y0_5_5 := by
    have z : DataW.trod enc Try.prog W 0 (fun _ => true) true n0_5 3 (([c0_5c, c0_6c, c0_7c, c0_8c, c0_9c, c0_10c].drop 5).take (Try.prog.cellsOf 3)) = [y0_5_0, y0_5_1, y0_5_2, y0_5_3, y0_5_4, y0_5_5][5]? := hg0_5 5 _ rfl
    rw [c3] at z
    exact z
  obtain ⟨a0_5_0, e0_5_0, q0_5_0, w0_5_0⟩ := DataW.trod_int Try.underlying3 g0_5_0
  simp only [List.cons.injEq, and_true] at e0_5_0
  subst e0_5_0
  obtain ⟨a0_5_1, e0_5_1, q0_5_1, w0_5_1⟩ := DataW.trod_string Try.underlying9 g0_5_1
  simp only [List.cons.injEq, and_true] at e0_5_1
  subst e0_5_1
  have b0_5_1 := OpenRow.str_bulk q0_5_1
  obtain ⟨a0_5_2, e0_5_2, q0_5_2, w0_5_2⟩ := DataW.trod_string Try.underlying9 g0_5_2
  simp only [List.cons.injEq, and_true] at e0_5_2
  subst e0_5_2
  have b0_5_2 := OpenRow.str_bulk q0_5_2
  obtain ⟨a0_5_3, e0_5_3, q0_5_3, w0_5_3⟩ := DataW.trod_string Try.underlying9 g0_5_3
  simp only [List.cons.injEq, and_true] at e0_5_3
  subst e0_5_3
  have b0_5_3 := OpenRow.str_bulk q0_5_3
  obtain ⟨a0_5_4, e0_5_4, q0_5_4, w0_5_4⟩ := DataW.trod_string Try.underlying9 g0_5_4
  simp only [List.cons.injEq, and_true] at e0_5_4
  subst e0_5_4
  have b0_5_4 := OpenRow.str_bulk q0_5_4
  obtain ⟨a0_5_5, e0_5_5, q0_5_5, w0_5_5⟩ := DataW.trod_int Try.underlying3 g0_5_5
  simp only [List.cons.injEq, and_true] at e0_5_5
  subst e0_5_5
  have h1k := h1
  obtain ⟨cs1, rfl, hs1⟩ := okWide_struct Try.underlying29 (hval 1 29 v1 rfl rfl)
  obtain ⟨lx1⟩ := cs1
  rw [c29] at hs1
  obtain ⟨c1_0c, c1_1c, c1_2c, c1_3c, c1_4c, c1_5c, c1_6c, c1_7c, rfl⟩ := len8 hs1
  obtain ⟨n1, f1⟩ := h1
  have f1x : DataW.trod enc Try.prog W 0 (fun _ => true) true n1 29 [c1_0c, c1_1c, c1_2c, c1_3c, c1_4c, c1_5c, c1_6c, c1_7c] = some (d1, p1) := f1
  obtain ⟨xs1, n1, _, ex1, _, hl1, hg1⟩ := DataW.trod_struct Try.underlying29 f1x
  obtain ⟨y1_0, y1_1, y1_2, y1_3, y1_4, y1_5, y1_6, y1_7, rfl⟩ := len8 hl1
  have eb1 := OpenRow.agg_bulk ex1
  simp only [Rows.uptoBulkAll, List.map_cons, List.map_nil] at eb1
  have g1_0 : DataW.trod enc Try.prog W 0 (fun _ => true) true n1 3 [c1_0c] = some y1_0 := by
    have z : DataW.trod enc Try.prog W 0 (fun _ => true) true n1 3 (([c1_0c, c1_1c, c1_2c, c1_3c, c1_4c, c1_5c, c1_6c, c1_7c].drop 0).take (Try.prog.cellsOf 3)) = [y1_0, y1_1, y1_2, y1_3, y1_4, y1_5, y1_6, y1_7][0]? := hg1 0 _ rfl
    rw [c3] at z
    exact z
  have g1_1 : DataW.trod enc Try.prog W 0 (fun _ => true) true n1 3 [c1_1c] = some y1_1 := by
    have z : DataW.trod enc Try.prog W 0 (fun _ => true) true n1 3 (([c1_0c, c1_1c, c1_2c, c1_3c, c1_4c, c1_5c, c1_6c, c1_7c].drop 1).take (Try.prog.cellsOf 3)) = [y1_0, y1_1, y1_2, y1_3, y1_4, y1_5, y1_6, y1_7][1]? := hg1 1 _ rfl
    rw [c3] at z
    exact z
  have g1_2 : DataW.trod enc Try.prog W 0 (fun _ => true) true n1 3 [c1_2c] = some y1_2 := by
    have z : DataW.trod enc Try.prog W 0 (fun _ => true) true n1 3 (([c1_0c, c1_1c, c1_2c, c1_3c, c1_4c, c1_5c, c1_6c, c1_7c].drop 2).take (Try.prog.cellsOf 3)) = [y1_0, y1_1, y1_2, y1_3, y1_4, y1_5, y1_6, y1_7][2]? := hg1 2 _ rfl
    rw [c3] at z
    exact z
  have g1_3 : DataW.trod enc Try.prog W 0 (fun _ => true) true n1 26 [c1_3c] = some y1_3 := by
    have z : DataW.trod enc Try.prog W 0 (fun _ => true) true n1 26 (([c1_0c, c1_1c, c1_2c, c1_3c, c1_4c, c1_5c, c1_6c, c1_7c].drop 3).take (Try.prog.cellsOf 26)) = [y1_0, y1_1, y1_2, y1_3, y1_4, y1_5, y1_6, y1_7][3]? := hg1 3 _ rfl
    rw [c26] at z
    exact z
  have g1_4 : DataW.trod enc Try.prog W 0 (fun _ => true) true n1 9 [c1_4c] = some y1_4 := by
    have z : DataW.trod enc Try.prog W 0 (fun _ => true) true n1 9 (([c1_0c, c1_1c, c1_2c, c1_3c, c1_4c, c1_5c, c1_6c, c1_7c].drop 4).take (Try.prog.cellsOf 9)) = [y1_0, y1_1, y1_2, y1_3, y1_4, y1_5, y1_6, y1_7][4]? := hg1 4 _ rfl
    rw [c9] at z
    exact z
  have g1_5 : DataW.trod enc Try.prog W 0 (fun _ => true) true n1 4 [c1_5c] = some y1_5 := by
    have z : DataW.trod enc Try.prog W 0 (fun _ => true) true n1 4 (([c1_0c, c1_1c, c1_2c, c1_3c, c1_4c, c1_5c, c1_6c, c1_7c].drop 5).take (Try.prog.cellsOf 4)) = [y1_0, y1_1, y1_2, y1_3, y1_4, y1_5, y1_6, y1_7][5]? := hg1 5 _ rfl
    rw [c4] at z
    exact z
  have g1_6 : DataW.trod enc Try.prog W 0 (fun _ => true) true n1 27 [c1_6c] = some y1_6 := by
    have z : DataW.trod enc Try.prog W 0 (fun _ => true) true n1 27 (([c1_0c, c1_1c, c1_2c, c1_3c, c1_4c, c1_5c, c1_6c, c1_7c].drop 6).take (Try.prog.cellsOf 27)) = [y1_0, y1_1, y1_2, y1_3, y1_4, y1_5, y1_6, y1_7][6]? := hg1 6 _ rfl
    rw [c27] at z
    exact z
  have g1_7 : DataW.trod enc Try.prog W 0 (fun _ => true) true n1 4 [c1_7c] = some y1_7 := by
    have z : DataW.trod enc Try.prog W 0 (fun _ => true) true n1 4 (([c1_0c, c1_1c, c1_2c, c1_3c, c1_4c, c1_5c, c1_6c, c1_7c].drop 7).take (Try.prog.cellsOf 4)) = [y1_0, y1_1, y1_2, y1_3, y1_4, y1_5, y1_6, y1_7][7]? := hg1 7 _ rfl
    rw [c4] at z
    exact z
  obtain ⟨a1_0, e1_0, q1_0, w1_0⟩ := DataW.trod_int Try.underlying3 g1_0
  simp only [List.cons.injEq, and_true] at e1_0
  subst e1_0
  obtain ⟨a1_1, e1_1, q1_1, w1_1⟩ := DataW.trod_int Try.underlying3 g1_1
  simp only [List.cons.injEq, and_true] at e1_1
  subst e1_1
  obtain ⟨a1_2, e1_2, q1_2, w1_2⟩ := DataW.trod_int Try.underlying3 g1_2
  simp only [List.cons.injEq, and_true] at e1_2
  subst e1_2
  obtain ⟨a1_3, e1_3, q1_3, w1_3⟩ := DataW.trod_int Try.underlying26 g1_3
  simp only [List.cons.injEq, and_true] at e1_3
  subst e1_3
  obtain ⟨a1_4, e1_4, q1_4, w1_4⟩ := DataW.trod_string Try.underlying9 g1_4
  simp only [List.cons.injEq, and_true] at e1_4
  subst e1_4
  have b1_4 := OpenRow.str_bulk q1_4
  obtain ⟨a1_5, e1_5, q1_5⟩ := DataW.trod_bool Try.underlying4 g1_5
  simp only [List.cons.injEq, and_true] at e1_5
  subst e1_5
  obtain ⟨A1_6, n1_6q, c1_6, es1_6⟩ := OpenRow.slice_value1 Try.underlying27 g1_6
  subst es1_6
  obtain ⟨l1_6, en1_6, hr1_6, hc1_6, b1_6⟩ := OpenPairs.open_pairs g1_6
  subst en1_6
  obtain ⟨a1_7, e1_7, q1_7⟩ := DataW.trod_bool Try.underlying4 g1_7
  simp only [List.cons.injEq, and_true] at e1_7
  subst e1_7
  clear hA0 hval0
  have hlt0 : ∀ x ∈ p0, x.block < W.heap.size := by
    obtain ⟨m0, hm0⟩ := h0k
    exact DataW.trod_lt m0 _ _ _ hm0
  have hlt1 : ∀ x ∈ p1, x.block < W.heap.size := by
    obtain ⟨m1, hm1⟩ := h1k
    exact DataW.trod_lt m1 _ _ _ hm1
  obtain ⟨k, hk⟩ := WiP.Sizes a0_0 a0_1 a0_2 a0_3 a0_4 a0_5_0 a0_5_1 a0_5_2 a0_5_3 a0_5_4 a0_5_5 a1_0 a1_1 a1_2 a1_3 a1_4 a1_5 l1_6 a1_7 
  refine (QWi.stanchionlaw16_WireSizes.calls k a0_0 a0_1 a0_2 a0_3 a0_4 a0_5_0 a0_5_1 a0_5_2 a0_5_3 a0_5_4 a0_5_5 a1_0 a1_1 a1_2 a1_3 a1_4 a1_5 A1_6 c1_6 l1_6 a1_7 true W hr1_6 hc1_6 hk).mono fun e W' ⟨he, bel⟩ => ?_
  subst he
  exact ⟨_, rfl, _, _, _, [], _, [], hW', trodAll_mk1 (shut_bool Try.underlying4 _), (trodAll_cons_mk (Below.trod laidOut (by kernel_rfl) (of_decide_eq_true (by kernel_rfl)) h0k bel hlt0) (trodAll_cons_mk (Below.trod laidOut (by kernel_rfl) (of_decide_eq_true (by kernel_rfl)) h1k bel hlt1) trodAll_mk0)), rfl, bel.frame _, fun h => by cases h⟩
set_option maxRecDepth 100000 in
theorem lifted (os : Os) (started : os.Started) (H : Type) (enc : TypeId × Value → H) :
    ReturnsInHanded {} Try.checked os 3 .any (Rows.wireSizesSpec.pre6 enc Try.prog Try.f3 Rows.wireSizesRow.domain false) (Rows.wireSizesSpec.post enc Try.prog Try.f3 false true false false) := by
  refine returnsInHanded_of_change_sized (C := Try.checked) own started (by kernel_rfl) Try.func3
    (ChangeSpec.witness6 (enc := enc) (C := Try.checked) false ⟨#[], #[.agg #[.int .i64 0, .int .i64 0, .int .i64 0, .int .i64 0, .string ByteArray.empty, .int .i64 0, .string ByteArray.empty, .string ByteArray.empty, .string ByteArray.empty, .string ByteArray.empty, .int .i64 0], .agg #[.int .i64 0, .int .i64 0, .int .i64 0, .int .i64 0, .string ByteArray.empty, .bool false, .slice none 0 0, .bool false]], []⟩ 8 (by kernel_rfl) (by kernel_rfl) (by kernel_rfl) (by kernel_rfl)) ?_
  intro W base args ds gs before hval hW _ _ _
  exact contract H enc W base args ds gs before hval hW
theorem proved : Rows.WireSizesSaid :=
  OpenClaim.holds_of_wide 3 Try.f3 rfl rfl rfl rfl rfl rfl rfl ⟨rfl, rfl, rfl, rfl, rfl⟩ rfl rfl rfl rfl rfl (by kernel_rfl) Try.func3 (by kernel_rfl)
    (of_decide_eq_true (by kernel_rfl)) (by unfold Func.isWrapper; first | (rw [if_pos (by decide +kernel)]; kernel_rfl) | (rw [if_neg (by decide +kernel)]; exact ⟨rfl, rfl⟩))
    (fun os started H enc _ => lifted os started H enc)
#print axioms proved
end Go.Proofs.Ytlpcidjmaeicoaa.wireSizes
namespace Go.Proofs.Ytlpcidjmaeicoaa
/-- The row, under a short name, for the claim. -/
theorem wireSizes_holds : Rows.WireSizesSaid := wireSizes.proved
end Go.Proofs.Ytlpcidjmaeicoaa
