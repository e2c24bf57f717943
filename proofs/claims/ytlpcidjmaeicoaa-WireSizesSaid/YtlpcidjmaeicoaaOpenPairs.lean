/- A row of pairs among the arguments, opened for the printed contracts. -/
import Derived.Test.YtlpcidjmaeicoaaOpenRow
import Derived.Test.YtlpcidjmaeicoaaQWix0
import Derived.Deep.SlicePairs
namespace Go.Proofs.Ytlpcidjmaeicoaa.OpenPairs
open Go Go.ChangeShapes Go.WideShapes Go.RowKit Go.Proofs.YtlpcidjmaeicoaaW.PrintWords Go.Proofs.Ytlpcidjmaeicoaa.QWi

theorem cellsPair : Try.prog.cellsOf 41 = 2 := by kernel_rfl
theorem cellsStr : Try.prog.cellsOf 9 = 1 := by kernel_rfl
theorem open_pairs {H : Type} {enc : TypeId × Value → H} {W : World} {fuel : Nat} {A0 : Option Addr} {n0 c0 : Nat} {x : DataW H × List MemPlace}
    (h : DataW.trod enc Try.prog W 0 (fun _ => true) true fuel 27 [.slice A0 n0 c0] = some x) :
    ∃ l : List S41, n0 = l.length ∧ Kd.C k41 W A0 l.length l ∧ l.length ≤ c0 ∧ l.length + 1 ≤ Rows.uptoBulk x.1 := by
  rcases Deep.open_slice_pairs Try.underlying27 Try.underlying41 cellsPair rfl rfl cellsStr cellsStr h with ⟨hcs, rfl⟩ | ⟨a, len, cap, m, n, V0, V1, D0, D1, P0, P1, hcs, _, hl, hm, hmm, rfl, hx⟩
  · simp only [List.cons.injEq, and_true, Value.slice.injEq] at hcs
    obtain ⟨rfl, rfl, rfl⟩ := hcs
    exact ⟨[], rfl, Kd.C_nil _ _, Nat.zero_le _, by simp [Rows.uptoBulk]⟩
  · simp only [List.cons.injEq, and_true, Value.slice.injEq] at hcs
    obtain ⟨rfl, rfl, rfl⟩ := hcs
    rw [if_pos rfl] at hmm
    unfold maxLen at hm
    have each : ∀ i, i < m → ∃ s : S41, V0 i = .string s.f0 ∧ V1 i = .string s.f1 := by
      intro i hi
      obtain ⟨_, _, g0, g1⟩ := hx i hi
      obtain ⟨s0, e0, _⟩ := DataW.trod_string Try.underlying9 g0
      obtain ⟨s1, e1, _⟩ := DataW.trod_string Try.underlying9 g1
      exact ⟨⟨s0, s1⟩, by simpa using e0, by simpa using e1⟩
    obtain ⟨f, hf⟩ : ∃ f : Nat → S41, ∀ i, i < m → V0 i = .string (f i).f0 ∧ V1 i = .string (f i).f1 := by
      refine ⟨fun i => if hi : i < m then Classical.choose (each i hi) else z41, fun i hi => ?_⟩
      simp only [dif_pos hi]
      exact Classical.choose_spec (each i hi)
    have hlen : ((List.range n0).map f).length = n0 := by rw [List.length_map, List.length_range]
    refine ⟨(List.range n0).map f, hlen.symm, ⟨rfl, by omega, fun hn => ⟨a, rfl, fun j p hj => ?_⟩⟩, by omega, ?_⟩
    · have hj2 : j < n0 := by
        have := (List.getElem?_eq_some_iff.1 hj).1
        omega
      rw [List.getElem?_map, List.getElem?_range hj2] at hj
      obtain rfl : f j = p := by simpa using hj
      obtain ⟨c0', c1', _, _⟩ := hx j (by omega)
      obtain ⟨v0, v1⟩ := hf j (by omega)
      rw [v0] at c0'
      rw [v1] at c1'
      refine ⟨[.string (f j).f0, .string (f j).f1], rfl, k41_mk W (f j), fun i u hu => ?_⟩
      match i, hu with
      | 0, hu =>
        obtain rfl : Value.string (f j).f0 = u := by simpa using hu
        exact c0'
      | 1, hu =>
        obtain rfl : Value.string (f j).f1 = u := by simpa using hu
        exact c1'
      | i + 2, hu => simp at hu
    · simp only [Rows.uptoBulk]
      refine Nat.succ_le_succ (Nat.le_trans (Nat.le_trans (Nat.le_of_eq ?_) (OpenRow.length_le _)) (Nat.le_add_right ..))
      simp
end Go.Proofs.Ytlpcidjmaeicoaa.OpenPairs
