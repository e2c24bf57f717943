/- What is taken was written: a text that begins bytes is told by its own encoding. -/
import Derived.Test.YtcepfdilbbbemaaDecFacts
import Derived.Test.YtcepfdilbbbemaaGiv
namespace Go.Proofs.Ytcepfdilbbbemaa.DecPure
open Go Go.Proofs.Ytcepfdilbbbemaa.DecM Go.Proofs.Ytcepfdilbbbemaa.Giv

theorem text_was (s : ByteArray) (most : Int) (h : (takeText s most).2.2 = 0) : s = textS (takeText s most).1 ++ (takeText s most).2.1 ∧ ((takeText s most).1.size : Int) ≤ most ∧ (takeText s most).1.size < two64 := by
  unfold takeText at h ⊢
  by_cases h1 : ¬ (takeNum s).2.2 = 0
  · rw [if_pos h1] at h
    exact absurd h h1
  rw [if_neg h1] at h ⊢
  by_cases h2 : most < 0 ∨ (takeNum s).1 > most
  · rw [if_pos h2] at h
    cases h
  rw [if_neg h2] at h ⊢
  by_cases h3 : (takeNum s).1 > (takeNum s).2.1.size
  · rw [if_pos h3] at h
    cases h
  rw [if_neg h3]
  have h1' : (takeNum s).2.2 = 0 := Decidable.not_not.mp h1
  obtain ⟨n, e1, e2, e⟩ := take_was (s := s) (v := (takeNum s).1) (r := (takeNum s).2.1) (by rw [← h1'])
  clear h h1 h1'
  generalize (takeNum s).2.1 = r at *
  generalize (takeNum s).1 = v at *
  subst e1
  simp only [Int.toNat_natCast]
  have hn : n ≤ r.size := by omega
  have hsz : (r.extract 0 n).size = n := by
    rw [ByteArray.size_extract]
    omega
  refine ⟨?_, by rw [hsz]; omega, by rw [hsz]; exact e2⟩
  rw [e]
  unfold textS
  rw [hsz, ByteArray.append_assoc]
  congr 1
  apply bytes_ext
  rw [data_append, ext_upto, ext_from, List.take_append_drop]
end Go.Proofs.Ytcepfdilbbbemaa.DecPure
