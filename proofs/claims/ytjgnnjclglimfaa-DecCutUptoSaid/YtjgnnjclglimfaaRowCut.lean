/- DecCut in plain Lean: no beginning of a row's bytes is one. -/
import Derived.Test.YtjgnnjclglimfaaRowPlain
import Derived.Test.YtjgnnjclglimfaaWas
namespace Go.Proofs.Ytjgnnjclglimfaa.DecPure
open Go Go.RowKit Go.Proofs.Ytjgnnjclglimfaa.DecM Go.Proofs.Ytjgnnjclglimfaa.Giv Go.Proofs.Ytjgnnjclglimfaa.Row Go.Proofs.Ytjgnnjclglimfaa.QDec Go.Proofs.YtjgnnjclglimfaaW.PrintWords Go.Proofs.YtjgnnjclglimfaaW.PrintLast

theorem texts_was (most : Int) : ∀ (n : Nat) (s : ByteArray) (acc : List ByteArray), (takeTexts most n s acc).2.2 = 0 →
    ∃ (l : List ByteArray) (r : ByteArray), takeTexts most n s acc = (acc ++ l, r, 0) ∧ l.length = n ∧ s = textsS l ++ r ∧ ∀ t ∈ l, (t.size : Int) ≤ most ∧ t.size < two64
  | 0, s, acc, _ => ⟨[], s, by rw [List.append_nil]; rfl, rfl, by rw [textsS, ByteArray.empty_append], fun t ht => by cases ht⟩
  | n + 1, s, acc, h => by
    rw [takeTexts] at h ⊢
    by_cases hz : (takeText s most).2.2 = 0
    · rw [if_pos hz] at h ⊢
      obtain ⟨l, r, h1, h2, h3, h4⟩ := texts_was most n _ _ h
      obtain ⟨w1, w2, w3⟩ := text_was s most hz
      refine ⟨(takeText s most).1 :: l, r, ?_, by rw [List.length_cons, h2], ?_, ?_⟩
      · rw [h1, List.append_assoc]
        rfl
      · rw [textsS, ByteArray.append_assoc, ← h3]
        exact w1
      · intro t ht
        rcases List.mem_cons.1 ht with e | ht
        · rw [e]
          exact ⟨w2, w3⟩
        · exact h4 t ht
    · rw [if_neg hz] at h
      exact absurd h hz
theorem row_was (s : ByteArray) (many most : Int) (h : (takeRow s many most).2.2 = 0) :
    ∃ (l : List ByteArray) (r : ByteArray), takeRow s many most = (l, r, 0) ∧ (l.length : Int) ≤ many ∧ l.length < two64 ∧ s = rowS l ++ r ∧ ∀ t ∈ l, (t.size : Int) ≤ most ∧ t.size < two64 := by
  unfold takeRow at h ⊢
  by_cases hz : (takeNum s).2.2 = 0
  · rw [if_pos hz] at h ⊢
    by_cases h0 : many < 0 ∨ (takeNum s).1 > many
    · rw [if_pos h0] at h
      cases h
    · rw [if_neg h0] at h ⊢
      obtain ⟨l, r, h1, h2, h3, h4⟩ := texts_was most _ _ _ h
      obtain ⟨n, e1, e2, e⟩ := take_was (s := s) (v := (takeNum s).1) (r := (takeNum s).2.1) (by rw [← hz])
      rw [e1, Int.toNat_natCast] at h2
      refine ⟨l, r, by rw [h1, List.nil_append], by omega, by omega, ?_, h4⟩
      rw [rowS_eq, ByteArray.append_assoc, ← h3, h2]
      exact e
  · rw [if_neg hz] at h
    exact absurd h hz
theorem row_cut (l : List ByteArray) (many : Int) (c : Nat) (hl : l.length < two64) (hc : c < (rowS l).size) (hsz : (rowS l).size ≤ 1073741824) : ¬ (takeRow ((rowS l).extract 0 c) many 1073741824).2.2 = 0 := by
  intro h
  have e64 := two64_eq
  obtain ⟨l', r, _, h2, h3, h4, h5⟩ := row_was _ _ _ h
  have e : rowS l = rowS l' ++ (r ++ (rowS l).extract c (rowS l).size) := by
    rw [← ByteArray.append_assoc, ← h4]
    apply bytes_ext
    rw [data_append, ext_upto, ext_from, List.take_append_drop]
  have b1 := row_back l' (r ++ (rowS l).extract c (rowS l).size) ((l.length + l'.length : Nat) : Int) 1073741824 (by omega) h3 (fun t ht => by have := h5 t ht; omega)
  have b2 := row_back l ByteArray.empty ((l.length + l'.length : Nat) : Int) 1073741824 (by omega) hl (fun t ht => by have := in_row l t ht; omega)
  rw [ByteArray.append_empty] at b2
  rw [← e, b2] at b1
  have e2 := congrArg (fun p => p.2.1.size) b1
  simp only [ByteArray.size_append, ByteArray.size_extract] at e2
  have e3 : ByteArray.empty.size = 0 := rfl
  omega
theorem row_ends (l : List ByteArray) (x2 : Int) (h0 : 0 ≤ x2) (up : Bool) (k : Nat) (hl : l.length ≤ 4611686018427387904) (hsz : (rowS l).size ≤ 1073741824) (hk : (rowS l).size + 2 < k) : stanchionlaw01_DecCut.j0 k l x2 up (rowS l) = some up := by
  have e64 := two64_eq
  obtain ⟨k, rfl⟩ : ∃ j, k = j + 1 := ⟨k - 1, by omega⟩
  rw [stanchionlaw01_DecCut.j0]
  by_cases h : x2 < ((rowS l).size : Int)
  · have hc := row_cut l (l.length : Int) x2.toNat (by omega) (by omega) hsz
    have hx : ((rowS l).extract 0 x2.toNat).size ≤ (rowS l).size := by
      rw [ByteArray.size_extract]
      omega
    rw [if_pos h, if_pos h0, if_pos (by omega), row_some k _ _ _ (by omega) (by omega) (by omega) (by omega), bsm, if_neg hc]
  · rw [if_neg h]
theorem Cut (a : Int) (l : List ByteArray) (cut : Int) (ha : (Lit.int .u64 a).wf = true) (hl : l.length ≤ 4611686018427387904) (hsz : (rowS l).size ≤ 1073741824) : ∃ k, stanchionlaw01_DecCut.f k a l cut = some true := by
  have e64 := two64_eq
  have ha' := u64_wf ha
  have hz := numS_size a.toNat (by omega)
  refine ⟨(rowS l).size + 3, ?_⟩
  unfold stanchionlaw01_DecCut.f
  rw [shown_eq, bsm, num_some ha', bsm, drow_some l hl (by omega), bsm]
  by_cases h0 : cut < 0
  · rw [if_pos h0]
  · rw [if_neg h0]
    have hr := row_ends l cut (by omega) true ((rowS l).size + 3) hl hsz (by omega)
    by_cases h1 : cut < ((numS a.toNat).size : Int)
    · rw [if_pos h1, if_pos (by omega), if_pos (by omega), take_some (by rw [ByteArray.size_extract]; omega), bsm, take_cut a.toNat (by omega) cut.toNat (by omega)]
      rw [if_pos rfl]
      exact hr
    · rw [if_neg h1]
      exact hr
end Go.Proofs.Ytjgnnjclglimfaa.DecPure
