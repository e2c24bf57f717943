/- DecRows, DecRowBack, DecJoin, DecCut in plain Lean. -/
import Derived.Test.YtjgnnjclglimfaaRowLaws
namespace Go.Proofs.Ytjgnnjclglimfaa.DecPure
open Go Go.RowKit Go.Proofs.Ytjgnnjclglimfaa.DecM Go.Proofs.Ytjgnnjclglimfaa.Giv Go.Proofs.Ytjgnnjclglimfaa.Row Go.Proofs.Ytjgnnjclglimfaa.QDec Go.Proofs.YtjgnnjclglimfaaW.PrintWords Go.Proofs.YtjgnnjclglimfaaW.PrintLast

theorem drow_some (l : List ByteArray) (hl : l.length ≤ 4611686018427387904) (hs : (rowS l).size ≤ 70368744177664) : dec_Row.f l = some (rowS l) := by
  unfold dec_Row.f
  rw [if_pos ⟨hl, hs⟩]
theorem rrow_some (l : List ByteArray) (hl : l.length ≤ 4611686018427387904) (hs : (rowS l).size ≤ 70368744177664) : stanchionref01_Row.f l = some (rowS l) := by
  unfold stanchionref01_Row.f
  rw [if_pos ⟨hl, hs⟩]
theorem texts_len (most : Int) : ∀ (n : Nat) (s : ByteArray) (acc : List ByteArray), (takeTexts most n s acc).1.length ≤ acc.length + s.size
  | 0, s, acc => by
    rw [takeTexts]
    exact Nat.le_add_right ..
  | n + 1, s, acc => by
    rw [takeTexts]
    by_cases hz : (takeText s most).2.2 = 0
    · have hlt := text_lt s most hz
      have ih := texts_len most n (takeText s most).2.1 (acc ++ [(takeText s most).1])
      rw [if_pos hz]
      rw [List.length_append, List.length_singleton] at ih
      omega
    · rw [if_neg hz]
      exact Nat.zero_le _
theorem row_len (s : ByteArray) (many most : Int) : (takeRow s many most).1.length ≤ s.size := by
  obtain ⟨f1, f2, f3⟩ := take_first s
  unfold takeRow
  by_cases hz : (takeNum s).2.2 = 0
  · rw [if_pos hz]
    by_cases h0 : many < 0 ∨ (takeNum s).1 > many
    · rw [if_pos h0]
      exact Nat.zero_le _
    · rw [if_neg h0]
      have h := texts_len most (takeNum s).1.toNat (takeNum s).2.1 []
      rw [List.length_nil] at h
      omega
  · rw [if_neg hz]
    exact Nat.zero_le _
theorem Rows (l : List ByteArray) (s : ByteArray) (many most : Int) (hl : l.length ≤ 4611686018427387904) (hr : (rowS l).size ≤ 70368744177664) (hs : s.size < 8796093022208) (hm : most ≤ 9223372036854775807) (hn : many ≤ 9223372036854775807) :
    ∃ k, stanchionlaw01_DecRows.f k l s many most = some true := by
  have hle := row_len s many most
  refine ⟨s.size + 3, ?_⟩
  unfold stanchionlaw01_DecRows.f
  rw [shown_eq, bsm, row_some _ s many most (by omega) hs hm hn, bsm, refrow_some _ s many most (by omega) hs hm hn, bsm, same_self _ _ (by omega) (by omega), bsm, if_pos rfl, drow_some l hl hr, bsm, rrow_some l hl hr, bsm, if_pos rfl, if_pos rfl, if_pos rfl, beq_self_eq_true]
theorem back_at (l : List ByteArray) (m : ByteArray) (hl : l.length ≤ 4611686018427387904) (hr : (rowS l).size ≤ 70368744177664) (hs : (rowS l ++ m).size < 8796093022208) : ∀ (d i : Nat), l.length - i = d → i ≤ l.length → (∀ j (hj : j < l.length), j < i → (l[j].size : Int) ≤ 1073741824) →
    stanchionlaw01_DecRowBack.l0 (d + (rowS l ++ m).size + l.length + 3) l m true (i : Int) = some true := by
  intro d
  induction d with
  | zero =>
    intro i hd hi hall
    have e64 := two64_eq
    have hb := row_back l m (l.length : Int) 1073741824 (by omega) (by omega) (by
      intro t ht
      obtain ⟨j, hj, rfl⟩ := List.getElem_of_mem ht
      have := hall j hj (by omega)
      exact ⟨this, by omega⟩)
    have hsz : (rowS l).size + m.size = (rowS l ++ m).size := (ByteArray.size_append ..).symm
    rw [stanchionlaw01_DecRowBack.l0, if_neg (by omega), drow_some l hl hr, bsm, if_pos (by omega), row_some _ _ _ _ (by omega) hs (by omega) (by omega), bsm, hb, same_self _ _ hl (by omega), bsm, if_pos rfl, if_pos rfl, if_pos rfl]
    rfl
  | succ d ih =>
    intro i hd hi hall
    have hx : i < l.length := by omega
    have hw : wrap64 ((i : Int) + 1) = ((i + 1 : Nat) : Int) := by
      unfold wrap64
      omega
    have e : d + 1 + (rowS l ++ m).size + l.length + 3 = (d + (rowS l ++ m).size + l.length + 3) + 1 := by omega
    rw [e, stanchionlaw01_DecRowBack.l0, if_pos (by omega), if_pos (by omega), rd_at l i hx]
    by_cases hb : ((l[i]).size : Int) > 1073741824
    · rw [if_pos hb]
    · rw [if_neg hb, hw]
      refine ih (i + 1) (by omega) (by omega) fun j hj hji => ?_
      by_cases e : j = i
      · subst e
        omega
      · exact hall j hj (by omega)
theorem RowBack (l : List ByteArray) (m : ByteArray) (hl : l.length ≤ 4611686018427387904) (hr : (rowS l).size ≤ 70368744177664) (hs : (rowS l ++ m).size < 8796093022208) : ∃ k, stanchionlaw01_DecRowBack.f k l m = some true := by
  refine ⟨l.length - 0 + (rowS l ++ m).size + l.length + 3, ?_⟩
  unfold stanchionlaw01_DecRowBack.f
  rw [shown_eq, bsm]
  exact back_at l m hl hr hs _ 0 rfl (Nat.zero_le _) (fun j _ h => absurd h (Nat.not_lt_zero j))
theorem empty_list : ByteArray.empty.toList = [] := by
  unfold ByteArray.toList
  unfold ByteArray.toList.loop
  rfl
theorem in_row (l : List ByteArray) (t : ByteArray) (ht : t ∈ l) : t.size ≤ (rowS l).size := by
  obtain ⟨i, hi, rfl⟩ := List.getElem_of_mem ht
  have h1 := text_in_row l i hi
  have h2 := textS_size_le l[i]
  rw [rowS_size]
  omega
theorem Join (a b : List ByteArray) (ha : a.length ≤ 4611686018427387904) (hb : b.length ≤ 4611686018427387904) (hra : (rowS a).size ≤ 1073741824) (hrb : (rowS b).size ≤ 1073741824) : ∃ k, stanchionlaw01_DecJoin.f k a b = some true := by
  have e64 := two64_eq
  have hsz : (rowS a ++ rowS b).size = (rowS a).size + (rowS b).size := ByteArray.size_append ..
  refine ⟨(rowS a ++ rowS b).size + 10, ?_⟩
  unfold stanchionlaw01_DecJoin.f
  rw [shown_eq, bsm]
  by_cases h1 : (a.length : Int) > 1000
  · rw [if_pos h1, stanchionlaw01_DecJoin.j0, if_pos rfl]
  rw [if_neg h1, stanchionlaw01_DecJoin.j0]
  by_cases h2 : (b.length : Int) > 1000
  · rw [if_pos (decide_eq_true h2)]
  have t1 := row_back a (rowS b) 1000 1073741824 (by omega) (by omega) (fun t ht => by have := in_row a t ht; omega)
  have t2 := row_back b ByteArray.empty 1000 1073741824 (by omega) (by omega) (fun t ht => by have := in_row b t ht; omega)
  rw [ByteArray.append_empty] at t2
  rw [if_neg (by rw [decide_eq_true_iff]; exact h2), drow_some a ha (by omega), bsm, drow_some b hb (by omega), bsm, if_pos (by omega), row_some _ _ _ _ (by omega) (by omega) (by omega) (by omega), bsm, t1, row_some _ _ _ _ (by simp only []; omega) (by simp only []; omega) (by omega) (by omega), bsm, t2, if_pos rfl, if_pos rfl, if_pos rfl, if_pos empty_list, drow_some a ha (by omega), bsm, bsm, if_pos rfl, drow_some b hb (by omega), bsm, bsm, beq_self_eq_true, if_pos rfl, if_pos rfl]
end Go.Proofs.Ytjgnnjclglimfaa.DecPure
