/- The six laws on frames in plain Lean. -/
import Derived.Test.YtcepfdilbbbemaaGivFeed
import Derived.Test.YtcepfdilbbbemaaOpenRow
import Derived.Test.YtcepfdilbbbemaaQFrx
namespace Go.Proofs.Ytcepfdilbbbemaa.Fr
open Go Go.Proofs.Ytcepfdilbbbemaa.DecM Go.Proofs.Ytcepfdilbbbemaa.Giv Go.Proofs.Ytcepfdilbbbemaa.DecPure

theorem take_more {s : ByteArray} (m : ByteArray) (hz : (takeText s 2048).2.2 = 0) : takeText (s ++ m) 2048 = ((takeText s 2048).1, (takeText s 2048).2.1 ++ m, 0) := by
  obtain ⟨h1, h2, _⟩ := text_was s 2048 hz
  have e : s ++ m = textS (takeText s 2048).1 ++ ((takeText s 2048).2.1 ++ m) := by
    rw [← ByteArray.append_assoc, ← h1]
  rw [e, text_back _ _ _ (by omega), if_neg (by omega)]
theorem parts (m : ByteArray) : ∀ (k : Nat) (s : ByteArray), s.size < k → texts (s ++ m) = texts s ++ texts (rest s ++ m) ∧ rest (s ++ m) = rest (rest s ++ m) := by
  intro k
  induction k with
  | zero => intro s h; omega
  | succ k ih =>
    intro s h
    by_cases hz : (takeText s 2048).2.2 = 0
    · have hlt := text_lt s 2048 hz
      have e := take_more m hz
      have hz2 : (takeText (s ++ m) 2048).2.2 = 0 := by rw [e]
      obtain ⟨i1, i2⟩ := ih (takeText s 2048).2.1 (by omega)
      unfold texts at i1 ⊢
      rw [pairs_ok hz2, rest_ok hz2, pairs_ok hz, rest_ok hz, e]
      simp only [List.map_cons, List.cons_append]
      exact ⟨by rw [i1], i2⟩
    · unfold texts
      rw [pairs_no hz, rest_no hz]
      exact ⟨rfl, rfl⟩
theorem texts_app (s m : ByteArray) : texts (s ++ m) = texts s ++ texts (rest s ++ m) := (parts m _ s (Nat.lt_succ_self _)).1
theorem rest_app (s m : ByteArray) : rest (s ++ m) = rest (rest s ++ m) := (parts m _ s (Nat.lt_succ_self _)).2
theorem more_app (s m : ByteArray) : more (s ++ m) = more (rest s ++ m) := by
  unfold more
  rw [rest_app]
/-- Nothing is taken of what is left. -/
theorem rest_stop : ∀ (k : Nat) (s : ByteArray), s.size < k → ¬ (takeText (rest s) 2048).2.2 = 0 := by
  intro k
  induction k with
  | zero => intro s h; omega
  | succ k ih =>
    intro s h
    by_cases hz : (takeText s 2048).2.2 = 0
    · have hlt := text_lt s 2048 hz
      rw [rest_ok hz]
      exact ih _ (by omega)
    · rw [rest_no hz]
      exact hz
theorem rest_not (s : ByteArray) : ¬ (takeText (rest s) 2048).2.2 = 0 := rest_stop _ s (Nat.lt_succ_self _)
theorem vfrom_app_le (v : Nat) (a b : List UInt8) : vfrom v a ≤ vfrom v (a ++ b) := by
  rw [vfrom_append]
  exact vfrom_le b _
theorem nd_app (l m : List UInt8) : nd l < l.length → nd (l ++ m) = nd l := by
  intro h
  have h1 := nd_stop l h
  have e : l ++ m = l.takeWhile isD ++ (l.drop (nd l) ++ m) := by
    rw [← nd_take, ← List.append_assoc, List.take_append_drop]
  have hd : l.drop (nd l) = l[nd l] :: l.drop (nd l + 1) := List.drop_eq_getElem_cons h
  have h2 := takeWhile_all (l.takeWhile isD) (fun c hc => nd_digits l c (by rw [nd_take]; exact hc)) (l.drop (nd l) ++ m) (.inr ⟨l[nd l], l.drop (nd l + 1) ++ m, by rw [hd]; rfl, h1⟩)
  rw [e, h2]
  rfl
theorem nd_grow (l m : List UInt8) : nd l ≤ nd (l ++ m) := by
  by_cases h : nd l < l.length
  · rw [nd_app l m h]
    exact Nat.le_refl _
  · have hl : nd l = l.length := by have := nd_le l; omega
    have ha : ∀ c ∈ l, isD c = true := fun c hc => nd_digits l c (by rw [hl, List.take_length]; exact hc)
    unfold nd
    rw [List.takeWhile_append_of_pos ha, List.length_append]
    have := (List.takeWhile_prefix isD (l := l)).length_le
    omega
/-- Bytes that begin with no number begin with none, whatever comes behind. -/
theorem num_bad {s : ByteArray} (m : ByteArray) (h : (takeNum s).2.2 = 3) : (takeNum (s ++ m)).2.2 = 3 := by
  unfold takeNum at h ⊢
  simp only [] at h ⊢
  rw [data_append]
  generalize s.data.toList = l at h ⊢
  generalize m.data.toList = q
  have hg := nd_grow l q
  by_cases h20 : 20 < nd (l ++ q)
  · rw [if_pos h20]
  have h20' : ¬ 20 < nd l := by omega
  rw [if_neg h20] 
  rw [if_neg h20'] at h
  by_cases hc : (1 < nd l ∧ l[0]? = some 48) ∨ ¬ val (l.take (nd l)) < two64 ∨ (nd l < l.length ∧ (nd l = 0 ∨ ¬ l[nd l]? = some 59))
  · rw [if_pos]
    rcases hc with ⟨h1, h2⟩ | h1 | ⟨h1, h2⟩
    · refine .inl ⟨by omega, ?_⟩
      have h0 : 0 < l.length := by have := nd_le l; omega
      rw [List.getElem?_append_left h0]
      exact h2
    · refine .inr (.inl ?_)
      by_cases hl : nd l < l.length
      · rw [nd_app l q hl, List.take_append_of_le_length (nd_le l)]
        exact h1
      · have hl : nd l = l.length := by have := nd_le l; omega
        have e : (l ++ q).take (nd (l ++ q)) = l ++ q.take (nd (l ++ q) - l.length) := by
          rw [List.take_append, List.take_of_length_le (by omega)]
        rw [e]
        rw [hl, List.take_length] at h1
        have := vfrom_app_le 0 l (q.take (nd (l ++ q) - l.length))
        unfold val at h1 ⊢
        omega
    · refine .inr (.inr ?_)
      rw [nd_app l q h1, List.length_append, List.getElem?_append_left h1]
      exact ⟨by omega, h2⟩
  · rw [if_neg hc] at h
    by_cases he : nd l = l.length
    · rw [if_pos he] at h
      cases h
    · rw [if_neg he] at h
      cases h
theorem num_word (s : ByteArray) : (takeNum s).2.2 = 0 ∨ (takeNum s).2.2 = 2 ∨ (takeNum s).2.2 = 3 := by
  unfold takeNum
  simp only []
  split
  · exact .inr (.inr rfl)
  split
  · exact .inr (.inr rfl)
  split
  · exact .inr (.inl rfl)
  · exact .inl rfl
theorem num_more {s : ByteArray} (m : ByteArray) (h : (takeNum s).2.2 = 0) : takeNum (s ++ m) = ((takeNum s).1, (takeNum s).2.1 ++ m, 0) := by
  obtain ⟨n, e1, e2, e⟩ := take_was (s := s) (v := (takeNum s).1) (r := (takeNum s).2.1) (by rw [← h])
  have e3 : s ++ m = numS n ++ ((takeNum s).2.1 ++ m) := by rw [← ByteArray.append_assoc, ← e]
  rw [e3, take_back n e2, e1]
/-- An error that is no want of bytes stays. -/
theorem text_bad {s : ByteArray} (m : ByteArray) (h0 : ¬ (takeText s 2048).2.2 = 0) (h2 : ¬ (takeText s 2048).2.2 = 2) : ¬ (takeText (s ++ m) 2048).2.2 = 0 ∧ ¬ (takeText (s ++ m) 2048).2.2 = 2 := by
  unfold takeText at h0 h2 ⊢
  by_cases hz : (takeNum s).2.2 = 0
  · have e := num_more m hz
    rw [if_neg (by simpa using hz)] at h0 h2
    rw [e]
    simp only [not_true_eq_false, if_false]
    by_cases h4 : (2048 : Int) < 0 ∨ (takeNum s).1 > 2048
    · rw [if_pos h4]
      exact ⟨by decide, by decide⟩
    · rw [if_neg h4] at h0 h2
      by_cases h5 : (takeNum s).1 > (takeNum s).2.1.size
      · rw [if_pos h5] at h2
        exact absurd rfl h2
      · rw [if_neg h5] at h0
        exact absurd rfl h0
  · rw [if_pos hz] at h0 h2
    have h3 : (takeNum s).2.2 = 3 := by
      rcases num_word s with h | h | h
      · exact absurd h h0
      · exact absurd h h2
      · exact h
    have h4 := num_bad m h3
    rw [if_pos (by rw [h4]; decide)]
    simp only [h4]
    exact ⟨by decide, by decide⟩
/-- What waits for more bytes is short. -/
theorem wait_short {s : ByteArray} (h : (takeText s 2048).2.2 = 2) : s.size ≤ 2053 := by
  unfold takeText at h
  by_cases hz : (takeNum s).2.2 = 0
  · obtain ⟨n, e1, e2, e⟩ := take_was (s := s) (v := (takeNum s).1) (r := (takeNum s).2.1) (by rw [← hz])
    rw [if_neg (by simpa using hz)] at h
    by_cases h4 : (2048 : Int) < 0 ∨ (takeNum s).1 > 2048
    · rw [if_pos h4] at h
      cases h
    · rw [if_neg h4] at h
      by_cases h5 : (takeNum s).1 > (takeNum s).2.1.size
      · have hsz : s.size = (numS n).size + (takeNum s).2.1.size := by
          conv => lhs; rw [e]
          exact ByteArray.size_append ..
        have hn : (numS n).size ≤ 5 := by
          have h1 := numL_len 3 n (by omega)
          unfold numS
          rw [strOfNums_size, List.length_append]
          simp
          omega
        omega
      · rw [if_neg h5] at h
        cases h
  · rw [if_pos hz] at h
    simp only [] at h
    unfold takeNum at h
    simp only [] at h
    by_cases h20 : 20 < nd s.data.toList
    · rw [if_pos h20] at h
      cases h
    rw [if_neg h20] at h
    split at h
    · cases h
    split at h
    · rename_i hn
      rw [len_size] at hn
      omega
    · cases h
theorem data_inj {a b : ByteArray} (h : a.data.toList = b.data.toList) : a = b := bytes_ext h
theorem textS_inj {a b : ByteArray} (ha : a.size ≤ 2048) (hb : b.size ≤ 2048) (h : textS a = textS b) : a = b := by
  have e1 := text_back a ByteArray.empty 2048 (by omega)
  have e2 := text_back b ByteArray.empty 2048 (by omega)
  rw [if_neg (by omega), ByteArray.append_empty] at e1 e2
  rw [h, e2] at e1
  exact ((Prod.mk.inj e1).1).symm
/-- No beginning of a frame is one. -/
theorem text_cut (t : ByteArray) (ht : t.size ≤ 2048) (c : Nat) (hc : c < (textS t).size) : (takeText ((textS t).extract 0 c) 2048).2.2 = 2 := by
  have e64 := two64_eq
  have hsz : (textS t).size = (numS t.size).size + t.size := by
    unfold textS
    rw [ByteArray.size_append]
  by_cases h : c < (numS t.size).size
  · have e : (textS t).extract 0 c = (numS t.size).extract 0 c := by
      unfold textS
      exact extract_left _ _ _ (by omega)
    have e2 := take_cut t.size (by omega) c h
    rw [e]
    unfold takeText
    rw [e2, if_pos (by decide)]
  · have e : (textS t).extract 0 c = numS t.size ++ t.extract 0 (c - (numS t.size).size) := by
      unfold textS
      exact extract_right _ _ _ (by omega)
    rw [e]
    unfold takeText
    rw [take_back t.size (by omega)]
    simp only [not_true_eq_false, if_false]
    rw [if_neg (by omega), if_pos (by rw [ByteArray.size_extract]; omega)]
theorem texts_frame (t m : ByteArray) (ht : t.size ≤ 2048) : texts (textS t ++ m) = t :: texts m ∧ rest (textS t ++ m) = rest m := by
  have e := text_back t m 2048 (by omega)
  rw [if_neg (by omega)] at e
  have hz : (takeText (textS t ++ m) 2048).2.2 = 0 := by rw [e]
  unfold texts
  rw [pairs_ok hz, rest_ok hz, e]
  exact ⟨rfl, rfl⟩
theorem empty_wait : (takeText ByteArray.empty 2048).2.2 = 2 := by
  have h : takeNum ByteArray.empty = (0, ByteArray.empty, 2) := by
    have e64 := two64_eq
    have : ByteArray.empty.data.toList = [] := rfl
    unfold takeNum
    simp only [this]
    have hv : val (([] : List UInt8).take (nd [])) < two64 := by
      rw [List.take_nil]
      show 0 < two64
      omega
    rw [if_neg (by simp [nd]), if_neg, if_pos (show nd ([] : List UInt8) = ([] : List UInt8).length from rfl)]
    rintro (⟨h, _⟩ | h | ⟨h, _⟩)
    · simp [nd] at h
    · exact h hv
    · simp [nd] at h
  unfold takeText
  rw [h, if_pos (by decide)]
theorem empty_all : texts ByteArray.empty = [] ∧ rest ByteArray.empty = ByteArray.empty ∧ more ByteArray.empty = true := by
  have hz : ¬ (takeText ByteArray.empty 2048).2.2 = 0 := by rw [empty_wait]; decide
  refine ⟨?_, rest_no hz, ?_⟩
  · unfold texts
    rw [pairs_no hz]
    rfl
  · unfold more
    rw [rest_no hz, empty_wait]
    rfl
theorem texts_len (s : ByteArray) : (texts s).length + (rest s).size ≤ s.size := by
  unfold texts
  rw [List.length_map]
  exact pairs_len _ s (Nat.lt_succ_self _)
end Go.Proofs.Ytcepfdilbbbemaa.Fr
namespace Go.Proofs.Ytcepfdilbbbemaa.FrP
open Go Go.RowKit Go.Proofs.Ytcepfdilbbbemaa.DecM Go.Proofs.Ytcepfdilbbbemaa.Giv Go.Proofs.Ytcepfdilbbbemaa.DecPure Go.Proofs.Ytcepfdilbbbemaa.Fr Go.Proofs.Ytcepfdilbbbemaa.QFr Go.Proofs.Ytcepfdilbbbemaa.OpenRow Go.Proofs.YtcepfdilbbbemaaW.PrintWords Go.Proofs.YtcepfdilbbbemaaW.PrintLast

theorem bsm {α β : Type} (a : α) (f : α → Option β) : (some a).bind f = f a := Eq.trans (Option.bind_some a f) (Eq.refl _)
theorem rd_text (l : List ByteArray) (i : Nat) (hi : i < l.length) : rdOf ByteArray.empty l (i : Int) = l[i] := by
  unfold rdOf
  simp [List.getElem?_eq_getElem hi]
theorem empty_lit : (⟨#[]⟩ : ByteArray) = ByteArray.empty := rfl
theorem empty_list : ByteArray.empty.toList = [] := by
  unfold ByteArray.toList
  unfold ByteArray.toList.loop
  rfl
theorem same_at (l : List ByteArray) (hl : l.length ≤ 4611686018427387904) : ∀ (k i : Nat), l.length - i < k → i ≤ l.length → stanchionref01_Same.l0 k l l (i : Int) = some true := by
  intro k
  induction k with
  | zero => intro i h; omega
  | succ k ih =>
    intro i h hi
    rw [stanchionref01_Same.l0]
    by_cases hx : (i : Int) < (l.length : Int)
    · have hw : wrap64 ((i : Int) + 1) = ((i + 1 : Nat) : Int) := by
        unfold wrap64
        omega
      rw [if_pos hx, if_pos (by omega), if_pos hx, if_pos rfl, hw, ih (i + 1) (by omega) (by omega)]
    · rw [if_neg hx]
theorem same_self (k : Nat) (l : List ByteArray) (hl : l.length ≤ 4611686018427387904) (hk : l.length < k) : stanchionref01_Same.f k l l = some true := by
  unfold stanchionref01_Same.f
  rw [if_pos rfl]
  exact same_at l hl k 0 (by omega) (by omega)
theorem whole_some (s : ByteArray) (h : s.size ≤ 1099511627776) : frame_Whole.f s = some (texts s, (s.size : Int) - ((rest s).size : Int), more s) := by
  unfold frame_Whole.f
  rw [if_pos h]
theorem feed_some (r c : ByteArray) (h : r.size + c.size ≤ 1099511627776) : frame_Feed.f r false c = if more (r ++ c) = true then some (rest (r ++ c), false, texts (r ++ c), 0) else some (ByteArray.empty, true, texts (r ++ c), 3) := by
  unfold frame_Feed.f
  rw [if_neg (by decide), if_pos h]
theorem feed_none (r c : ByteArray) : frame_Feed.f r true c = some (r, true, [], 9) := by
  unfold frame_Feed.f
  rw [if_pos rfl]
theorem suffix_at {x cur p r : ByteArray} {a : Nat} (h : x.extract a x.size = cur) (h2 : cur = p ++ r) (h3 : a + cur.size = x.size) : x.extract (x.size - r.size) x.size = r ∧ r.size ≤ cur.size := by
  have hs : cur.size = p.size + r.size := by rw [h2, ByteArray.size_append]
  refine ⟨?_, by omega⟩
  apply bytes_ext
  have e : cur.data.toList = x.data.toList.drop a := by rw [← h, ext_from]
  have e2 : r.data.toList = cur.data.toList.drop p.size := by
    rw [h2, data_append]
    have : p.size = p.data.toList.length := (len_size p).symm
    rw [this, List.drop_left]
  rw [ext_from, e2, e, List.drop_drop]
  congr 1
  omega
theorem refwhole_at (x : ByteArray) (hx : x.size ≤ 1099511627776) : ∀ (k : Nat) (cur : ByteArray) (a : Nat) (acc : List ByteArray), x.extract a x.size = cur → a + cur.size = x.size → cur.size < k → acc.length + cur.size ≤ x.size →
    stanchionref14_Whole.l0 k x acc (a : Int) = some (acc ++ texts cur, (x.size : Int) - ((rest cur).size : Int), more cur) := by
  intro k
  induction k with
  | zero => intro cur a acc _ _ h; omega
  | succ k ih =>
    intro cur a acc h1 h2 h3 h4
    rw [stanchionref14_Whole.l0, if_pos (by omega), if_pos (by omega), Int.toNat_natCast, h1]
    have ht : stanchionref01_TakeText.f cur 2048 = some (takeText cur 2048) := by
      unfold stanchionref01_TakeText.f
      rw [if_pos ⟨by omega, by omega⟩]
    rw [ht, bsm]
    by_cases hz : (takeText cur 2048).2.2 = 0
    · have hlt := text_lt cur 2048 hz
      obtain ⟨s1, s2⟩ := suffix_at h1 (text_was cur 2048 hz).1 h2
      have hw : wrap64 ((x.size : Int) - ((takeText cur 2048).2.1.size : Int)) = ((x.size - (takeText cur 2048).2.1.size : Nat) : Int) := by
        unfold wrap64
        omega
      rw [if_pos hz, if_pos (by omega), hw, ih _ _ _ s1 (by omega) (by omega) (by rw [List.length_append, List.length_singleton]; omega)]
      have e1 : texts cur = (takeText cur 2048).1 :: texts (takeText cur 2048).2.1 := by
        unfold texts
        rw [pairs_ok hz]
        rfl
      have e2 : more cur = more (takeText cur 2048).2.1 := by
        unfold more
        rw [rest_ok hz]
      rw [e1, e2, rest_ok hz, List.append_assoc]
      rfl
    · have e1 : texts cur = [] := by
        unfold texts
        rw [pairs_no hz]
        rfl
      have e2 : more cur = ((takeText cur 2048).2.2 == 2) := by
        unfold more
        rw [rest_no hz]
      rw [if_neg hz, e1, e2, rest_no hz, List.append_nil]
      have e3 : (a : Int) = (x.size : Int) - (cur.size : Int) := by omega
      rw [e3]
theorem refwhole_some (k : Nat) (s : ByteArray) (h : s.size ≤ 1099511627776) (hk : s.size < k) : stanchionref14_Whole.f k s = some (texts s, (s.size : Int) - ((rest s).size : Int), more s) := by
  unfold stanchionref14_Whole.f
  have e : s.extract 0 s.size = s := by
    apply bytes_ext
    rw [ext_from, List.drop_zero]
  have h1 := refwhole_at s h k s 0 [] e (by omega) hk (by rw [List.length_nil]; omega)
  rw [List.nil_append] at h1
  exact h1
theorem two_data : (textS (⟨#[97, 98]⟩ : ByteArray)).data.toList = [50, 59, 97, 98] := by
  unfold textS
  rw [data_append, numS_data, show (⟨#[97, 98]⟩ : ByteArray).size = 2 from rfl, figL_small (by omega)]
  rfl
theorem one_data : (textS (⟨#[99]⟩ : ByteArray)).data.toList = [49, 59, 99] := by
  unfold textS
  rw [data_append, numS_data, show (⟨#[99]⟩ : ByteArray).size = 1 from rfl, figL_small (by omega)]
  rfl
theorem shown_eq : stanchionlaw14_shown.f = some true := by
  have e1 : (⟨#[50, 59, 97]⟩ : ByteArray) = (textS (⟨#[97, 98]⟩ : ByteArray)).extract 0 3 := by
    apply bytes_ext
    rw [ext_upto, two_data]
    rfl
  have e2 : (⟨#[50, 59, 97]⟩ : ByteArray) ++ (⟨#[98, 49, 59, 99]⟩ : ByteArray) = textS (⟨#[97, 98]⟩ : ByteArray) ++ (textS (⟨#[99]⟩ : ByteArray) ++ ByteArray.empty) := by
    apply bytes_ext
    rw [ByteArray.append_empty, data_append, data_append, two_data, one_data]
    rfl
  have hc : 3 < (textS (⟨#[97, 98]⟩ : ByteArray)).size := by
    rw [← len_size, two_data]
    decide
  have h2 : (takeText (⟨#[50, 59, 97]⟩ : ByteArray) 2048).2.2 = 2 := by
    rw [e1]
    exact text_cut _ (by decide) 3 hc
  have hz : ¬ (takeText (⟨#[50, 59, 97]⟩ : ByteArray) 2048).2.2 = 0 := by rw [h2]; decide
  have t1 : texts (⟨#[50, 59, 97]⟩ : ByteArray) = [] := by
    unfold texts
    rw [pairs_no hz]
    rfl
  have r1 := rest_no hz
  have m1 : more (⟨#[50, 59, 97]⟩ : ByteArray) = true := by
    unfold more
    rw [r1, h2]
    rfl
  obtain ⟨a1, a2⟩ := texts_frame (⟨#[97, 98]⟩ : ByteArray) (textS (⟨#[99]⟩ : ByteArray) ++ ByteArray.empty) (by decide)
  obtain ⟨b1, b2⟩ := texts_frame (⟨#[99]⟩ : ByteArray) ByteArray.empty (by decide)
  obtain ⟨c1, c2, c3⟩ := empty_all
  have t2 : texts ((⟨#[50, 59, 97]⟩ : ByteArray) ++ (⟨#[98, 49, 59, 99]⟩ : ByteArray)) = [⟨#[97, 98]⟩, ⟨#[99]⟩] := by rw [e2, a1, b1, c1]
  have r2 : rest ((⟨#[50, 59, 97]⟩ : ByteArray) ++ (⟨#[98, 49, 59, 99]⟩ : ByteArray)) = ByteArray.empty := by rw [e2, a2, b2, c2]
  have m2 : more ((⟨#[50, 59, 97]⟩ : ByteArray) ++ (⟨#[98, 49, 59, 99]⟩ : ByteArray)) = true := by
    unfold more
    rw [r2, empty_wait]
    rfl
  unfold stanchionlaw14_shown.f
  rw [feed_some _ _ (by decide), empty_lit, ByteArray.empty_append, if_pos m1, bsm, t1, r1]
  simp only []
  rw [feed_some _ _ (by decide), if_pos m2, bsm, t2, r2]
  have l1 : (⟨#[97, 98]⟩ : ByteArray).toList = [97, 98] := by rw [Lib.toList_data]
  have l2 : (⟨#[99]⟩ : ByteArray).toList = [99] := by rw [Lib.toList_data]
  simp [rdOf, l1, l2]
/-! ### FrameOne -/
theorem one_at (m l p : List ByteArray) (hm : m = l ++ p) (hl : m.length ≤ 4611686018427387904) : ∀ (k i : Nat), m.length - i < k → i ≤ m.length → stanchionlaw14_FrameOne.l0 k true l m p (i : Int) = some true := by
  intro k
  induction k with
  | zero => intro i h; omega
  | succ k ih =>
    intro i h hi
    have hlen : m.length = l.length + p.length := by rw [hm, List.length_append]
    rw [stanchionlaw14_FrameOne.l0]
    by_cases hx : (i : Int) < (m.length : Int)
    · have hw : wrap64 ((i : Int) + 1) = ((i + 1 : Nat) : Int) := by
        unfold wrap64
        omega
      have hn := ih (i + 1) (by omega) (by omega)
      rw [if_pos hx, rd_text m i (by omega), hw]
      by_cases hil : (i : Int) < (l.length : Int)
      · have e : m[i]'(by omega) = l[i]'(by omega) := by
          subst hm
          exact List.getElem_append_left (by omega)
        rw [if_pos hil, if_pos (by omega), rd_text l i (by omega), e, if_pos rfl, if_neg (by omega), hn]
      · have hw2 : wrap64 ((i : Int) - (l.length : Int)) = ((i - l.length : Nat) : Int) := by
          unfold wrap64
          omega
        have e : m[i]'(by omega) = p[i - l.length]'(by omega) := by
          subst hm
          exact List.getElem_append_right (by omega)
        rw [if_neg hil, if_pos (by omega), hw2, if_pos (by omega), if_pos (by omega), if_pos (by omega), rd_text p _ (by omega), e, if_pos rfl, hn]
    · rw [if_neg hx]
theorem One (s m : ByteArray) (h1 : s.size ≤ 1048576) (h2 : m.size ≤ 1048576) : ∃ k, stanchionlaw14_FrameOne.f k s m = some true := by
  have hr := rest_size s
  have hl1 := texts_len s
  have hl2 := texts_len m
  refine ⟨s.size + m.size + 10, ?_⟩
  unfold stanchionlaw14_FrameOne.f
  rw [shown_eq, bsm, whole_some s (by omega), bsm]
  by_cases hn : (s.size : Int) - ((rest s).size : Int) = (s.size : Int)
  · have e : rest s = ByteArray.empty := by
      apply bytes_ext
      have : (rest s).data.toList.length = 0 := by rw [len_size]; omega
      rw [List.eq_nil_of_length_eq_zero this]
      rfl
    have et : texts (s ++ m) = texts s ++ texts m := by rw [texts_app, e, ByteArray.empty_append]
    have er : rest (s ++ m) = rest m := by rw [rest_app, e, ByteArray.empty_append]
    have em : more (s ++ m) = more m := by rw [more_app, e, ByteArray.empty_append]
    have hsz : (s ++ m).size = s.size + m.size := ByteArray.size_append ..
    rw [if_pos hn, if_pos (by omega), whole_some (s ++ m) (by omega), bsm, refwhole_some _ m (by omega) (by omega), bsm]
    simp only []
    rw [et, er, em, hsz]
    have hr2 := rest_size m
    have w1 : wrap64 (((texts s).length : Int) + ((texts m).length : Int)) = (((texts s ++ texts m).length : Nat) : Int) := by
      rw [List.length_append]
      unfold wrap64
      omega
    have w2 : wrap64 ((s.size : Int) - ((rest s).size : Int) + ((m.size : Int) - ((rest m).size : Int))) = ((s.size + m.size : Nat) : Int) - ((rest m).size : Int) := by
      unfold wrap64
      omega
    rw [w1, if_pos rfl, w2, if_pos rfl, bne_self_eq_false, stanchionlaw14_FrameOne.j0, if_neg (by decide)]
    exact one_at _ _ _ rfl (by rw [List.length_append]; omega) _ 0 (by rw [List.length_append]; omega) (by omega)
  · rw [if_neg hn]
/-! ### FrameApart -/
theorem wrap_some (s : ByteArray) : frame_Wrap.f s = if (s.size : Int) > 2048 then some (ByteArray.empty, 4) else some (textS s, 0) := by
  unfold frame_Wrap.f
  by_cases h : (s.size : Int) > 2048
  · rw [if_pos h, if_pos h, empty_lit]
  · rw [if_neg h, if_neg h]
    unfold dec_Text.f
    rw [if_pos (by omega), bsm]
theorem refwrap_some (s : ByteArray) : stanchionref14_Wrap.f s = if (s.size : Int) > 2048 then some (ByteArray.empty, 4) else some (textS s, 0) := by
  unfold stanchionref14_Wrap.f
  by_cases h : (s.size : Int) > 2048
  · rw [if_pos h, if_pos h, empty_lit]
  · rw [if_neg h, if_neg h]
    unfold stanchionref01_Text.f
    rw [if_pos (by omega), bsm]
theorem list_data (a : ByteArray) : a.toList = a.data.toList := Lib.toList_data a
theorem Apart (a b : ByteArray) (cut : Int) (h1 : a.size ≤ 140737488351232) (h2 : b.size ≤ 140737488351232) : ∃ k, stanchionlaw14_FrameApart.f k a b cut = some true := by
  refine ⟨2, ?_⟩
  unfold stanchionlaw14_FrameApart.f
  rw [shown_eq, bsm, wrap_some, wrap_some]
  by_cases ha : (a.size : Int) > 2048
  · rw [if_pos ha, bsm]
    by_cases hb : (b.size : Int) > 2048
    · rw [if_pos hb, bsm, if_neg (by decide), stanchionlaw14_FrameApart.j0, if_pos rfl]
    · rw [if_neg hb, bsm, if_neg (by decide), stanchionlaw14_FrameApart.j0, if_pos rfl]
  · rw [if_neg ha, bsm]
    by_cases hb : (b.size : Int) > 2048
    · rw [if_pos hb, bsm, if_pos rfl, stanchionlaw14_FrameApart.j0, if_pos (by decide)]
    · rw [if_neg hb, bsm, if_pos rfl, stanchionlaw14_FrameApart.j0]
      simp only [bne_self_eq_false]
      rw [if_neg (by decide)]
      have e : ((textS a).toList == (textS b).toList) = (a.toList == b.toList) := by
        by_cases hab : a = b
        · subst hab
          rw [beq_self_eq_true, beq_self_eq_true]
        · have n1 : ¬ a.toList = b.toList := by
            rw [list_data, list_data]
            exact fun h => hab (bytes_ext h)
          have n2 : ¬ (textS a).toList = (textS b).toList := by
            rw [list_data, list_data]
            exact fun h => hab (textS_inj (by omega) (by omega) (bytes_ext h))
          rw [beq_eq_false_iff_ne.mpr n1, beq_eq_false_iff_ne.mpr n2]
      rw [e, bne_self_eq_false, if_neg (by decide)]
      have hz := numS_size a.size (by omega)
      have hts : (textS a).size = (numS a.size).size + a.size := by
        unfold textS
        rw [ByteArray.size_append]
      by_cases hc : cut < 0
      · rw [if_pos hc]
      · rw [if_neg hc]
        by_cases hc2 : cut ≥ ((textS a).size : Int)
        · rw [if_pos hc2]
        · rw [if_neg hc2, if_pos (by omega), if_pos (by omega)]
          have hw := text_cut a (by omega) cut.toNat (by omega)
          have hn : ¬ (takeText ((textS a).extract 0 cut.toNat) 2048).2.2 = 0 := by rw [hw]; decide
          have t1 : texts ((textS a).extract 0 cut.toNat) = [] := by
            unfold texts
            rw [pairs_no hn]
            rfl
          have m1 : more ((textS a).extract 0 cut.toNat) = true := by
            unfold more
            rw [rest_no hn, hw]
            rfl
          rw [whole_some _ (by rw [ByteArray.size_extract]; omega), bsm, rest_no hn, t1, m1]
          simp
/-! ### FrameBack -/
theorem back_at (l : List ByteArray) (hl : rowBulk l ≤ 1048576) : ∀ (d i : Nat) (x : ByteArray), l.length - i = d → i ≤ l.length → x.size + 22 * rowBulk (l.drop i) ≤ 22 * rowBulk l → (∀ m, texts (x ++ m) = l.take i ++ texts m ∧ rest (x ++ m) = rest m) →
    stanchionlaw14_FrameBack.l0 (d + l.length + 3) l true x (i : Int) = some true := by
  have hll := rowBulk_len l
  intro d
  induction d with
  | zero =>
    intro i x hd hi hs hx
    have e : i = l.length := by omega
    subst e
    obtain ⟨t1, r1⟩ := hx ByteArray.empty
    obtain ⟨c1, c2, c3⟩ := empty_all
    rw [ByteArray.append_empty, List.take_length, c1, List.append_nil] at t1
    rw [ByteArray.append_empty, c2] at r1
    have m1 : more x = true := by
      unfold more
      rw [r1, empty_wait]
      rfl
    rw [stanchionlaw14_FrameBack.l0, if_neg (by omega), feed_some _ _ (by show 0 + x.size ≤ _; omega), empty_lit, ByteArray.empty_append, if_pos m1, bsm, t1, r1, same_self _ l (by omega) (by omega), bsm, if_pos rfl, if_pos rfl, if_pos rfl, empty_list]
    rfl
  | succ d ih =>
    intro i x hd hi hs hx
    have hlt : i < l.length := by omega
    have hw : wrap64 ((i : Int) + 1) = ((i + 1 : Nat) : Int) := by
      unfold wrap64
      omega
    have ek : d + 1 + l.length + 3 = (d + l.length + 3) + 1 := by omega
    rw [ek, stanchionlaw14_FrameBack.l0, if_pos (by omega), if_pos (by omega), rd_text l i hlt, wrap_some]
    by_cases hb : ((l[i]).size : Int) > 2048
    · rw [if_pos hb, bsm, if_neg (by decide), if_pos rfl, decide_eq_true hb]
    · have hz := numS_size (l[i]).size (by omega)
      have hts : (textS l[i]).size = (numS (l[i]).size).size + (l[i]).size := by
        unfold textS
        rw [ByteArray.size_append]
      have hdr : rowBulk (l.drop i) = (l[i]).size + 1 + rowBulk (l.drop (i + 1)) := by
        rw [List.drop_eq_getElem_cons hlt, rowBulk]
      rw [if_neg hb, bsm]
      dsimp only
      rw [if_pos rfl, if_pos (by omega), hw]
      refine ih (i + 1) (x ++ textS l[i]) (by omega) (by omega) (by rw [ByteArray.size_append]; omega) fun m => ?_
      obtain ⟨t1, r1⟩ := hx (textS l[i] ++ m)
      obtain ⟨t2, r2⟩ := texts_frame l[i] m (by omega)
      rw [ByteArray.append_assoc, t1, r1, t2, r2, List.take_succ_eq_append_getElem hlt, List.append_assoc]
      exact ⟨rfl, rfl⟩
theorem Back (l : List ByteArray) (hl : rowBulk l ≤ 1048576) : ∃ k, stanchionlaw14_FrameBack.f k l = some true := by
  refine ⟨l.length - 0 + l.length + 3, ?_⟩
  unfold stanchionlaw14_FrameBack.f
  rw [shown_eq, bsm]
  refine back_at l hl _ 0 _ rfl (Nat.zero_le _) (by show 0 + _ ≤ _; rw [List.drop_zero]; omega) fun m => ?_
  rw [empty_lit, ByteArray.empty_append]
  exact ⟨rfl, rfl⟩
/-! ### FrameSmall -/
theorem more_size {s : ByteArray} (h : more s = true) : (rest s).size ≤ 2053 := by
  unfold more at h
  exact wait_short (by simpa using h)
theorem small_at (l : List ByteArray) (hl : rowBulk l ≤ 1048576) : ∀ (d i : Nat) (r : ByteArray) (b : Bool), l.length - i = d → i ≤ l.length → r.size ≤ 2053 → stanchionlaw14_FrameSmall.l0 (d + 1) l true (i : Int) r b = some true := by
  have hll := rowBulk_len l
  intro d
  induction d with
  | zero =>
    intro i r b hd hi hr
    rw [stanchionlaw14_FrameSmall.l0, if_neg (by omega)]
  | succ d ih =>
    intro i r b hd hi hr
    have hlt : i < l.length := by omega
    have hw : wrap64 ((i : Int) + 1) = ((i + 1 : Nat) : Int) := by
      unfold wrap64
      omega
    have hm := rowBulk_mem l l[i] (List.getElem_mem hlt)
    rw [stanchionlaw14_FrameSmall.l0, if_pos (by omega), if_pos (by omega), rd_text l i hlt, hw]
    cases b with
    | true =>
      rw [feed_none, bsm]
      dsimp only
      rw [if_neg (by omega)]
      exact ih (i + 1) _ _ (by omega) (by omega) hr
    | false =>
      rw [feed_some _ _ (by omega)]
      by_cases hmo : more (r ++ l[i]) = true
      · have hs := more_size hmo
        rw [if_pos hmo, bsm]
        dsimp only
        rw [if_neg (by omega)]
        exact ih (i + 1) _ _ (by omega) (by omega) hs
      · have h0 : (ByteArray.empty.size : Int) = 0 := rfl
        rw [if_neg hmo, bsm]
        dsimp only
        rw [if_neg (by omega)]
        exact ih (i + 1) _ _ (by omega) (by omega) (Nat.zero_le _)
theorem Small (l : List ByteArray) (hl : rowBulk l ≤ 1048576) : ∃ k, stanchionlaw14_FrameSmall.f k l = some true := by
  refine ⟨l.length - 0 + 1, ?_⟩
  unfold stanchionlaw14_FrameSmall.f
  rw [shown_eq, bsm]
  exact small_at l hl _ 0 _ _ rfl (Nat.zero_le _) (Nat.zero_le _)
/-! ### FrameFeeds -/
theorem reffeed_some (k : Nat) (r c : ByteArray) (b : Bool) (h : r.size + c.size ≤ 1099511627776) (hk : r.size + c.size < k) : stanchionref14_Feed.f k r b c = frame_Feed.f r b c := by
  unfold stanchionref14_Feed.f frame_Feed.f
  cases b with
  | true => rw [if_pos rfl, if_pos rfl]
  | false =>
    have hsz : (r ++ c).size = r.size + c.size := ByteArray.size_append ..
    have hrs := rest_size (r ++ c)
    have hrd := rest_data (r ++ c)
    rw [if_neg Bool.false_ne_true, if_neg Bool.false_ne_true, if_pos (by omega), if_pos h, refwhole_some k _ (by omega) (by omega), bsm]
    dsimp only
    by_cases hm : more (r ++ c) = true
    · rw [if_pos hm, if_pos hm, if_pos (by omega), if_pos (by rw [hsz]; omega)]
      have e : (r ++ c).extract (((r ++ c).size : Int) - ((rest (r ++ c)).size : Int)).toNat (r.size + c.size) = rest (r ++ c) := by
        rw [← hsz]
        apply bytes_ext
        rw [ext_from, hrd]
        congr 1
        omega
      rw [e]
    · rw [if_neg hm, if_neg hm, empty_lit]
theorem feed_is (r c : ByteArray) (b : Bool) (h : r.size + c.size ≤ 1099511627776) : ∃ r1 b1 l1 z1, frame_Feed.f r b c = some (r1, b1, l1, z1) ∧ l1.length ≤ r.size + c.size := by
  cases b with
  | true => exact ⟨_, _, _, _, feed_none r c, Nat.zero_le _⟩
  | false =>
    have hl := texts_len (r ++ c)
    rw [ByteArray.size_append] at hl
    rw [feed_some r c h]
    by_cases hm : more (r ++ c) = true
    · rw [if_pos hm]
      exact ⟨_, _, _, _, rfl, by omega⟩
    · rw [if_neg hm]
      exact ⟨_, _, _, _, rfl, by omega⟩
theorem Feeds (r : ByteArray) (b : Bool) (s : ByteArray) (h1 : r.size ≤ 1048576) (h2 : s.size ≤ 1048576) : ∃ k, stanchionlaw14_FrameFeeds.f k r b s = some true := by
  have hl := texts_len s
  refine ⟨r.size + s.size + 5, ?_⟩
  obtain ⟨r1, b1, l1, z1, hf, hl1⟩ := feed_is r s b (by omega)
  have hrf := reffeed_some (r.size + s.size + 5) r s b (by omega) (by omega)
  obtain ⟨x, e, hx⟩ : ∃ x e, frame_Wrap.f s = some (x, e) ∧ stanchionref14_Wrap.f s = some (x, e) := by
    rw [wrap_some, refwrap_some]
    by_cases h : (s.size : Int) > 2048
    · rw [if_pos h]
      exact ⟨_, _, rfl, rfl⟩
    · rw [if_neg h]
      exact ⟨_, _, rfl, rfl⟩
  unfold stanchionlaw14_FrameFeeds.f
  rw [shown_eq, bsm, hx.1, bsm, hx.2, bsm, whole_some s (by omega), bsm, refwhole_some _ s (by omega) (by omega), bsm, hf, bsm, hrf, hf, bsm, same_self _ _ (by simp only []; omega) (by simp only []; omega), bsm, if_pos rfl, same_self _ _ (by simp only []; omega) (by simp only []; omega), bsm, if_pos rfl, if_pos rfl, if_pos rfl, if_pos rfl, if_pos rfl]
  simp
/-! ### FramePieces -/
/-- The buffer behind bytes. -/
def St (p : ByteArray) : ByteArray × Bool := if more p = true then (rest p, false) else (ByteArray.empty, true)
theorem st_yes {p : ByteArray} (h : more p = true) : St p = (rest p, false) := by
  unfold St
  rw [if_pos h]
theorem st_no {p : ByteArray} (h : ¬ more p = true) : St p = (ByteArray.empty, true) := by
  unfold St
  rw [if_neg h]
theorem feed_step (p c : ByteArray) (h : p.size + c.size ≤ 1099511627776) : ∃ t z, frame_Feed.f (St p).1 (St p).2 c = some ((St (p ++ c)).1, (St (p ++ c)).2, t, z) ∧ texts p ++ t = texts (p ++ c) ∧ (z == 0) = more (p ++ c) := by
  have hr := rest_size p
  by_cases hm : more p = true
  · rw [st_yes hm]
    simp only []
    rw [feed_some _ _ (by omega), ← more_app, ← rest_app]
    by_cases hm2 : more (p ++ c) = true
    · rw [if_pos hm2, st_yes hm2]
      exact ⟨_, _, rfl, (texts_app p c).symm, by rw [hm2]; rfl⟩
    · rw [if_neg hm2, st_no hm2]
      exact ⟨_, _, rfl, (texts_app p c).symm, by rw [Bool.eq_false_iff.mpr hm2]; rfl⟩
  · have h0 := rest_not p
    have h2 : ¬ (takeText (rest p) 2048).2.2 = 2 := by
      intro h
      apply hm
      unfold more
      rw [h]
      rfl
    obtain ⟨g0, g2⟩ := text_bad c h0 h2
    have t1 : texts (rest p ++ c) = [] := by
      unfold texts
      rw [pairs_no g0]
      rfl
    have hm2 : ¬ more (p ++ c) = true := by
      rw [more_app]
      unfold more
      rw [rest_no g0]
      simpa using g2
    rw [st_no hm, st_no hm2]
    simp only []
    refine ⟨[], 9, feed_none _ _, ?_, by rw [Bool.eq_false_iff.mpr hm2]; rfl⟩
    rw [texts_app, t1]
theorem cut_app (s : ByteArray) (a b : Nat) (h1 : a ≤ b) : s.extract 0 a ++ s.extract a b = s.extract 0 b := by
  apply bytes_ext
  rw [data_append, ext_upto, ext_upto, Lib.extract_data, ← List.take_append_drop a (s.data.toList.take b), List.take_take, Nat.min_eq_left h1, List.drop_take]
theorem rd_num (l : List Int) (i : Nat) (hi : i < l.length) : rd l (i : Int) = l[i] := by
  unfold rd
  simp [List.getElem?_eq_getElem hi]
theorem pieces_end (s : ByteArray) (hs : s.size ≤ 1048576) (l1 : List Int) (e : Int) (he : (e == 0) = more s) (k a i : Nat) (ha : a ≤ s.size) (hk : s.size + 2 < k) :
    stanchionlaw14_FramePieces.j1 k s l1 true (texts s) e (texts (s.extract 0 a)) (a : Int) (i : Int) false (St s).1 (St s).2 (St (s.extract 0 a)).1 (St (s.extract 0 a)).2 = some true := by
  obtain ⟨k, rfl⟩ : ∃ j, k = j + 1 := ⟨k - 1, by omega⟩
  have hp : (s.extract 0 a).size = a := by rw [ByteArray.size_extract]; omega
  have hc : (s.extract a s.size).size = s.size - a := by rw [ByteArray.size_extract]; omega
  have hj : s.extract 0 a ++ s.extract a s.size = s := by
    rw [cut_app s a s.size ha]
    apply bytes_ext
    rw [ext_from, List.drop_zero]
  obtain ⟨t, z, f1, f2, f3⟩ := feed_step (s.extract 0 a) (s.extract a s.size) (by omega)
  rw [hj] at f1 f2 f3
  have hl := texts_len s
  have hl2 : (texts (s.extract 0 a)).length + t.length = (texts s).length := by rw [← f2, List.length_append]
  rw [stanchionlaw14_FramePieces.j1, if_neg (by decide), if_pos (by omega), if_pos (by omega), Int.toNat_natCast, f1, bsm]
  dsimp only
  rw [if_pos (by omega), f2, same_self _ _ (by omega) (by omega), bsm, if_pos rfl, if_pos rfl, f3, he, beq_self_eq_true, beq_self_eq_true, beq_self_eq_true]
  rfl
theorem w_add (i j : Nat) (h : i + j < 4611686018427387904) : wrap64 ((i : Int) + (j : Int)) = ((i + j : Nat) : Int) := by
  unfold wrap64
  omega
theorem w_one (i : Nat) (h : i < 4611686018427387904) : wrap64 ((i : Int) + 1) = ((i + 1 : Nat) : Int) := by
  unfold wrap64
  omega
theorem w_sub (i j : Nat) (h : i < 4611686018427387904) (hj : j ≤ i) : wrap64 ((i : Int) - (j : Int)) = ((i - j : Nat) : Int) := by
  unfold wrap64
  omega
theorem pieces_at (s : ByteArray) (hs : s.size ≤ 1048576) (l1 : List Int) (_hl : l1.length ≤ 1048576) (e : Int) (he : (e == 0) = more s) : ∀ (d i a K : Nat), l1.length - i = d → i ≤ l1.length → a ≤ s.size → 2 * d + s.size + 10 ≤ K →
    stanchionlaw14_FramePieces.l0 K s l1 true (texts s) e (texts (s.extract 0 a)) (a : Int) (i : Int) (St s).1 (St s).2 (St (s.extract 0 a)).1 (St (s.extract 0 a)).2 = some true := by
  intro d
  induction d with
  | zero =>
    intro i a K hd hi ha hK
    obtain ⟨K, rfl⟩ : ∃ j, K = j + 1 := ⟨K - 1, by omega⟩
    rw [stanchionlaw14_FramePieces.l0, if_neg (by omega)]
    exact pieces_end s hs l1 e he _ a i ha (by omega)
  | succ d ih =>
    intro i a K hd hi ha hK
    obtain ⟨K, rfl⟩ : ∃ j, K = j + 1 + 1 := ⟨K - 2, by omega⟩
    have hlt : i < l1.length := by omega
    rw [stanchionlaw14_FramePieces.l0, if_pos (by omega)]
    by_cases h100 : (i : Int) < 100
    · rw [decide_eq_true h100, stanchionlaw14_FramePieces.j1, if_pos rfl, if_pos (by omega), if_pos (by omega), rd_num l1 i hlt, w_one i (by omega)]
      have hn := ih (i + 1) a K (by omega) (by omega) ha (by omega)
      by_cases h1 : l1[i] < 0
      · rw [if_pos h1]
        exact hn
      · rw [if_neg h1]
        rw [w_sub s.size a (by omega) ha]
        by_cases h2 : l1[i] > ((s.size - a : Nat) : Int)
        · rw [if_pos h2]
          exact hn
        · rw [if_neg h2]
          obtain ⟨c, hc⟩ : ∃ c : Nat, l1[i] = (c : Int) := ⟨(l1[i]).toNat, by omega⟩
          rw [hc] at h1 h2 ⊢
          have hp : (s.extract 0 a).size = a := by rw [ByteArray.size_extract]; omega
          have hcs : (s.extract a (a + c)).size = c := by rw [ByteArray.size_extract]; omega
          have hj := cut_app s a (a + c) (by omega)
          obtain ⟨t, z, f1, f2, f3⟩ := feed_step (s.extract 0 a) (s.extract a (a + c)) (by omega)
          rw [hj] at f1 f2 f3
          have hl3 := texts_len (s.extract 0 (a + c))
          have hl4 : (texts (s.extract 0 a)).length + t.length = (texts (s.extract 0 (a + c))).length := by rw [← f2, List.length_append]
          have hp2 : (s.extract 0 (a + c)).size = a + c := by rw [ByteArray.size_extract]; omega
          rw [if_pos (by omega), w_add a c (by omega), if_pos (by omega), if_pos (by omega), Int.toNat_natCast, Int.toNat_natCast, f1, bsm]
          dsimp only
          rw [if_pos (by omega), f2]
          exact ih (i + 1) (a + c) K (by omega) (by omega) (by omega) (by omega)
    · rw [decide_eq_false h100]
      exact pieces_end s hs l1 e he _ a i ha (by omega)
theorem Pieces (s : ByteArray) (l1 : List Int) (hs : s.size ≤ 1048576) (hl : l1.length ≤ 1048576) : ∃ k, stanchionlaw14_FramePieces.f k s l1 = some true := by
  refine ⟨2 * (l1.length - 0) + s.size + 10, ?_⟩
  unfold stanchionlaw14_FramePieces.f
  obtain ⟨c1, c2, c3⟩ := empty_all
  have hst : St ByteArray.empty = (ByteArray.empty, false) := by rw [st_yes c3, c2]
  obtain ⟨t, z, f1, f2, f3⟩ := feed_step ByteArray.empty s (by show 0 + s.size ≤ _; omega)
  rw [hst, ByteArray.empty_append] at f1
  rw [c1, List.nil_append, ByteArray.empty_append] at f2
  rw [ByteArray.empty_append] at f3
  have e0 : s.extract 0 0 = ByteArray.empty := by
    apply bytes_ext
    rw [ext_upto, List.take_zero]
    rfl
  have h := pieces_at s hs l1 hl z f3 _ 0 0 _ rfl (Nat.zero_le _) (Nat.zero_le _) (Nat.le_refl _)
  rw [e0, c1, hst] at h
  rw [shown_eq, bsm, empty_lit]
  simp only [] at f1
  rw [f1, bsm]
  simp only []
  rw [f2]
  exact h
end Go.Proofs.Ytcepfdilbbbemaa.FrP
