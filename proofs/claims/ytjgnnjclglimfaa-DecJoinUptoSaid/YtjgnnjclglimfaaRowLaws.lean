/- Rows, in plain Lean: what TakeRow answers; what Row writes is taken; no beginning of a row is taken. -/
import Derived.Test.YtjgnnjclglimfaaQDecx
import Derived.Test.YtjgnnjclglimfaaDecLaws
import Derived.Test.YtjgnnjclglimfaaGivRow
namespace Go.Proofs.Ytjgnnjclglimfaa.DecPure
open Go Go.RowKit Go.Proofs.Ytjgnnjclglimfaa.DecM Go.Proofs.Ytjgnnjclglimfaa.Giv Go.Proofs.Ytjgnnjclglimfaa.Row Go.Proofs.Ytjgnnjclglimfaa.QDec Go.Proofs.YtjgnnjclglimfaaW.PrintWords Go.Proofs.YtjgnnjclglimfaaW.PrintLast

theorem bsm {α β : Type} (a : α) (f : α → Option β) : (some a).bind f = f a := Eq.trans (Option.bind_some a f) (Eq.refl _)
def takeTexts (most : Int) : Nat → ByteArray → List ByteArray → List ByteArray × ByteArray × Int
  | 0, s, acc => (acc, s, 0)
  | n + 1, s, acc => if (takeText s most).2.2 = 0 then takeTexts most n (takeText s most).2.1 (acc ++ [(takeText s most).1]) else ([], ⟨#[]⟩, (takeText s most).2.2)
def takeRow (s : ByteArray) (many most : Int) : List ByteArray × ByteArray × Int :=
  if (takeNum s).2.2 = 0 then (if many < 0 ∨ (takeNum s).1 > many then ([], ⟨#[]⟩, 4) else takeTexts most (takeNum s).1.toNat (takeNum s).2.1 []) else ([], ⟨#[]⟩, (takeNum s).2.2)
theorem text_lt (s : ByteArray) (most : Int) (h : (takeText s most).2.2 = 0) : (takeText s most).2.1.size < s.size := by
  unfold takeText at h ⊢
  by_cases h1 : ¬ (takeNum s).2.2 = 0
  · rw [if_pos h1] at h
    exact absurd h h1
  rw [if_neg h1] at h ⊢
  by_cases h2 : most < 0 ∨ (takeNum s).1 > most
  · rw [if_pos h2] at h
    cases h
  rw [if_neg h2] at h ⊢
  by_cases h3 : (takeNum s).1 > (takeNum s).2.1.size
  · rw [if_pos h3] at h
    cases h
  rw [if_neg h3]
  have h1' : (takeNum s).2.2 = 0 := Decidable.not_not.mp h1
  obtain ⟨n, _, _, e⟩ := take_was (s := s) (v := (takeNum s).1) (r := (takeNum s).2.1) (by rw [← h1'])
  have hsz : s.size = (numS n).size + (takeNum s).2.1.size := by
    conv => lhs; rw [e]
    exact ByteArray.size_append ..
  have hn : 1 ≤ (numS n).size := by
    rw [← len_size, numS_data, List.length_append]
    exact Nat.le_add_left 1 _
  simp only [ByteArray.size_extract]
  omega
theorem texts_some (most : Int) (hm : most ≤ 9223372036854775807) : ∀ (k : Nat) (s : ByteArray) (acc : List ByteArray) (x35 x36 : Int), s.size < k → acc.length + s.size < 8796093022208 → 0 ≤ x36 → x36 ≤ x35 → x35 < 18446744073709551616 →
    dec_TakeRow.l0 (k + 1) most s acc x35 x36 = some (takeTexts most (x35 - x36).toNat s acc) := by
  intro k
  induction k with
  | zero => intro s acc x35 x36 h; omega
  | succ k ih =>
    intro s acc x35 x36 hk ha h0 h1 h2
    rw [dec_TakeRow.l0]
    by_cases hx : x36 < x35
    · have hn : (x35 - x36).toNat = (x35 - (x36 + 1)).toNat + 1 := by omega
      have hw : IntKind.u64.wrap (x36 + 1) = x36 + 1 := by
        unfold IntKind.wrap
        simp [IntKind.bits, IntKind.signed]
        omega
      rw [if_pos hx, text_some k s most (by omega) hm, bsm]
      by_cases hz : (takeText s most).2.2 = 0
      · have hlt := text_lt s most hz
        rw [if_pos hz, if_pos (by omega), hw, ih _ _ _ _ (by omega) (by rw [List.length_append, List.length_singleton]; omega) (by omega) (by omega) h2, hn, takeTexts, if_pos hz]
      · rw [if_neg hz, hn, takeTexts, if_neg hz]
    · have hn : (x35 - x36).toNat = 0 := by omega
      rw [if_neg hx, hn, takeTexts]
theorem row_some (k : Nat) (s : ByteArray) (many most : Int) (hk : s.size + 1 < k) (hs : s.size < 8796093022208) (hm : most ≤ 9223372036854775807) (hn : many ≤ 9223372036854775807) :
    dec_TakeRow.f k s many most = some (takeRow s many most) := by
  have e64 := two64_eq
  obtain ⟨f1, f2, f3⟩ := take_first s
  obtain ⟨k, rfl⟩ : ∃ j, k = j + 1 := ⟨k - 1, by omega⟩
  unfold dec_TakeRow.f takeRow
  rw [take_some (by omega), bsm]
  by_cases hz : (takeNum s).2.2 = 0
  · rw [if_pos hz, if_pos hz]
    by_cases h0 : many < 0
    · rw [if_pos h0, if_pos (.inl h0)]
    · have hw : IntKind.u64.wrap many = many := by
        unfold IntKind.wrap
        simp [IntKind.bits, IntKind.signed]
        omega
      rw [if_neg h0, hw]
      by_cases h1 : (takeNum s).1 > many
      · rw [if_pos h1, if_pos (.inr h1)]
      · rw [if_neg h1, if_neg (by omega), texts_some most hm k _ _ _ _ (by omega) (by rw [List.length_nil]; omega) (by omega) (by omega) (by omega), Int.sub_zero]
  · rw [if_neg hz, if_neg hz]
/-- The texts of a row, behind its number. -/
def textsS : List ByteArray → ByteArray
  | [] => ByteArray.empty
  | t :: l => textS t ++ textsS l
theorem rowS_eq (l : List ByteArray) : rowS l = numS l.length ++ textsS l := by
  have h : ∀ l : List ByteArray, (textsS l).data.toList = (l.map fun t => (textS t).data.toList).flatten := by
    intro l
    induction l with
    | nil => rfl
    | cons t l ih => rw [textsS, data_append, ih, List.map_cons, List.flatten_cons]
  apply bytes_ext
  rw [data_append, h]
  show (rowB l).toArray.toList = _
  rw [List.toList_toArray]
  rfl
theorem texts_back (most : Int) (m : ByteArray) : ∀ (l acc : List ByteArray), (∀ t ∈ l, (t.size : Int) ≤ most ∧ t.size < 18446744073709551616) → takeTexts most l.length (textsS l ++ m) acc = (acc ++ l, m, 0)
  | [], acc, _ => by
    rw [textsS, ByteArray.empty_append, List.append_nil]
    rfl
  | t :: l, acc, h => by
    obtain ⟨h1, h2⟩ := h t (List.mem_cons_self ..)
    have e := text_back t (textsS l ++ m) most h2
    rw [if_neg (by omega)] at e
    rw [List.length_cons, takeTexts, textsS, ByteArray.append_assoc, e]
    rw [if_pos rfl, texts_back most m l _ (fun x hx => h x (List.mem_cons_of_mem _ hx)), List.append_assoc]
    rfl
theorem row_back (l : List ByteArray) (m : ByteArray) (many most : Int) (hl : (l.length : Int) ≤ many) (h64 : l.length < two64) (h : ∀ t ∈ l, (t.size : Int) ≤ most ∧ t.size < 18446744073709551616) : takeRow (rowS l ++ m) many most = (l, m, 0) := by
  have e : takeNum (rowS l ++ m) = ((l.length : Int), textsS l ++ m, 0) := by
    rw [rowS_eq, ByteArray.append_assoc]
    exact take_back l.length h64 _
  unfold takeRow
  rw [e]
  simp only []
  rw [if_pos trivial, if_neg (by omega), Int.toNat_natCast, texts_back most m l [] h, List.nil_append]
theorem reftexts_some (most : Int) (hm : most ≤ 9223372036854775807) : ∀ (k : Nat) (s : ByteArray) (acc : List ByteArray) (x35 x36 : Int), s.size < k → acc.length + s.size < 8796093022208 → 0 ≤ x36 → x36 ≤ x35 → x35 < 18446744073709551616 →
    stanchionref01_TakeRow.l0 (k + 1) most x35 s acc x36 = some (takeTexts most (x35 - x36).toNat s acc) := by
  intro k
  induction k with
  | zero => intro s acc x35 x36 h; omega
  | succ k ih =>
    intro s acc x35 x36 hk ha h0 h1 h2
    rw [stanchionref01_TakeRow.l0]
    by_cases hx : x36 < x35
    · have hn : (x35 - x36).toNat = (x35 - (x36 + 1)).toNat + 1 := by omega
      have hw : IntKind.u64.wrap (x36 + 1) = x36 + 1 := by
        unfold IntKind.wrap
        simp [IntKind.bits, IntKind.signed]
        omega
      rw [if_pos hx, reft_some k s most (by omega) hm, bsm]
      by_cases hz : (takeText s most).2.2 = 0
      · have hlt := text_lt s most hz
        rw [if_pos hz, if_pos (by omega), hw, ih _ _ _ _ (by omega) (by rw [List.length_append, List.length_singleton]; omega) (by omega) (by omega) h2, hn, takeTexts, if_pos hz]
      · rw [if_neg hz, hn, takeTexts, if_neg hz]
    · have hn : (x35 - x36).toNat = 0 := by omega
      rw [if_neg hx, hn, takeTexts]
theorem refrow_some (k : Nat) (s : ByteArray) (many most : Int) (hk : s.size + 2 < k) (hs : s.size < 8796093022208) (hm : most ≤ 9223372036854775807) (hn : many ≤ 9223372036854775807) :
    stanchionref01_TakeRow.f k s many most = some (takeRow s many most) := by
  have e64 := two64_eq
  obtain ⟨f1, f2, f3⟩ := take_first s
  obtain ⟨k, rfl⟩ : ∃ j, k = j + 2 := ⟨k - 2, by omega⟩
  unfold stanchionref01_TakeRow.f takeRow
  rw [ref_some (by omega), bsm]
  by_cases hz : (takeNum s).2.2 = 0
  · rw [if_pos hz, if_pos hz]
    by_cases h0 : many < 0
    · rw [if_pos h0, if_pos (.inl h0), stanchionref01_TakeRow.j0, if_pos rfl]
    · have hw : IntKind.u64.wrap many = many := by
        unfold IntKind.wrap
        simp [IntKind.bits, IntKind.signed]
        omega
      rw [if_neg h0, hw, stanchionref01_TakeRow.j0]
      by_cases h1 : (takeNum s).1 > many
      · rw [if_pos (decide_eq_true h1), if_pos (.inr h1)]
      · rw [if_neg (by rw [decide_eq_true_iff]; exact h1), if_neg (by omega), reftexts_some most hm k _ _ _ _ (by omega) (by rw [List.length_nil]; omega) (by omega) (by omega) (by omega), Int.sub_zero]
  · rw [if_neg hz, if_neg hz]
theorem same_at (l : List ByteArray) (hl : l.length ≤ 4611686018427387904) : ∀ (k i : Nat), l.length - i < k → i ≤ l.length → stanchionref01_Same.l0 k l l (i : Int) = some true := by
  intro k
  induction k with
  | zero => intro i h; omega
  | succ k ih =>
    intro i h hi
    rw [stanchionref01_Same.l0]
    by_cases hx : (i : Int) < (l.length : Int)
    · have hw : wrap64 ((i : Int) + 1) = ((i + 1 : Nat) : Int) := by
        unfold wrap64
        omega
      rw [if_pos hx, if_pos (by omega), if_pos hx, if_pos rfl, hw, ih (i + 1) (by omega) (by omega)]
    · rw [if_neg hx]
theorem same_self (k : Nat) (l : List ByteArray) (hl : l.length ≤ 4611686018427387904) (hk : l.length < k) : stanchionref01_Same.f k l l = some true := by
  unfold stanchionref01_Same.f
  rw [if_pos rfl]
  exact same_at l hl k 0 (by omega) (by omega)
end Go.Proofs.Ytjgnnjclglimfaa.DecPure
