/- The reference's functions of the span package compute the same Booleans; the order of keys and their successors. -/
import Derived.Test.YtdobceajlplfhaaSpanPure
namespace Go.Proofs.Ytdobceajlplfhaa.SpanPure
open Go Go.RowKit Go.Proofs.Ytdobceajlplfhaa.QSpan Go.Proofs.YtdobceajlplfhaaW.PrintWords Go.Proofs.YtdobceajlplfhaaW.PrintLast
theorem drop_bt (s : ByteArray) (i : Nat) (h : i < s.size) : ∃ u : UInt8, s.toList.drop i = u :: s.toList.drop (i + 1) ∧ bt s (i : Int) = (u.toNat : Int) := by
  have hl : i < s.toList.length := by rw [Lib.toList_data, data_length]; exact h
  refine ⟨s.toList[i], List.drop_eq_getElem_cons hl, ?_⟩
  have h2 : ((i : Int)).toNat < s.size := by simpa using h
  rw [← bt_at s (i : Int) h2]
  simp only [Int.toNat_natCast, Lib.toList_data, Array.getElem_toList]
  rfl
theorem drop_none (s : ByteArray) (i : Nat) (h : s.size ≤ i) : s.toList.drop i = [] := by
  apply List.drop_eq_nil_of_le
  rw [Lib.toList_data, data_length]
  exact h
theorem wrap_next {i n : Nat} (h : i < n) (hn : n ≤ 9223372036854775807) : wrap64 ((i : Int) + 1) = ((i + 1 : Nat) : Int) := by
  unfold wrap64
  omega
theorem less_from (a b : ByteArray) (ha : a.size ≤ 9223372036854775807) (d : Nat) : ∀ (k i : Nat), a.size - i = d → i ≤ a.size → i ≤ b.size → 2 * d + 2 ≤ k →
    stanchionref01_Less.l0 k a b (i : Int) = some (decide (a.toList.drop i < b.toList.drop i)) := by
  induction d with
  | zero =>
    intro k i hd hi hj hk
    obtain ⟨k, rfl⟩ : ∃ m, k = m + 2 := ⟨k - 2, by omega⟩
    simp only [stanchionref01_Less.l0, stanchionref01_Less.j1]
    rw [if_neg (by omega), if_neg (by decide), drop_none a i (by omega)]
    by_cases h : i < b.size
    · obtain ⟨u, hu, _⟩ := drop_bt b i h
      rw [hu]
      simp only [List.nil_lt_cons, decide_true]
      rw [decide_eq_true (by omega)]
    · rw [drop_none b i (by omega)]
      simp only [List.not_lt_nil, decide_false]
      rw [decide_eq_false (by omega)]
  | succ d ih =>
    intro k i hd hi hj hk
    obtain ⟨k, rfl⟩ : ∃ m, k = m + 2 := ⟨k - 2, by omega⟩
    have hlt : i < a.size := by omega
    obtain ⟨u, hu, hbu⟩ := drop_bt a i hlt
    simp only [stanchionref01_Less.l0, stanchionref01_Less.j1]
    rw [if_pos (by omega)]
    by_cases h : i < b.size
    · obtain ⟨v, hv, hbv⟩ := drop_bt b i h
      rw [decide_eq_true (p := (i : Int) < (b.size : Int)) (by omega), if_pos rfl, if_pos (by omega), if_pos (by omega), if_pos (by omega), hbu, hbv, hu, hv]
      by_cases e : u = v
      · subst e
        rw [if_pos rfl, wrap_next hlt ha, ih k (i + 1) (by omega) (by omega) (by omega) (by omega)]
        simp
      · have e2 : ¬ ((u.toNat : Int) = (v.toNat : Int)) := by
          intro h
          exact e (UInt8.toNat_inj.mp (by omega))
        rw [if_neg e2]
        simp only [List.cons_lt_cons_iff, e, false_and, or_false, UInt8.lt_iff_toNat_lt]
        congr 2
        exact propext (by omega)
    · rw [decide_eq_false (p := (i : Int) < (b.size : Int)) (by omega), if_neg (by decide), drop_none b i (by omega)]
      simp only [List.not_lt_nil, decide_false]
      rw [decide_eq_false (by omega)]
theorem less_eq (k : Nat) (a b : ByteArray) (ha : a.size ≤ 9223372036854775807) (hk : 2 * a.size + 2 ≤ k) : stanchionref01_Less.f k a b = some (decide (a.toList < b.toList)) := by
  unfold stanchionref01_Less.f
  have := less_from a b ha a.size k 0 (by omega) (by omega) (by omega) hk
  simpa using this

theorem refIn_eq (k : Nat) (m : Int) (lo hi key : ByteArray) (ha : key.size ≤ 9223372036854775807) (hk : 2 * key.size + 2 ≤ k) : stanchionref09_In.f k m lo hi key = some (decide (inP lo.toList hi.toList key.toList)) := by
  unfold stanchionref09_In.f
  rw [less_eq k key lo ha hk, less_eq k key hi ha hk]
  simp only [Option.bind_some, inP]
  by_cases h1 : key.toList < lo.toList <;> by_cases h2 : hi.toList = [] <;> simp [h1, h2]
theorem ov_max (a1 a2 b1 b2 : B) : ovP a1 a2 b1 b2 ↔ if a1 < b1 then inP a1 a2 b1 ∧ inP b1 b2 b1 else inP a1 a2 a1 ∧ inP b1 b2 a1 := by
  have n1 : ¬ a1 < ([] : B) := List.not_lt_nil a1
  have n2 : ¬ b1 < ([] : B) := List.not_lt_nil b1
  unfold ovP emP inP
  split <;> grind
theorem refOv_eq (k : Nat) (am : Int) (al ah : ByteArray) (bm : Int) (bl bh : ByteArray) (ha : al.size ≤ 9223372036854775807) (hb : bl.size ≤ 9223372036854775807) (hk : 2 * al.size + 2 * bl.size + 2 ≤ k) :
    stanchionref09_Overlap.f k am al ah bm bl bh = some (decide (ovP al.toList ah.toList bl.toList bh.toList)) := by
  unfold stanchionref09_Overlap.f
  rw [less_eq k al bl ha (by omega), refIn_eq k am al ah bl hb (by omega), refIn_eq k bm bl bh bl hb (by omega), refIn_eq k am al ah al ha (by omega), refIn_eq k bm bl bh al ha (by omega)]
  simp only [Option.bind_some, decide_eq_true_eq]
  have h := ov_max al.toList ah.toList bl.toList bh.toList
  by_cases h1 : al.toList < bl.toList
  · rw [if_pos h1] at h
    simp only [h, h1, if_true]
    by_cases h2 : inP al.toList ah.toList bl.toList <;> simp [h2]
  · rw [if_neg h1] at h
    simp only [h, h1, if_false]
    by_cases h2 : inP al.toList ah.toList al.toList <;> simp [h2]
theorem refCl_eq (k : Nat) (am : Int) (al ah : ByteArray) (bm : Int) (bl bh : ByteArray) (ha : al.size ≤ 9223372036854775807) (hb : bl.size ≤ 9223372036854775807) (hk : 2 * al.size + 2 * bl.size + 2 ≤ k) :
    stanchionref09_Clash.f k am al ah bm bl bh = some (decide (clP am al.toList ah.toList bm bl.toList bh.toList)) := by
  unfold stanchionref09_Clash.f
  rw [refOv_eq k am al ah bm bl bh ha hb hk]
  simp only [Option.bind_some]
  unfold clP
  by_cases h : am = 2 <;> by_cases h2 : bm = 2 <;> by_cases h3 : ovP al.toList ah.toList bl.toList bh.toList <;> simp [h, h2, h3]
theorem refMay_eq (k : Nat) (m : Int) (lo hi : ByteArray) (ha : lo.size ≤ 9223372036854775807) (hk : 2 * lo.size + 2 ≤ k) : stanchionref09_May.f k m lo hi = some (decide (mayP m lo.toList hi.toList)) := by
  unfold stanchionref09_May.f
  rw [less_eq k lo hi ha hk]
  simp only [Option.bind_some, mayP, emP]
  by_cases h : m = 1 <;> by_cases h2 : m = 2 <;> by_cases h3 : hi.toList = [] <;> by_cases h4 : lo.toList < hi.toList <;> simp [h, h2, h3, h4]
theorem refCo_eq (k : Nat) (am : Int) (al ah : ByteArray) (bm : Int) (bl bh : ByteArray) (ha : ah.size ≤ 9223372036854775807) (hb : bl.size ≤ 9223372036854775807) (hk : 2 * ah.size + 2 * bl.size + 3 ≤ k) :
    stanchionref09_Covers.f k am al ah bm bl bh = some (decide (coP am al.toList ah.toList bm bl.toList bh.toList)) := by
  obtain ⟨k, rfl⟩ : ∃ m, k = m + 1 := ⟨k - 1, by omega⟩
  unfold stanchionref09_Covers.f
  simp only [stanchionref09_Covers.j0]
  rw [refMay_eq (k + 1) bm bl bh hb (by omega), refIn_eq k am al ah bl hb (by omega), less_eq k ah bh ha (by omega)]
  simp only [Option.bind_some]
  unfold coP
  by_cases h : mayP bm bl.toList bh.toList
  · simp only [h, decide_true, true_and, if_true]
    have he : ¬ emP bl.toList bh.toList := h.2
    unfold emP at he
    unfold inP
    clear hb ha hk
    generalize al.toList = a1 at *
    generalize ah.toList = a2 at *
    generalize bl.toList = b1 at *
    generalize bh.toList = b2 at *
    have n1 : ¬ b1 < ([] : B) := List.not_lt_nil b1
    have key : ((am = 2 ∨ ¬ bm = 2) ∧ (am = bm ∧ a1 = b1 ∧ a2 = b2 ∨ ¬ b1 < a1 ∧ (a2 = [] ∨ ¬ b2 = [] ∧ ¬ a2 < b2))) ↔ ((am = 2 ∨ ¬ bm = 2) ∧ (¬ b1 < a1 ∧ (a2 = [] ∨ b1 < a2)) ∧ (a2 = [] ∨ ¬ b2 = [] ∧ ¬ a2 < b2)) := by grind
    simp only [key]
    clear key
    by_cases h5 : b1 < a1 <;> by_cases h1 : am = 2 <;> by_cases h2 : bm = 2 <;> by_cases h3 : a2 = [] <;> by_cases h4 : b2 = [] <;> by_cases h8 : a2 < b2 <;> by_cases h9 : b1 < a2 <;> simp [h5, h1, h2, h3, h4, h8, h9]
  · simp only [h, decide_false, false_and]
    simp

abbrev M : Nat := 9223372036854775807
theorem lt_succ (x y : B) : x < y ++ [0] ↔ ¬ y < x := by
  induction x generalizing y with
  | nil => cases y <;> simp
  | cons u x ih =>
    cases y with
    | nil => cases x <;> simp [List.cons_lt_cons_iff]
    | cons v y =>
      simp only [List.cons_append, List.cons_lt_cons_iff, ih]
      grind
theorem key_in (a b : B) : inP a (a ++ [0]) b ↔ a = b := by
  unfold inP
  have e : ¬ (a ++ [(0 : UInt8)] = []) := by simp
  simp only [e, false_or, lt_succ]
  grind
theorem succ_gt (a : B) : a < a ++ [0] := by
  rw [lt_succ]
  grind
theorem key_em (a : B) : ¬ emP a (a ++ [0]) := by
  unfold emP
  have := succ_gt a
  grind
theorem co_in {am : Int} {a1 a2 : B} {bm : Int} {b1 b2 k : B} (h : coP am a1 a2 bm b1 b2) (hk : inP b1 b2 k) : inP a1 a2 k := by
  unfold coP at h
  unfold inP at *
  grind
theorem co_lo {am : Int} {a1 a2 : B} {bm : Int} {b1 b2 : B} (h : coP am a1 a2 bm b1 b2) : inP a1 a2 b1 := by
  have n1 : ¬ b1 < ([] : B) := List.not_lt_nil b1
  unfold coP mayP emP at h
  unfold inP
  grind
theorem co_cl {am : Int} {a1 a2 : B} {bm : Int} {b1 b2 : B} (cm : Int) (c1 c2 : B) (h : coP am a1 a2 bm b1 b2) (hc : clP bm b1 b2 cm c1 c2) : clP am a1 a2 cm c1 c2 := by
  unfold clP at *
  have hin : ∀ k, inP b1 b2 k → inP a1 a2 k := fun k hk => co_in h hk
  have hlo := co_lo h
  have hm : am = 2 ∨ ¬ bm = 2 := h.2.1
  obtain ⟨ho, hx⟩ := hc
  refine ⟨?_, by omega⟩
  rw [ov_max] at ho ⊢
  have n1 : ¬ a1 < ([] : B) := List.not_lt_nil a1
  have n2 : ¬ c1 < ([] : B) := List.not_lt_nil c1
  have k1 := hin b1
  have k2 := hin c1
  unfold inP at *
  split at ho <;> split <;> grind
end Go.Proofs.Ytdobceajlplfhaa.SpanPure
