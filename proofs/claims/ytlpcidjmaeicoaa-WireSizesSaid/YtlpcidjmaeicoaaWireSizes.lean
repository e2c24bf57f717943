/- WireSizes in plain Lean: what a request's and a reply's bytes measure. -/
import Derived.Test.YtlpcidjmaeicoaaDecFacts
import Derived.Test.YtlpcidjmaeicoaaMayReply
import Derived.Test.YtlpcidjmaeicoaaQWix5
import Derived.Test.YtlpcidjmaeicoaaQWix6
namespace Go.Proofs.Ytlpcidjmaeicoaa.WiP
open Go Go.RowKit Go.Proofs.Ytlpcidjmaeicoaa.DecM Go.Proofs.Ytlpcidjmaeicoaa.Wire Go.Proofs.Ytlpcidjmaeicoaa.QWi Go.Proofs.YtlpcidjmaeicoaaW.PrintWords Go.Proofs.YtlpcidjmaeicoaaW.PrintLast

theorem bsm {α β : Type} (a : α) (f : α → Option β) : (some a).bind f = f a := Eq.trans (Option.bind_some a f) (Eq.refl _)
theorem numB_of {x : Int} (h : numB x = true) : 0 ≤ x ∧ x ≤ 1073741824 := by
  unfold numB at h
  simpa using h
theorem may_j0 (k : Nat) (x : Bool) (a0 a1 a2 a3 : Int) (t : ByteArray) (o : Int) (y v l h : ByteArray) (m : Int) :
    ∃ b, wire_MayReq.j0 (k + 1) x a0 a1 a2 a3 t o y v l h m = some b ∧ (b = true → x = false ∧ (a0 = 5 → 1 ≤ o ∧ o ≤ 6 ∧ y.size ≤ 32 ∧ v.size ≤ 64 ∧ l.size ≤ 32 ∧ h.size ≤ 32 ∧ 0 ≤ m ∧ m ≤ 1073741824)) := by
  rw [wire_MayReq.j0, num_f, bsm]
  cases x with
  | true => exact ⟨false, if_pos rfl, fun h => by cases h⟩
  | false =>
    rw [if_neg (by decide)]
    by_cases h5 : a0 = 5
    · rw [if_pos h5]
      by_cases c1 : t.toList = ([] : List UInt8)
      · rw [if_pos c1]
        by_cases c2 : o ≥ 1
        · rw [if_pos c2]
          by_cases c3 : o ≤ 6
          · rw [if_pos c3]
            by_cases c4 : (y.size : Int) ≤ 32
            · rw [if_pos c4]
              by_cases c5 : (l.size : Int) ≤ 32
              · rw [if_pos c5]
                by_cases c6 : (h.size : Int) ≤ 32
                · rw [if_pos c6]
                  by_cases c7 : (v.size : Int) ≤ 64
                  · rw [if_pos c7]
                    refine ⟨_, rfl, fun hb => ⟨rfl, fun _ => ?_⟩⟩
                    have := numB_of hb
                    exact ⟨by omega, by omega, by omega, by omega, by omega, by omega, by omega, by omega⟩
                  · rw [if_neg c7]
                    exact ⟨_, rfl, fun h => by cases h⟩
                · rw [if_neg c6]
                  exact ⟨_, rfl, fun h => by cases h⟩
              · rw [if_neg c5]
                exact ⟨_, rfl, fun h => by cases h⟩
            · rw [if_neg c4]
              exact ⟨_, rfl, fun h => by cases h⟩
          · rw [if_neg c3]
            exact ⟨_, rfl, fun h => by cases h⟩
        · rw [if_neg c2]
          exact ⟨_, rfl, fun h => by cases h⟩
      · rw [if_neg c1]
        exact ⟨_, rfl, fun h => by cases h⟩
    · rw [if_neg h5]
      split
      · split
        · exact ⟨_, rfl, fun _ => ⟨rfl, fun h => absurd h h5⟩⟩
        · split
          · exact ⟨_, rfl, fun _ => ⟨rfl, fun h => absurd h h5⟩⟩
          · exact ⟨_, rfl, fun _ => ⟨rfl, fun h => absurd h h5⟩⟩
      · exact ⟨_, rfl, fun h => by cases h⟩
/-- What a request that may be keeps to. -/
theorem may_req (k : Nat) (a0 a1 a2 a3 : Int) (t : ByteArray) (o : Int) (y v l h : ByteArray) (m : Int) :
    ∃ b, wire_MayReq.f (k + 1) a0 a1 a2 a3 t o y v l h m = some b ∧ (b = true → (1 ≤ a0 ∧ a0 ≤ 6) ∧ (0 ≤ a1 ∧ a1 ≤ 1073741824) ∧ (0 ≤ a2 ∧ a2 ≤ 1073741824) ∧ (0 ≤ a3 ∧ a3 ≤ 1073741824) ∧ t.size ≤ 16 ∧
      (a0 = 5 → 1 ≤ o ∧ o ≤ 6 ∧ y.size ≤ 32 ∧ v.size ≤ 64 ∧ l.size ≤ 32 ∧ h.size ≤ 32 ∧ 0 ≤ m ∧ m ≤ 1073741824)) := by
  obtain ⟨b1, e1, p1⟩ := may_j0 k true a0 a1 a2 a3 t o y v l h m
  have hf : ∃ b, wire_MayReq.j0 (k + 1) true a0 a1 a2 a3 t o y v l h m = some b ∧ b = false := by
    refine ⟨b1, e1, ?_⟩
    cases b1 with
    | false => rfl
    | true => exact absurd (p1 rfl).1 (by decide)
  obtain ⟨b1, e1, rfl⟩ := hf
  unfold wire_MayReq.f
  rw [num_f, num_f, num_f, bsm]
  by_cases c1 : a0 < 1
  · rw [if_pos c1]
    exact ⟨_, e1, fun h => by cases h⟩
  rw [if_neg c1]
  by_cases c2 : a0 > 6
  · rw [if_pos c2]
    exact ⟨_, e1, fun h => by cases h⟩
  rw [if_neg c2]
  by_cases c3 : numB a1 = true
  · rw [if_pos c3, bsm]
    by_cases c4 : numB a2 = true
    · rw [if_pos c4, bsm]
      by_cases c5 : numB a3 = true
      · rw [if_pos c5]
        obtain ⟨b2, e2, p2⟩ := may_j0 k (decide ((t.size : Int) > 16)) a0 a1 a2 a3 t o y v l h m
        refine ⟨b2, e2, fun hb => ?_⟩
        obtain ⟨q1, q2⟩ := p2 hb
        have q1 := of_decide_eq_false q1
        exact ⟨⟨by omega, by omega⟩, numB_of c3, numB_of c4, numB_of c5, by omega, q2⟩
      · rw [if_neg c5]
        exact ⟨_, e1, fun h => by cases h⟩
    · rw [if_neg c4]
      exact ⟨_, e1, fun h => by cases h⟩
  · rw [if_neg c3]
    exact ⟨_, e1, fun h => by cases h⟩
theorem numS_le (d n : Nat) (h : n < 10 ^ (d + 1)) : (numS n).size ≤ d + 2 := by
  have h1 := numL_len d n h
  unfold numS
  rw [strOfNums_size, List.length_append]
  simp
  omega
theorem numS_ge (n : Nat) : 1 ≤ (numS n).size := by
  unfold numS
  rw [strOfNums_size, List.length_append]
  simp
theorem glue_cons (t : ByteArray) (l : List ByteArray) : (glue (t :: l)).length = t.size + (glue l).length := by
  have e : glue (t :: l) = t.data.toList ++ glue l := rfl
  rw [e, List.length_append, byte_len]
theorem glue_nil : (glue []).length = 0 := rfl
theorem nums_size (l : List Int) : (numsS l).size = (glue (numP l)).length := List.size_toArray ..
theorem texts_size (l : List ByteArray) : (textsW l).size = (glue (textP l)).length := List.size_toArray ..
theorem textW_le (t : ByteArray) (h : t.size ≤ 64) : (textW t).size ≤ 3 + t.size := by
  have := numS_le 1 t.size (by omega)
  unfold textW
  rw [ByteArray.size_append]
  omega
theorem nums_some (l : List Int) (hl : l.length ≤ 1048576) (h : ∀ x ∈ l, 0 ≤ x ∧ x ≤ 1073741824) : wire_nums.f l = some (numsS l) := by
  unfold wire_nums.f
  rw [if_pos ⟨hl, List.all_eq_true.2 fun x hx => by have := h x hx; simp; omega⟩]
theorem texts_some (l : List ByteArray) (hl : l.length ≤ 1048576) (h : (glue (textP l)).length ≤ 1000000) : wire_texts.f l = some (textsW l) := by
  unfold wire_texts.f
  rw [if_pos ⟨hl, by omega⟩]
theorem nums4 (a b c d : Int) (ha : 0 ≤ a ∧ a ≤ 1073741824) (hb : 0 ≤ b ∧ b ≤ 1073741824) (hc : 0 ≤ c ∧ c ≤ 1073741824) (hd : 0 ≤ d ∧ d ≤ 1073741824) : wire_nums.f [a, b, c, d] = some (numsS [a, b, c, d]) ∧ (numsS [a, b, c, d]).size ≤ 44 ∧ 1 ≤ (numsS [a, b, c, d]).size := by
  have h1 := numS_le 9 a.toNat (by omega)
  have h2 := numS_le 9 b.toNat (by omega)
  have h3 := numS_le 9 c.toNat (by omega)
  have h4 := numS_le 9 d.toNat (by omega)
  have h5 := numS_ge a.toNat
  refine ⟨nums_some _ (by simp) (by
    intro x hx
    simp only [List.mem_cons, List.not_mem_nil, or_false] at hx
    rcases hx with rfl | rfl | rfl | rfl
    · exact ha
    · exact hb
    · exact hc
    · exact hd), ?_, ?_⟩
  all_goals
    rw [nums_size]
    simp only [numP, List.map_cons, List.map_nil, glue_cons, glue_nil]
    omega
theorem nums3 (a b c : Int) (ha : 0 ≤ a ∧ a ≤ 16) (hb : 0 ≤ b ∧ b ≤ 16) (hc : 0 ≤ c ∧ c ≤ 16) : wire_nums.f [a, b, c] = some (numsS [a, b, c]) ∧ (numsS [a, b, c]).size ≤ 9 := by
  have h1 := numS_le 1 a.toNat (by omega)
  have h2 := numS_le 1 b.toNat (by omega)
  have h3 := numS_le 1 c.toNat (by omega)
  refine ⟨nums_some _ (by simp) (by
    intro x hx
    simp only [List.mem_cons, List.not_mem_nil, or_false] at hx
    rcases hx with rfl | rfl | rfl
    · omega
    · omega
    · omega), ?_⟩
  rw [nums_size]
  simp only [numP, List.map_cons, List.map_nil, glue_cons, glue_nil]
  omega
theorem nums1 (a : Int) (ha : 0 ≤ a ∧ a ≤ 1073741824) : wire_nums.f [a] = some (numsS [a]) ∧ (numsS [a]).size ≤ 11 := by
  have h1 := numS_le 9 a.toNat (by omega)
  refine ⟨nums_some _ (by simp) (by
    intro x hx
    simp only [List.mem_cons, List.not_mem_nil, or_false] at hx
    rw [hx]
    exact ha), ?_⟩
  rw [nums_size]
  simp only [numP, List.map_cons, List.map_nil, glue_cons, glue_nil]
  omega
theorem texts1 (t : ByteArray) (h : t.size ≤ 64) : wire_texts.f [t] = some (textsW [t]) ∧ (textsW [t]).size ≤ 3 + t.size := by
  have h1 := textW_le t h
  have e : (glue (textP [t])).length ≤ 3 + t.size := by
    simp only [textP, List.map_cons, List.map_nil, glue_cons, glue_nil]
    omega
  exact ⟨texts_some _ (by simp) (by omega), by rw [texts_size]; exact e⟩
theorem texts2 (a b : ByteArray) (ha : a.size ≤ 64) (hb : b.size ≤ 64) : wire_texts.f [a, b] = some (textsW [a, b]) ∧ (textsW [a, b]).size ≤ 6 + a.size + b.size := by
  have h1 := textW_le a ha
  have h2 := textW_le b hb
  have e : (glue (textP [a, b])).length ≤ 6 + a.size + b.size := by
    simp only [textP, List.map_cons, List.map_nil, glue_cons, glue_nil]
    omega
  exact ⟨texts_some _ (by simp) (by omega), by rw [texts_size]; exact e⟩
theorem texts4 (a b c d : ByteArray) (ha : a.size ≤ 64) (hb : b.size ≤ 64) (hc : c.size ≤ 64) (hd : d.size ≤ 64) : wire_texts.f [a, b, c, d] = some (textsW [a, b, c, d]) ∧ (textsW [a, b, c, d]).size ≤ 12 + a.size + b.size + c.size + d.size := by
  have h1 := textW_le a ha
  have h2 := textW_le b hb
  have h3 := textW_le c hc
  have h4 := textW_le d hd
  have e : (glue (textP [a, b, c, d])).length ≤ 12 + a.size + b.size + c.size + d.size := by
    simp only [textP, List.map_cons, List.map_nil, glue_cons, glue_nil]
    omega
  exact ⟨texts_some _ (by simp) (by omega), by rw [texts_size]; exact e⟩
/-- A request's bytes: at most 2048. -/
theorem req_some (k : Nat) (a0 a1 a2 a3 : Int) (t : ByteArray) (o : Int) (y v l h : ByteArray) (m : Int) :
    ∃ s e, wire_Req.f (k + 1) a0 a1 a2 a3 t o y v l h m = some (s, e) ∧ (e = 0 → 1 ≤ s.size ∧ s.size ≤ 2048) := by
  obtain ⟨b, e1, p1⟩ := may_req k a0 a1 a2 a3 t o y v l h m
  unfold wire_Req.f
  rw [e1, bsm]
  cases b with
  | false => exact ⟨_, _, if_neg (by decide), fun h => by cases h⟩
  | true =>
    obtain ⟨q0, q1, q2, q3, q4, q5⟩ := p1 rfl
    obtain ⟨n1, n2, n3⟩ := nums4 a0 a1 a2 a3 (by omega) q1 q2 q3
    obtain ⟨t1, t2⟩ := texts1 t (by omega)
    rw [if_pos rfl, n1, bsm, t1, bsm, if_pos (by omega)]
    by_cases h5 : a0 = 5
    · obtain ⟨r1, r2, r3, r4, r5, r6, r7, r8⟩ := q5 h5
      obtain ⟨m1, m2⟩ := nums1 o (by omega)
      obtain ⟨m3, m4⟩ := nums1 m (by omega)
      obtain ⟨u1, u2⟩ := texts4 y v l h (by omega) (by omega) (by omega) (by omega)
      rw [if_pos h5, m1, bsm, u1, bsm, if_pos (by omega), m3, bsm, if_pos (by rw [ByteArray.size_append]; omega), if_pos (by rw [ByteArray.size_append, ByteArray.size_append, ByteArray.size_append]; omega)]
      exact ⟨_, _, rfl, fun _ => by rw [ByteArray.size_append, ByteArray.size_append, ByteArray.size_append, ByteArray.size_append]; omega⟩
    · rw [if_neg h5]
      exact ⟨_, _, rfl, fun _ => by rw [ByteArray.size_append]; omega⟩
theorem w_one (i : Nat) (h : i < 4611686018427387904) : wrap64 ((i : Int) + 1) = ((i + 1 : Nat) : Int) := by
  unfold wrap64
  omega
theorem w_pred (i : Nat) (h : i < 4611686018427387904) (h1 : 1 ≤ i) : wrap64 ((i : Int) - 1) = ((i - 1 : Nat) : Int) := by
  unfold wrap64
  omega
theorem right_at (l : List S41) (hl : l.length ≤ 16) : ∀ (d i k : Nat), l.length + 1 - i = d → 1 ≤ i → d < k → ∃ b, table_Right.l0 k l (i : Int) = some b := by
  intro d
  induction d with
  | zero =>
    intro i k hd h1 hk
    obtain ⟨k, rfl⟩ : ∃ j, k = j + 1 := ⟨k - 1, by omega⟩
    rw [table_Right.l0, if_neg (by omega)]
    exact ⟨_, rfl⟩
  | succ d ih =>
    intro i k hd h1 hk
    obtain ⟨k, rfl⟩ : ∃ j, k = j + 1 := ⟨k - 1, by omega⟩
    rw [table_Right.l0]
    by_cases hx : (i : Int) < (l.length : Int)
    · rw [if_pos hx, w_pred i (by omega) h1, w_one i (by omega), if_pos (by omega), if_pos (by omega), if_pos (by omega)]
      split
      · exact ih (i + 1) k (by omega) (by omega) (by omega)
      · exact ⟨_, rfl⟩
    · rw [if_neg hx]
      exact ⟨_, rfl⟩
theorem right_some (l : List S41) (hl : l.length ≤ 16) : ∃ b, table_Right.f 20 l = some b := by
  unfold table_Right.f
  exact right_at l hl _ 1 20 rfl (Nat.le_refl _) (by omega)
/-- What a reply that may be keeps to. -/
theorem may_reply (a0 a1 a2 a3 : Int) (a4 : ByteArray) (a5 : Bool) (l6 : List S41) (a7 : Bool) :
    ∃ b, wire_mayReply.f a0 a1 a2 a3 a4 a5 l6 a7 = some b ∧ (b = true → (0 ≤ a0 ∧ a0 ≤ 1073741824) ∧ (0 ≤ a1 ∧ a1 ≤ 1073741824) ∧ (0 ≤ a2 ∧ a2 ≤ 1073741824) ∧ (0 ≤ a3 ∧ a3 ≤ 16) ∧ a4.size ≤ 64 ∧ l6.length ≤ 16 ∧ l6.any longP = false) := by
  unfold wire_mayReply.f
  by_cases c0 : numB a0 = false
  · rw [if_pos c0]
    exact ⟨_, rfl, fun h => by cases h⟩
  rw [if_neg c0]
  by_cases c1 : numB a1 = false
  · rw [if_pos c1]
    exact ⟨_, rfl, fun h => by cases h⟩
  rw [if_neg c1]
  by_cases c2 : numB a2 = false
  · rw [if_pos c2]
    exact ⟨_, rfl, fun h => by cases h⟩
  rw [if_neg c2]
  by_cases c3 : a3 < 0
  · rw [if_pos c3]
    exact ⟨_, rfl, fun h => by cases h⟩
  rw [if_neg c3]
  by_cases c4 : 16 < a3
  · rw [if_pos c4]
    exact ⟨_, rfl, fun h => by cases h⟩
  rw [if_neg c4]
  by_cases c5 : 64 < (a4.size : Int)
  · rw [if_pos c5]
    exact ⟨_, rfl, fun h => by cases h⟩
  rw [if_neg c5]
  by_cases c6 : 16 < (l6.length : Int)
  · rw [if_pos c6]
    exact ⟨_, rfl, fun h => by cases h⟩
  rw [if_neg c6]
  obtain ⟨b, hb⟩ := right_some l6 (by omega)
  rw [hb]
  cases b with
  | false =>
    rw [if_pos rfl]
    exact ⟨_, rfl, fun h => by cases h⟩
  | true =>
    rw [if_neg (by decide), if_pos rfl]
    by_cases c9 : l6.any longP = true
    · rw [if_pos c9]
      exact ⟨_, rfl, fun h => by cases h⟩
    · rw [if_neg c9]
      exact ⟨_, rfl, fun _ => ⟨numB_of (by simpa using c0), numB_of (by simpa using c1), numB_of (by simpa using c2), ⟨by omega, by omega⟩, by omega, by omega, Bool.eq_false_iff.mpr c9⟩⟩
theorem not_long {l : List S41} (h : l.any longP = false) (i : Nat) (hi : i < l.length) : (l[i]).f0.size ≤ 32 ∧ (l[i]).f1.size ≤ 64 := by
  have h1 := List.any_eq_false.1 h _ (List.getElem_mem hi)
  unfold longP at h1
  simp at h1
  omega
theorem reply_at (l : List S41) (hl : l.length ≤ 16) (ha : l.any longP = false) : ∀ (d i : Nat) (x : ByteArray) (k : Nat), l.length - i = d → i ≤ l.length → x.size + 102 * d ≤ 100000 → d < k →
    ∃ s, wire_Reply.l0 k x l (l.length : Int) (i : Int) = some (s, 0) ∧ x.size ≤ s.size ∧ s.size ≤ x.size + 102 * d := by
  intro d
  induction d with
  | zero =>
    intro i x k hd hi hx hk
    obtain ⟨k, rfl⟩ : ∃ j, k = j + 1 := ⟨k - 1, by omega⟩
    rw [wire_Reply.l0, if_neg (by omega)]
    exact ⟨x, rfl, Nat.le_refl _, by omega⟩
  | succ d ih =>
    intro i x k hd hi hx hk
    obtain ⟨k, rfl⟩ : ∃ j, k = j + 1 := ⟨k - 1, by omega⟩
    have hlt : i < l.length := by omega
    obtain ⟨s1, s2⟩ := not_long ha i hlt
    obtain ⟨t1, t2⟩ := texts2 (l[i]).f0 (l[i]).f1 (by omega) s2
    obtain ⟨s, e1, e2, e3⟩ := ih (i + 1) (x ++ textsW [(l[i]).f0, (l[i]).f1]) k (by omega) (by omega) (by rw [ByteArray.size_append]; omega) (by omega)
    rw [ByteArray.size_append] at e2 e3
    rw [wire_Reply.l0, if_pos (by omega), if_pos (by omega), if_pos (by omega), rd_pair l i hlt, t1, bsm, if_pos (by omega), w_one i (by omega)]
    exact ⟨s, e1, by omega, by omega⟩
theorem flag_some (b : Bool) : ∃ z, wire_flag.f b = some z ∧ 0 ≤ z ∧ z ≤ 1 := by
  unfold wire_flag.f
  cases b with
  | true => exact ⟨1, if_pos rfl, by omega, by omega⟩
  | false => exact ⟨0, if_neg (by decide), by omega, by omega⟩
/-- A reply's bytes: at most 2048. -/
theorem reply_some (a0 a1 a2 a3 : Int) (a4 : ByteArray) (a5 : Bool) (l6 : List S41) (a7 : Bool) :
    ∃ s e, wire_Reply.f 20 a0 a1 a2 a3 a4 a5 l6 a7 = some (s, e) ∧ (e = 0 → 1 ≤ s.size ∧ s.size ≤ 2048) := by
  obtain ⟨b, e1, p1⟩ := may_reply a0 a1 a2 a3 a4 a5 l6 a7
  unfold wire_Reply.f
  rw [e1, bsm]
  cases b with
  | false => exact ⟨_, _, if_neg (by decide), fun h => by cases h⟩
  | true =>
    obtain ⟨q0, q1, q2, q3, q4, q5, q6⟩ := p1 rfl
    obtain ⟨n1, n2, n3⟩ := nums4 a0 a1 a2 a3 q0 q1 q2 (by omega)
    obtain ⟨t1, t2⟩ := texts1 a4 q4
    obtain ⟨f1, g1, g2, g3⟩ := flag_some a5
    obtain ⟨f2, g4, g5, g6⟩ := flag_some a7
    obtain ⟨m1, m2⟩ := nums3 f1 f2 (l6.length : Int) (by omega) (by omega) (by omega)
    rw [if_pos rfl, n1, bsm, t1, bsm, if_pos (by omega), g1, bsm, g4, bsm, m1, bsm, if_pos (by rw [ByteArray.size_append]; omega)]
    obtain ⟨s, e2, e3, e4⟩ := reply_at l6 q5 q6 _ 0 ((numsS [a0, a1, a2, a3] ++ textsW [a4]) ++ numsS [f1, f2, (l6.length : Int)]) 20 rfl (Nat.zero_le _) (by rw [ByteArray.size_append, ByteArray.size_append]; omega) (by omega)
    rw [ByteArray.size_append, ByteArray.size_append] at e3 e4
    exact ⟨s, 0, e2, fun _ => by omega⟩
theorem shown_eq (k : Nat) : stanchionlaw16_shown.f (k + 1) = some true := by
  unfold stanchionlaw16_shown.f
  have hm : wire_MayReq.f (k + 1) 4 1 2 3 (⟨#[116]⟩ : ByteArray) 0 (⟨#[]⟩ : ByteArray) (⟨#[]⟩ : ByteArray) (⟨#[]⟩ : ByteArray) (⟨#[]⟩ : ByteArray) 0 = some true := by
    have he : (⟨#[]⟩ : ByteArray).toList = [] := by
      rw [Lib.toList_data]
    have ht : (⟨#[116]⟩ : ByteArray).toList = [116] := by
      rw [Lib.toList_data]
    unfold wire_MayReq.f
    rw [num_f, num_f, num_f, bsm, if_neg (by decide), if_neg (by decide), if_pos (by decide), bsm, if_pos (by decide), bsm, if_pos (by decide), wire_MayReq.j0, if_neg (by decide), if_neg (by decide)]
    simp [he, ht]
  obtain ⟨n1, n2, n3⟩ := nums4 4 1 2 3 (by omega) (by omega) (by omega) (by omega)
  obtain ⟨t1, t2⟩ := texts1 (⟨#[116]⟩ : ByteArray) (by decide)
  have h1 : (⟨#[116]⟩ : ByteArray).size = 1 := rfl
  have e : (numsS [4, 1, 2, 3] ++ textsW [(⟨#[116]⟩ : ByteArray)]).toList = ([52, 59, 49, 59, 50, 59, 51, 59, 49, 59, 116] : List UInt8) := by
    rw [Lib.toList_data, data_append]
    show glue (numP [4, 1, 2, 3]) ++ glue (textP [(⟨#[116]⟩ : ByteArray)]) = _
    simp only [numP, textP, List.map_cons, List.map_nil, glue, List.flatten_cons, List.flatten_nil, textW, data_append, numS_data, h1]
    rw [show (4 : Int).toNat = 4 from rfl, show (1 : Int).toNat = 1 from rfl, show (2 : Int).toNat = 2 from rfl, show (3 : Int).toNat = 3 from rfl, figL_small (by omega), figL_small (by omega), figL_small (by omega), figL_small (by omega)]
    rfl
  unfold wire_Req.f
  rw [hm, bsm, if_pos rfl, n1, bsm, t1, bsm, if_pos (by omega), if_neg (by decide), bsm, if_pos e]
  rfl
theorem Sizes (a0 a1 a2 a3 : Int) (t : ByteArray) (o : Int) (y v l h : ByteArray) (m : Int) (b0 b1 b2 b3 : Int) (b4 : ByteArray) (b5 : Bool) (b6 : List S41) (b7 : Bool) :
    ∃ k, stanchionlaw16_WireSizes.f k a0 a1 a2 a3 t o y v l h m b0 b1 b2 b3 b4 b5 b6 b7 = some true := by
  refine ⟨19 + 1, ?_⟩
  obtain ⟨s, e, r1, r2⟩ := req_some 19 a0 a1 a2 a3 t o y v l h m
  obtain ⟨x, f, p1, p2⟩ := reply_some b0 b1 b2 b3 b4 b5 b6 b7
  unfold stanchionlaw16_WireSizes.f
  rw [shown_eq, bsm, r1, bsm, p1, bsm, if_pos rfl]
  dsimp only
  have hp : (if f = 0 then (if (x.size : Int) > 0 then (some (decide ((x.size : Int) ≤ 2048))) else (some false)) else (some true)) = some true := by
    by_cases hf : f = 0
    · obtain ⟨u1, u2⟩ := p2 hf
      rw [if_pos hf, if_pos (by omega), decide_eq_true (by omega)]
    · rw [if_neg hf]
  by_cases he : e = 0
  · obtain ⟨u1, u2⟩ := r2 he
    rw [if_pos he, if_pos (by omega), if_pos (by omega)]
    exact hp
  · rw [if_neg he]
    exact hp
end Go.Proofs.Ytlpcidjmaeicoaa.WiP
