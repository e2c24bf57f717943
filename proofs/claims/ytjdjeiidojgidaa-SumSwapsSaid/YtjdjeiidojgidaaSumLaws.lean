/- The laws of sum that need no walk of their own, over the plain words. -/
import Derived.Test.YtjdjeiidojgidaaTextLaws
import Derived.Test.YtjdjeiidojgidaaSumMath
namespace Go.Proofs.Ytjdjeiidojgidaa.DecPure
open Go Go.RowKit Go.Proofs.Ytjdjeiidojgidaa.DecM Go.Proofs.Ytjdjeiidojgidaa.SumM Go.Proofs.Ytjdjeiidojgidaa.Giv Go.Proofs.Ytjdjeiidojgidaa.QDec Go.Proofs.YtjdjeiidojgidaaW.PrintWords Go.Proofs.YtjdjeiidojgidaaW.PrintLast

/-- Not told as an equation by definition: the kernel would compare the functions behind it. -/
theorem bsm {α β : Type} (a : α) (f : α → Option β) : (some a).bind f = f a := Eq.trans (Option.bind_some a f) (Eq.refl _)
theorem of_some {s : ByteArray} (h : s.size ≤ 9223372036854775807) : sum_Of.f s = some ((ofS s : Nat) : Int) := by
  unfold sum_Of.f
  rw [if_pos h]
theorem refof_some {s : ByteArray} (h : s.size ≤ 9223372036854775807) : stanchionref02_Of.f s = some ((ofS s : Nat) : Int) := by
  unfold stanchionref02_Of.f
  rw [if_pos h]
theorem of_lt (s : ByteArray) : ofS s < 4294967296 := by
  have := sum_lt s.data.toList
  unfold ofS sumV
  omega
/-- A sealed text. -/
def sealS (s : ByteArray) : ByteArray := textS s ++ numS (ofS s)
theorem textS_size (s : ByteArray) (h : s.size ≤ 4611686018427387904) : (textS s).size = (numS s.size).size + s.size ∧ (textS s).size ≤ s.size + 21 := by
  have := numS_size s.size (by omega)
  unfold textS
  rw [ByteArray.size_append]
  omega
theorem seal_size (s : ByteArray) (h : s.size ≤ 4611686018427387904) : (sealS s).size ≤ s.size + 42 := by
  have h1 := numS_size (ofS s) (by have := of_lt s; omega)
  have h2 := (textS_size s h).2
  unfold sealS
  rw [ByteArray.size_append]
  omega
theorem wrap_ofS (s : ByteArray) : IntKind.u64.wrap ((ofS s : Nat) : Int) = ((ofS s : Nat) : Int) := by
  have hlt := of_lt s
  rw [IntKind.wrap_u64]
  omega
theorem seal_some {s : ByteArray} (h : s.size ≤ 4611686018427387904) : sum_Seal.f s = some (sealS s) := by
  have hlt := of_lt s
  have h1 := numS_size (ofS s) (by omega)
  have h2 := (textS_size s h).2
  unfold sum_Seal.f dec_Text.f
  rw [if_pos h, of_some (by omega)]
  simp only [bsm]
  rw [wrap_ofS, num_some (by omega)]
  simp only [bsm, Int.toNat_natCast]
  rw [if_pos (by omega)]
  rfl
theorem refseal_some {s : ByteArray} (h : s.size ≤ 4611686018427387904) : stanchionref02_Seal.f s = some (sealS s) := by
  have hlt := of_lt s
  have h1 := numS_size (ofS s) (by omega)
  have h2 := (textS_size s h).2
  unfold stanchionref02_Seal.f stanchionref01_Text.f
  rw [if_pos h, refof_some (by omega)]
  simp only [bsm]
  rw [wrap_ofS, refn_some (by omega)]
  simp only [bsm, Int.toNat_natCast]
  rw [if_pos (by omega)]
  rfl
theorem sumshown_eq : stanchionlaw02_shown.f = some true := by
  have e1 : ofS (⟨#[]⟩ : ByteArray) = 1 := by decide
  have e2 : ofS (⟨#[97]⟩ : ByteArray) = 6422626 := by decide
  have e3 : (sealS (⟨#[97]⟩ : ByteArray)).toList = [49, 59, 97, 54, 52, 50, 50, 54, 50, 54, 59] := by
    unfold sealS textS
    rw [e2, show (⟨#[97]⟩ : ByteArray).size = 1 from rfl, Lib.toList_data, data_append, data_append, numS_data, numS_data, figL_small (by omega), figL_big (by omega), figL_big (by omega), figL_big (by omega), figL_big (by omega), figL_big (by omega), figL_big (by omega), figL_small (by omega)]
    rfl
  unfold stanchionlaw02_shown.f
  rw [of_some (by decide), of_some (by decide), seal_some (by decide)]
  simp only [bsm]
  rw [e1, e2, e3, if_pos (by decide), if_pos (by decide)]
  rfl
attribute [local irreducible] ofS sumL numS
theorem SOfs : stanchionlaw02_SumOfs.Pure := by
  intro s hs
  unfold stanchionlaw02_SumOfs.f
  rw [sumshown_eq, of_some (by omega), refof_some (by omega), seal_some (by omega), refseal_some (by omega)]
  simp
theorem u32_wf {a : Int} (h : (Lit.int .u32 a).wf = true) : 0 ≤ a ∧ a < 4294967296 := by
  have := bounds_u32 h
  omega
theorem SJoined : stanchionlaw02_SumJoined.Pure := by
  intro a b n ha hb hn
  have h : JoinOk a b n := ⟨u32_wf ha, u32_wf hb, i64_wf hn⟩
  unfold stanchionlaw02_SumJoined.f sum_Join.f stanchionref02_Join.f
  rw [sumshown_eq, if_pos h]
  simp
theorem of_parts (s : ByteArray) : ofS s % 65536 = (sumL (1, 0) s.data.toList).1 ∧ ofS s / 65536 = (sumL (1, 0) s.data.toList).2 := by
  have := sum_lt s.data.toList
  unfold ofS sumV
  omega
/-- A text behind another one. -/
theorem sumL_from (l : List UInt8) : ∀ (n x y : Nat), l.length = n → x < 65521 → y < 65521 →
    (sumL (x, y) l).1 = (x + (sumL (1, 0) l).1 + 65520) % 65521 ∧ (sumL (x, y) l).2 = (y + (sumL (1, 0) l).2 + n * ((x + 65520) % 65521)) % 65521 := by
  intro n
  induction n generalizing l with
  | zero =>
    intro x y hl hx hy
    rw [List.length_eq_zero_iff.mp hl]
    simp only [sumL_nil]
    omega
  | succ n ih =>
    intro x y hl hx hy
    have hne : l ≠ [] := by
      intro e
      rw [e] at hl
      simp at hl
    obtain ⟨a, c, rfl⟩ : ∃ a c, l = a ++ [c] := ⟨l.dropLast, l.getLast hne, (List.dropLast_concat_getLast hne).symm⟩
    obtain ⟨h1, h2⟩ := ih a x y (by simpa using hl) hx hy
    simp only [sumL_append, sumL_cons, sumL_nil, stepS, h1, h2]
    have hlt := sum_lt a
    generalize (sumL (1, 0) a).1 = A at *
    generalize (sumL (1, 0) a).2 = B at *
    have e : (n + 1) * ((x + 65520) % 65521) = n * ((x + 65520) % 65521) + (x + 65520) % 65521 := by
      rw [Nat.add_mul, Nat.one_mul]
    rw [e]
    generalize n * ((x + 65520) % 65521) = P at *
    have hc := c.toNat_lt
    generalize c.toNat = C at *
    clear e h1 h2 ih hl
    omega
theorem STwo : stanchionlaw02_SumTwo.Pure := by
  intro a b ha hb
  have h1 := of_lt a
  have h2 := of_lt b
  have hj : JoinOk ((ofS a : Nat) : Int) ((ofS b : Nat) : Int) (b.size : Int) := by
    unfold JoinOk
    omega
  have hla := sum_lt a.data.toList
  have hlb := sum_lt b.data.toList
  have hres : joinI ((ofS a : Nat) : Int) ((ofS b : Nat) : Int) (b.size : Int) = (((ofS (a ++ b) : Nat) : Int), 0) := by
    unfold joinI
    simp only [Int.toNat_natCast]
    rw [(of_parts a).1, (of_parts a).2, (of_parts b).1, (of_parts b).2]
    obtain ⟨k1, k2⟩ := sumL_from b.data.toList b.size (sumL (1, 0) a.data.toList).1 (sumL (1, 0) a.data.toList).2 (len_size b) hla.1 hla.2
    unfold joinS ofS sumV
    rw [if_neg (by omega), data_append, sumL_append, k1, k2, Int.toNat_natCast]
    have e1 : ((sumL (1, 0) a.data.toList).2 + (sumL (1, 0) b.data.toList).2 + b.size % 65521 * (((sumL (1, 0) a.data.toList).1 + 65520) % 65521)) % 65521 =
        ((sumL (1, 0) a.data.toList).2 + (sumL (1, 0) b.data.toList).2 + b.size * (((sumL (1, 0) a.data.toList).1 + 65520) % 65521)) % 65521 := by
      rw [Nat.add_mod, Nat.mod_mul_mod, ← Nat.add_mod]
    rw [e1]
  unfold stanchionlaw02_SumTwo.f sum_Join.f
  rw [sumshown_eq, of_some (by omega), of_some (by omega)]
  simp only [bsm]
  rw [if_pos hj, hres]
  simp only [bsm]
  rw [if_pos trivial, if_pos trivial, if_pos (by omega), of_some (by rw [ByteArray.size_append]; omega)]
  simp
theorem wrap_byte {c : Nat} (h : c < 256) : wrap64 (c : Int) = (c : Int) := by
  unfold wrap64
  omega
theorem tm_add (a c : Nat) (ha : a < 65521) (hc : c < 256) : Int.tmod (wrap64 ((a : Int) + (c : Int))) 65521 = (((a + c) % 65521 : Nat) : Int) := by
  have : wrap64 ((a : Int) + (c : Int)) = (a : Int) + (c : Int) := by
    unfold wrap64
    omega
  rw [this, Int.tmod_eq_emod_of_nonneg (by omega)]
  omega
theorem wrap_half {c : Nat} (h : c < 65521) : wrap64 (c : Int) = (c : Int) := by
  unfold wrap64
  omega
theorem tm_of (v : Nat) (h : v < 4294967296) : Int.tmod (v : Int) 65536 = ((v % 65536 : Nat) : Int) := by
  rw [Int.tmod_eq_emod_of_nonneg (by omega)]
  omega
theorem td_of (v : Nat) (h : v < 4294967296) : Int.tdiv (v : Int) 65536 % 4294967296 = ((v / 65536 : Nat) : Int) := by
  rw [Int.tdiv_eq_ediv_of_nonneg (by omega)]
  omega
theorem halves_from (s : ByteArray) (hs : s.size ≤ 140737488351232) (d : Nat) : ∀ (k i a b : Nat), s.size - i = d → i ≤ s.size → a < 65521 → d < k → (sumL (a, b) (s.data.toList.drop i)).1 = (sumL (1, 0) s.data.toList).1 →
    stanchionlaw02_SumHalves.l0 k s true ((ofS s : Nat) : Int) (a : Int) (i : Int) = some true := by
  have hlt := sum_lt s.data.toList
  have hof := of_lt s
  obtain ⟨hp1, hp2⟩ := of_parts s
  induction d with
  | zero =>
    intro k i a b hd hi ha hk he
    obtain ⟨k, rfl⟩ : ∃ m, k = m + 1 := ⟨k - 1, by omega⟩
    rw [data_none s i (by omega), sumL_nil] at he
    simp only [] at he
    replace he := he.symm
    simp only [stanchionlaw02_SumHalves.l0]
    have f1 : ¬ (i : Int) < (s.size : Int) := by omega
    have f2 : (a : Int) < 65521 := by omega
    have f3 : (((sumL (1, 0) s.data.toList).2 : Nat) : Int) < 65521 := by omega
    have e1 := tm_of (ofS s) hof
    have e2 := td_of (ofS s) hof
    rw [hp1, he] at e1
    rw [hp2] at e2
    have e3 := wrap_half ha
    rw [if_neg f1, if_pos trivial, e1, e2, e3, if_pos f2, if_pos f3]
    simp
  | succ d ih =>
    intro k i a b hd hi ha hk he
    obtain ⟨k, rfl⟩ : ∃ m, k = m + 1 := ⟨k - 1, by omega⟩
    have hl : i < s.size := by omega
    obtain ⟨u, hu, hbu⟩ := data_drop s i hl
    have hc := u.toNat_lt
    rw [hu, sumL_cons] at he
    simp only [stanchionlaw02_SumHalves.l0]
    have g1 : (i : Int) < (s.size : Int) := by omega
    have g2 : (0 : Int) ≤ (i : Int) := by omega
    have g3 : s.size - (i + 1) = d := by omega
    have g4 : i + 1 ≤ s.size := by omega
    have g5 : d < k := by omega
    have g6 : s.size ≤ 9223372036854775807 := by omega
    have e1 := tm_add a u.toNat ha hc
    rw [if_pos g1, if_pos g2, hbu, wrap_byte hc, e1, next_eq hl g6]
    exact ih k (i + 1) ((a + u.toNat) % 65521) _ g3 g4 (Nat.mod_lt _ (by decide)) g5 he
theorem SHalves : stanchionlaw02_SumHalves.Pure := by
  intro s hs
  refine ⟨s.size + 1, ?_⟩
  unfold stanchionlaw02_SumHalves.f
  rw [sumshown_eq, of_some (by omega)]
  simp only [bsm]
  have := halves_from s hs s.size (s.size + 1) 0 1 0 (by omega) (by omega) (by omega) (by omega) (by rw [List.drop_zero])
  simpa using this
/-- What sealed bytes open to. -/
def openS (f : ByteArray) (most : Int) : ByteArray × ByteArray × Int :=
  if ¬ (takeText f most).2.2 = 0 then (ByteArray.empty, ByteArray.empty, (takeText f most).2.2)
  else if ¬ (takeNum (takeText f most).2.1).2.2 = 0 then (ByteArray.empty, ByteArray.empty, (takeNum (takeText f most).2.1).2.2)
  else if ¬ (takeNum (takeText f most).2.1).1 = ((ofS (takeText f most).1 : Nat) : Int) then (ByteArray.empty, ByteArray.empty, 10)
  else ((takeText f most).1, (takeNum (takeText f most).2.1).2.1, 0)
theorem open_some (k : Nat) (f : ByteArray) (most : Int) (hf : f.size ≤ 9223372036854775807) (hm : most ≤ 9223372036854775807) : sum_Open.f (k + 1) f most = some (openS f most) := by
  obtain ⟨h1, h2⟩ := takeText_size f most
  unfold sum_Open.f openS
  rw [text_some k f most hf hm]
  simp only [bsm]
  generalize takeText f most = r at *
  by_cases c1 : r.2.2 = 0
  · rw [if_pos c1, if_neg (show ¬ ¬ r.2.2 = 0 from fun h => h c1), take_some (by omega)]
    simp only [bsm]
    generalize takeNum r.2.1 = q at *
    by_cases c2 : q.2.2 = 0
    · have hlt := of_lt r.1
      rw [if_pos c2, if_neg (show ¬ ¬ q.2.2 = 0 from fun h => h c2), of_some (by omega)]
      simp only [bsm]
      rw [wrap_ofS]
      by_cases c3 : q.1 = ((ofS r.1 : Nat) : Int)
      · rw [if_pos c3, if_neg (show ¬ ¬ q.1 = ((ofS r.1 : Nat) : Int) from fun h => h c3)]
      · rw [if_neg c3, if_pos c3]
        rfl
    · rw [if_neg c2, if_pos c2]
      rfl
  · rw [if_neg c1, if_pos c1]
    rfl
theorem refopen_some (k : Nat) (f : ByteArray) (most : Int) (hf : f.size ≤ 9223372036854775807) (hm : most ≤ 9223372036854775807) : stanchionref02_Open.f (k + 1) f most = some (openS f most) := by
  rw [← open_some k f most hf hm]
  have hp : ∀ s, stanchionref01_TakeNum.f s = dec_TakeNum.f s := fun _ => rfl
  have hq : ∀ s, stanchionref02_Of.f s = sum_Of.f s := fun _ => rfl
  unfold stanchionref02_Open.f sum_Open.f
  rw [reft_some k f most hf hm, text_some k f most hf hm]
  simp only [hp, hq]
theorem SOpens : stanchionlaw02_SumOpens.Pure := by
  intro f most hf hm
  have hm' := i64_wf hm
  refine ⟨0 + 1, ?_⟩
  unfold stanchionlaw02_SumOpens.f
  rw [sumshown_eq, open_some 0 f most (by omega) (by omega), refopen_some 0 f most (by omega) (by omega)]
  simp
theorem open_seal (s m : ByteArray) (most : Int) (hs : s.size ≤ 4611686018427387904) : openS (sealS s ++ m) most = if most < s.size then (ByteArray.empty, ByteArray.empty, 4) else (s, m, 0) := by
  have hlt := of_lt s
  have e64 := two64_eq
  have e : takeText (sealS s ++ m) most = if most < s.size then (ByteArray.empty, ByteArray.empty, 4) else (s, numS (ofS s) ++ m, 0) := by
    unfold sealS
    rw [ByteArray.append_assoc]
    exact text_back s (numS (ofS s) ++ m) most (by omega)
  unfold openS
  rw [e]
  by_cases h : most < s.size
  · rw [if_pos h, if_pos h]
    rfl
  · rw [if_neg h, if_neg h]
    simp only []
    rw [take_back (ofS s) (by omega) m]
    simp
theorem open_cut (s : ByteArray) (cut : Nat) (hs : s.size ≤ 4611686018427387904) (hc : cut < (sealS s).size) : (openS ((sealS s).extract 0 cut) s.size).2.2 = 2 := by
  have hlt := of_lt s
  have e64 := two64_eq
  have hsz : (sealS s).size = (numS s.size).size + s.size + (numS (ofS s)).size := by
    unfold sealS textS
    rw [ByteArray.size_append, ByteArray.size_append]
  have hE : takeText ((sealS s).extract 0 cut) s.size = (ByteArray.empty, ByteArray.empty, 2) → (openS ((sealS s).extract 0 cut) s.size).2.2 = 2 := by
    intro h
    unfold openS
    rw [h]
    simp
  have hnum : (sealS s) = numS s.size ++ (s ++ numS (ofS s)) := by
    unfold sealS textS
    rw [ByteArray.append_assoc]
  by_cases c1 : cut < (numS s.size).size
  · apply hE
    rw [hnum, extract_left _ _ _ (by omega)]
    unfold takeText
    rw [take_cut s.size (by omega) cut c1]
    simp
  · rw [hnum] at hE ⊢
    rw [extract_right _ _ _ (by omega)] at hE ⊢
    by_cases c2 : cut - (numS s.size).size < s.size
    · apply hE
      rw [extract_left _ _ _ (by omega)]
      unfold takeText
      rw [take_back s.size (by omega)]
      simp only []
      rw [if_neg (by simp), if_neg (by omega), if_pos (by rw [ByteArray.size_extract]; omega)]
    · rw [extract_right _ _ _ (by omega), ← ByteArray.append_assoc]
      have ht := text_back s ((numS (ofS s)).extract 0 (cut - (numS s.size).size - s.size)) s.size (by omega)
      rw [if_neg (by omega)] at ht
      unfold textS at ht
      unfold openS
      rw [ht]
      simp only []
      rw [take_cut (ofS s) (by omega) _ (by omega)]
      simp
theorem SBack : stanchionlaw02_SumBack.Pure := by
  intro s m cut hs hm hc
  have hc' := i64_wf hc
  have hz := seal_size s (by omega)
  refine ⟨(0 + 1) + 1, ?_⟩
  unfold stanchionlaw02_SumBack.f
  rw [sumshown_eq, seal_some (by omega)]
  simp only [bsm, stanchionlaw02_SumBack.j0]
  rw [if_pos (by omega), open_some (0 + 1) _ _ (by rw [ByteArray.size_append]; omega) (by omega), open_seal s m s.size (by omega), if_neg (by omega)]
  simp only [bsm]
  rw [if_pos trivial, if_pos trivial, if_neg (by decide)]
  by_cases h1 : cut < 0
  · rw [if_pos h1]
  rw [if_neg h1]
  by_cases h2 : cut ≥ ((sealS s).size : Int)
  · rw [if_pos h2]
  rw [if_neg h2, if_pos (by omega), if_pos (by omega), open_some 0 _ _ (by rw [ByteArray.size_extract]; omega) (by omega)]
  simp only [bsm]
  rw [if_pos trivial, open_cut s cut.toNat (by omega) (by omega)]
  simp
theorem SBound : stanchionlaw02_SumBound.Pure := by
  intro s most hs hm
  have hm' := i64_wf hm
  have hz := seal_size s (by omega)
  have e : sealS s ++ ByteArray.empty = sealS s := ByteArray.append_empty
  have hE : ByteArray.empty.toList = [] := by rw [Lib.toList_data]; rfl
  refine ⟨0 + 1, ?_⟩
  unfold stanchionlaw02_SumBound.f
  rw [sumshown_eq, seal_some (by omega)]
  simp only [bsm]
  rw [open_some 0 _ _ (by omega) (by omega), ← e, open_seal s ByteArray.empty most (by omega)]
  simp only [bsm]
  by_cases h : most < s.size
  · simp [h, hE]
  · simp [h]
end Go.Proofs.Ytjdjeiidojgidaa.DecPure
