/- The iterator over the frames that begin bytes, a law for a range over such an iterator, and the walk of frame.Whole. -/
import Derived.RangeFuncWrites
import Derived.Test.YtcepfdilbbbemaaWas
import Derived.Test.YtcepfdilbbbemaaTextLaws
import Derived.RangeFuncBox
import Derived.RangeFuncLeaves
import Derived.RangeFuncCalls
import Derived.Shelf.Abstract
import Derived.WalkKit
import Derived.OwnWalkIn
import Derived.TacticsInMore
import Derived.LoopNIn
import Derived.LoopIn
import Derived.Maps.AppendAt
import Derived.Lib.Hide
import Derived.Test.YtcepfdilbbbemaaWMore
import Derived.Deep.QuietTactic
import Derived.BigQuiet
import Derived.Sort.QuietIn
import Derived.Laws.EntriesVeiled
namespace Go.Proofs.Ytcepfdilbbbemaa.Range
open Go Go.RowKit
variable {F : Fence} {n : Nat} {P : Program}

/-- The iterator's contract: it hands over all of xs, in order; between two rounds it draws nothing, and turns no block but Bs. -/
def SeqSt {α : Type} (F : Fence) (n : Nat) (P : Program) (g : Nat) (lb : Array Value) (encs : α → Array Value) (Bs : Nat) (xs : List α) (w : World) : Prop :=
  ∀ (l : Nat) (J : List α → World → Prop) (W : World), W.heap[Bs]? = w.heap[Bs]? →
    (∀ s A B, J s A → A.grownBy B (some Bs) → J s B) →
    (∀ pre x W1, J pre W1 → pre.length < xs.length → YieldAt F (n - 1) P l (encs x) W1 fun e W' => e = .returned (.bool true) ∧ J (pre ++ [x]) W' ∧ W'.heap[Bs]? = W1.heap[Bs]?) →
    J [] W → CallsIn F n P g (#[.func (.yield l) #[] #[]] ++ lb) W fun e W' => (∃ v, e = .returned v) ∧ J xs W'
/-- How a round's body ends: off its end; no block that holds no cells was turned, nor the iterator's. -/
def RoundEnds {α : Type} (Bs : Nat) (I : List α → World → Prop) (xs : List α) (W : World) (e : Exit) (W' : World) : Prop :=
  e = .normal ∧ KeepsOthers W W' ∧ W'.heap[Bs]? = W.heap[Bs]? ∧ I xs W'
/-- The caller's own facts abide new blocks, the turn of the iterator's block, and that of a block from D on that holds no cells. -/
def Abide {α : Type} (Bs D : Nat) (I : List α → World → Prop) : Prop :=
  ∀ s A B row, I s A → A.grownBy B row → (∀ r, row = some r → r = Bs ∨ (D ≤ r ∧ ∃ o : Obj, A.heap[r]? = some o ∧ o.isCells = false)) → I s B

theorem range_st {α : Type} {g : Operand} {ps : Array Tmp} {assign body : Code} {Q : Exit → Act → World → Prop} {a : Act} {w : World}
    (hro : F.round = none) (h1 : 1 ≤ n) {gf : Nat} {lb : Array Value} (hg : a.eval g = .func (.func gf) #[] lb) (hFg : F.fn gf) (eg : ∀ args w, (callFunc gf args).run P w = .ok (.enter gf args) w)
    {encs : α → Array Value} {Bs : Nat} {xs : List α} (hseq : SeqSt F (n - 1) P gf lb encs Bs xs w) (hBs : Bs < w.heap.size) (hps : ∀ x, (encs x).size = ps.size)
    (I : List α → World → Prop) (hI : Abide Bs w.heap.size I) (h0 : I [] w) (a₁ : α → Act)
    (hassign : ∀ (l : Nat) (x : α) (W : World) (K : Act → World → Prop), K (a₁ x) W →
      assign.wpIn (F.inRound l) (n - 1 - 1) P (Exit.then K (fun _ _ _ => False)) { tmps := (ps.zip (encs x)).foldl (fun t (p, v) => t.setIfInBounds p v) a.tmps, defers := [] } W)
    (hbody : ∀ (l : Nat) (pre : List α) (x : α) (W : World), I pre W → pre.length < xs.length → body.wpIn (F.inRound l) (n - 1 - 1) P (fun e _ W' => RoundEnds Bs I (pre ++ [x]) W e W') (a₁ x) W)
    (hdone : ∀ (D : Nat) (W : World), w.heap.size ≤ D → I xs W → W.heap[D]? = some (.deferred (some [])) → Q .normal { a with defers := { target := .collected D, args := #[] } :: a.defers } W) :
    (Code.rangeFunc g ps assign body).wpIn F n P Q a w := by
  refine wpIn_rangeFunc fun fn hfn => ?_
  rw [hro]
  -- the record, in each of its states
  let rec_ : LoopState → Loop := fun st => { state := st, pending := none, fn := fn, tmps := a.tmps, params := ps, assign := assign, body := body, defers := w.heap.size }
  let W1 := (w.alloc (.deferred (some []))).alloc (.loop (rec_ .ready))
  have s1 : W1.heap.size = w.heap.size + 2 := by simp [W1]
  have l1 : W1.heap[w.heap.size + 1]? = some (.loop (rec_ .ready)) := by
    have h := World.alloc_heap_new (w.alloc (.deferred (some []))) (.loop (rec_ .ready))
    rwa [World.size_alloc] at h
  have d1 : W1.heap[w.heap.size]? = some (.deferred (some [])) := (Below.heap_alloc _ _ _ (by simp)).trans (World.alloc_heap_new w _)
  have i1 : I [] W1 := hI _ _ _ none (hI _ _ _ none h0 (World.grownBy_alloc w _ none) (fun r e => by cases e)) (World.grownBy_alloc _ _ none) (fun r e => by cases e)
  have b1 : W1.heap[Bs]? = w.heap[Bs]? := (Below.heap_alloc _ _ _ (by simp; omega)).trans (Below.heap_alloc _ _ _ hBs)
  -- turning the record keeps the caller's facts
  have turn : ∀ (s : List α) (W : World) (o o' : Obj), W.heap[w.heap.size + 1]? = some o → o.isCells = false → I s W → I s (W.putObj (w.heap.size + 1) o') := fun s W o o' ho hc hi =>
    hI s W _ (some (w.heap.size + 1)) hi (grownBy_putObj' W _ o') (fun r e => by cases e; exact .inr ⟨by omega, o, ho, hc⟩)
  refine ⟨w.heap.size + 1, [{ target := .collected w.heap.size, args := #[] }], W1, { target := .fn (.func gf) lb, args := #[.func (.yield (w.heap.size + 1)) #[] #[]] }, W1, gf,
    #[.func (.yield (w.heap.size + 1)) #[] #[]] ++ lb, W1, run_enterLoop_outer _ _ _ _ _, ?_, ?_, ?_, fun _ => h1, ?_⟩
  · simp only [resolve, hg]
    simp [go_sem]
  · intro f' hf'
    simp [Target.leads] at hf'
    subst hf'
    exact hFg
  · simp [invoke, go_sem, eg]
  -- the iterator's call, at the caller's facts with the two blocks of the loop beside them
  refine (hseq (w.heap.size + 1) (fun s W => I s W ∧ W.heap[w.heap.size + 1]? = some (.loop (rec_ .ready)) ∧ W.heap[w.heap.size]? = some (.deferred (some []))) W1 b1 ?_ ?_ ⟨i1, l1, d1⟩).mono ?_
  · rintro s A B ⟨hi, hl, hd⟩ hgr
    refine ⟨hI s A B _ hi hgr (fun r e => .inl (by cases e; rfl)), ?_, ?_⟩
    · exact (hgr.block _ (Array.getElem?_eq_some_iff.1 hl).1 (fun e => by cases e; omega)).trans hl
    · exact (hgr.block _ (Array.getElem?_eq_some_iff.1 hd).1 (fun e => by cases e; omega)).trans hd
  · rintro pre x W ⟨hi, hl, hd⟩ hlt
    have hin : w.heap.size + 1 < W.heap.size := (Array.getElem?_eq_some_iff.1 hl).1
    have hl2 : (W.putObj (w.heap.size + 1) (.loop (rec_ .busy))).heap[w.heap.size + 1]? = some (.loop (rec_ .busy)) := World.putObj_heap_same hin
    have hd2 : (W.putObj (w.heap.size + 1) (.loop (rec_ .busy))).heap[w.heap.size]? = some (.deferred (some [])) := (World.putObj_heap_other (by omega)).trans hd
    refine ⟨fn, _, assign, body, run_yield (r := rec_ .ready) hl (hps x), roundIn_of_wpIn hfn (hassign _ x W _ ⟨_, run_beginRound (r := rec_ .ready) hl rfl, ?_⟩)⟩
    refine wpIn_mono (hbody _ pre x _ (turn _ _ _ _ hl rfl hi) hlt) ?_
    rintro e a3 W3 ⟨rfl, hk, hB, hi3⟩
    have hl3 := hk.same _ _ hl2 rfl
    have hd3 := hk.same _ _ hd2 rfl
    refine ⟨_, _, run_endRound (r := rec_ .busy) none hl3, rfl, ⟨turn _ _ _ _ hl3 rfl hi3, World.putObj_heap_same (Array.getElem?_eq_some_iff.1 hl3).1, (World.putObj_heap_other (by omega)).trans hd3⟩, ?_⟩
    exact (World.putObj_heap_other (by omega)).trans (hB.trans (World.putObj_heap_other (by omega)))
  · rintro e W2 ⟨⟨v, rfl⟩, hi, hl, hd⟩
    exact ⟨none, _, run_endLoop (r := rec_ .ready) hl (by simp [rec_]), hdone _ _ (Nat.le_refl _) (turn _ _ _ _ hl rfl hi) ((World.putObj_heap_other (by omega)).trans hd)⟩
end Go.Proofs.Ytcepfdilbbbemaa.Range
namespace Go.Proofs.Ytcepfdilbbbemaa.Fr
open Go Go.RowKit Go.Proofs.Ytcepfdilbbbemaa.DecM Go.Proofs.Ytcepfdilbbbemaa.Giv Go.Proofs.Ytcepfdilbbbemaa.DecPure

theorem text_lt (s : ByteArray) (most : Int) (h : (takeText s most).2.2 = 0) : (takeText s most).2.1.size < s.size := by
  obtain ⟨e, _, h2⟩ := text_was s most h
  have hsz : s.size = (textS (takeText s most).1).size + (takeText s most).2.1.size := by
    conv => lhs; rw [e]
    exact ByteArray.size_append ..
  have h1 : 1 ≤ (textS (takeText s most).1).size := by
    unfold textS
    rw [ByteArray.size_append]
    have h : 1 ≤ (numS (takeText s most).1.size).size := by
      rw [← len_size, numS_data, List.length_append]
      exact Nat.le_add_left 1 _
    omega
  omega
/-- The frames that begin bytes, each with what stands behind it. -/
def framesF : Nat → ByteArray → List (ByteArray × ByteArray)
  | 0, _ => []
  | k + 1, s => if (takeText s 2048).2.2 = 0 then ((takeText s 2048).1, (takeText s 2048).2.1) :: framesF k (takeText s 2048).2.1 else []
def restF : Nat → ByteArray → ByteArray
  | 0, s => s
  | k + 1, s => if (takeText s 2048).2.2 = 0 then restF k (takeText s 2048).2.1 else s
theorem frames_fuel : ∀ (k j : Nat) (s : ByteArray), s.size < k → s.size < j → framesF k s = framesF j s ∧ restF k s = restF j s := by
  intro k
  induction k with
  | zero => intro j s h; omega
  | succ k ih =>
    intro j s h h'
    obtain ⟨j, rfl⟩ : ∃ i, j = i + 1 := ⟨j - 1, by omega⟩
    rw [framesF, framesF, restF, restF]
    by_cases hz : (takeText s 2048).2.2 = 0
    · have hlt := text_lt s 2048 hz
      obtain ⟨e1, e2⟩ := ih j (takeText s 2048).2.1 (by omega) (by omega)
      rw [if_pos hz, if_pos hz, if_pos hz, if_pos hz, e1, e2]
      exact ⟨rfl, rfl⟩
    · rw [if_neg hz, if_neg hz, if_neg hz, if_neg hz]
      exact ⟨rfl, rfl⟩
def pairs (s : ByteArray) : List (ByteArray × ByteArray) := framesF (s.size + 1) s
def rest (s : ByteArray) : ByteArray := restF (s.size + 1) s
theorem pairs_ok {s : ByteArray} (hz : (takeText s 2048).2.2 = 0) : pairs s = ((takeText s 2048).1, (takeText s 2048).2.1) :: pairs (takeText s 2048).2.1 := by
  have hlt := text_lt s 2048 hz
  unfold pairs
  rw [framesF, if_pos hz, (frames_fuel s.size ((takeText s 2048).2.1.size + 1) _ hlt (by omega)).1]
theorem rest_ok {s : ByteArray} (hz : (takeText s 2048).2.2 = 0) : rest s = rest (takeText s 2048).2.1 := by
  have hlt := text_lt s 2048 hz
  unfold rest
  rw [restF, if_pos hz, (frames_fuel s.size ((takeText s 2048).2.1.size + 1) _ hlt (by omega)).2]
theorem pairs_no {s : ByteArray} (hz : ¬ (takeText s 2048).2.2 = 0) : pairs s = [] := by
  unfold pairs
  rw [framesF, if_neg hz]
theorem rest_no {s : ByteArray} (hz : ¬ (takeText s 2048).2.2 = 0) : rest s = s := by
  unfold rest
  rw [restF, if_neg hz]
/-- What dec.TakeText answers. -/
theorem takeText_calls (s : ByteArray) (most : Int) (w : World) (hs : s.size ≤ 9223372036854775807) (hm : most ≤ 9223372036854775807) :
    Calls Try.prog 19 #[.string s, .int .i64 most] w fun e w' => e = .returned (.tuple #[.string (takeText s most).1, .string (takeText s most).2.1, .int .i64 (takeText s most).2.2]) ∧ Below w.heap.size w w' :=
  QDec.dec_TakeText.calls (0 + 1) s most _ _ _ w (text_some 0 s most hs hm)
theorem refTakeText_calls (s : ByteArray) (most : Int) (w : World) (hs : s.size ≤ 9223372036854775807) (hm : most ≤ 9223372036854775807) :
    Calls Try.prog 20 #[.string s, .int .i64 most] w fun e w' => e = .returned (.tuple #[.string (takeText s most).1, .string (takeText s most).2.1, .int .i64 (takeText s most).2.2]) ∧ Below w.heap.size w w' :=
  QDec.stanchionref01_TakeText.calls (0 + 1) s most _ _ _ w (reft_some 0 s most hs hm)
end Go.Proofs.Ytcepfdilbbbemaa.Fr
namespace Go.Proofs.Ytcepfdilbbbemaa.Fr
open Go Go.RowKit Go.Shelf Go.Proofs.Ytcepfdilbbbemaa.DecM Go.Proofs.Ytcepfdilbbbemaa.Giv Go.Proofs.Ytcepfdilbbbemaa.DecPure Go.Proofs.Ytcepfdilbbbemaa.Range
attribute [local go_sem] Oper.semAt_some

theorem grown_of_below {A B : World} (h : Below A.heap.size A B) (row : Option Nat) : A.grownBy B row := ⟨h.os, h.tape, h.output, h.size, fun k hk _ => h.block k hk⟩
theorem boxed_below {A B : World} {b t : Nat} {v : Value} (h : Boxed A b t v) (hb : Below A.heap.size A B) : Boxed B b t v := (hb.block b h.lt).trans h
/-- How many bytes are still to come, read off the iterator's cell. -/
def left (Bs : Nat) (W : World) : Nat := match W.cell? ⟨Bs, 0, none⟩ with
  | some (.string s) => s.size
  | _ => 0
theorem left_eq {Bs t : Nat} {W : World} {s : ByteArray} (h : Boxed W Bs t (.string s)) : left Bs W = s.size := by
  unfold left
  rw [h.cell]
set_option maxRecDepth 100000 in
set_option maxHeartbeats 1000000 in
theorem each_in (n l Bs : Nat) (s0 : ByteArray) (hs : s0.size ≤ 4611686018427387904) (J : List (ByteArray × ByteArray) → World → Prop) (hJ : ∀ s A B, J s A → A.grownBy B (some Bs) → J s B)
    (hY : ∀ pre x W1, J pre W1 → pre.length < (pairs s0).length → YieldAt Fence.wide (n - 1) Try.prog l #[.string x.1, .string x.2] W1 fun e W' => e = .returned (.bool true) ∧ J (pre ++ [x]) W' ∧ W'.heap[Bs]? = W1.heap[Bs]?)
    (W : World) (hb0 : Boxed W Bs 9 (.string s0)) (h0 : J [] W) :
    CallsIn Fence.wide n Try.prog 23 #[.func (.yield l) #[] #[], .pointer (some ⟨Bs, 0, none⟩)] W fun e W' => (∃ v, e = .returned v) ∧ J (pairs s0) W' := by
  refine callsIn_of_wp Try.func23 rfl trivial ?_ rfl
  simp only [Try.ntmps23, List.size_toArray, List.length_cons, List.length_nil, Nat.reduceAdd, Nat.reduceSub, Array.replicate_succ, Array.replicate_zero, List.push_toArray, List.append_toArray, List.nil_append, List.cons_append]
  have HJ := Lib.hid hJ
  have HY := Lib.hid hY
  clear hJ hY
  gi_wp2
  gi_loopw [3] (fun _ wr => ∃ (pre : List (ByteArray × ByteArray)) (cur : ByteArray), Hid (pairs s0 = pre ++ pairs cur) ∧ Hid (Boxed wr Bs 9 (.string cur)) ∧ Hid (J pre wr) ∧ Hid (cur.size ≤ s0.size))
    (fun _ wr => left Bs wr)
  case atStart => exact ⟨[], s0, Lib.hid rfl, Lib.hid hb0, Lib.hid h0, Lib.hid (Nat.le_refl _)⟩
  case round =>
    obtain ⟨pre, cur, HP, HB, HJc, HL⟩ := hrel
    have HT := Lib.hid fun w => takeText_calls cur 2048 w (by have := HL.out; omega) (by omega)
    by_cases hz : (takeText cur 2048).2.2 = 0
    · have hlt := Lib.hid (text_lt cur 2048 hz)
      have hpo := Lib.hid (pairs_ok hz)
      generalize takeText cur 2048 = r at HT hlt hpo hz
      obtain ⟨t, rr, z⟩ := r
      simp only at hz
      subst hz
      have hc := HB.out.cell
      gi_wp2_with (refine ⟨trivial, (fun h => absurd h (by decide)), ?_⟩; gi_at_call 19; refine (callsIn_wide.2 (HT.out _)).mono ?_; rintro e w1 ⟨rfl, hb1⟩; have HB1 := Lib.hid (boxed_below HB.out hb1); have HJ1 := Lib.hid (HJ.out _ _ _ HJc.out (grown_of_below hb1 _)); clear hb1 hc; obtain ⟨fn, tmps, assign, body, hy, hR⟩ := HY.out pre (t, rr) w1 HJ1.out (by rw [HP.out, hpo.out]; simp))
      refine ⟨(fun h => absurd h (by decide)), ?_⟩
      refine hR.mono ?_
      rintro e W3 ⟨rfl, hJ3, hB3⟩
      have HB3 := Lib.hid (show Boxed W3 Bs 9 (.string cur) from hB3.trans HB1.out)
      have HJ3 := Lib.hid hJ3
      have c3 := HB3.out.cell
      have f3 := HB3.out.frozen
      clear hJ3 hB3 hR hy
      gi_wp2
      go_roundw
      case rel => exact ⟨pre ++ [(t, rr)], rr, Lib.hid (by rw [HP.out, hpo.out]; simp), Lib.hid (HB3.out.set _), Lib.hid (HJ.out _ _ _ HJ3.out (grownBy_setCell' _ _ _)), Lib.hid (by have := hlt.out; have := HL.out; omega)⟩
      case measure => rw [left_eq (HB3.out.set _), left_eq HB.out]; exact hlt.out
    · have hpn := Lib.hid (pairs_no hz)
      generalize takeText cur 2048 = r at HT hpn hz
      obtain ⟨t, rr, z⟩ := r
      simp only at hz
      have hz1 : (z == 0) = false := by simpa using hz
      have hz2 : (z != 0) = true := by simpa using hz
      have hc := HB.out.cell
      clear hz
      gi_wp2_with (refine ⟨trivial, (fun h => absurd h (by decide)), ?_⟩; gi_at_call 19; refine (callsIn_wide.2 (HT.out _)).mono ?_; rintro e w1 ⟨rfl, hb1⟩; have HJ1 := Lib.hid (HJ.out _ _ _ HJc.out (grown_of_below hb1 _)); clear hb1 hc)
      refine ⟨(fun _ h => (by cases h)), ?_⟩
      gi_wp2
      refine bodyPost_ret (results_none rfl _ _ _) rfl ?_
      exact ⟨⟨_, rfl⟩, by rw [HP.out, hpn.out, List.append_nil]; exact HJ1.out⟩
theorem each_st (n Bs : Nat) (s0 : ByteArray) (hs : s0.size ≤ 4611686018427387904) (w : World) (hb : Boxed w Bs 9 (.string s0)) :
    SeqSt Fence.wide n Try.prog 23 #[.pointer (some ⟨Bs, 0, none⟩)] (fun x : ByteArray × ByteArray => #[.string x.1, .string x.2]) Bs (pairs s0) w :=
  fun l J W hW hJ hY h0 => each_in n l Bs s0 hs J hJ hY W (hW.trans hb) h0
set_option maxHeartbeats 1000000 in
theorem each_calls (s : ByteArray) (w : World) :
    Calls Try.prog 18 #[.string s] w fun e w' => e = .returned (.func (.func 23) #[] #[.pointer (some ⟨w.heap.size, 0, none⟩)]) ∧ w' = w.alloc (.cells #[.string s] 9) := by
  go_enter Try.func18, Try.ntmps18
  go_wp2
  go_ret
  exact ⟨rfl, rfl⟩
theorem infoStr : (Try.prog.info? 9).map (fun i => (i.zero, i.size, i.bytes)) = some (some (.string ByteArray.empty), 1, 16) := by kernel_rfl
end Go.Proofs.Ytcepfdilbbbemaa.Fr
namespace Go.Proofs.Ytcepfdilbbbemaa.Fr
open Go Go.RowKit Go.Shelf Go.Proofs.Ytcepfdilbbbemaa.DecM Go.Proofs.Ytcepfdilbbbemaa.Giv Go.Proofs.Ytcepfdilbbbemaa.DecPure Go.Proofs.Ytcepfdilbbbemaa.Range Go.Proofs.YtcepfdilbbbemaaW.PrintWords
attribute [local go_sem] Oper.semAt_some

theorem own_lower {w : World} {D B : Nat} {e : TypeId} {size n : Nat} {v : Value} {xs : List Value} (h : w.ownsRow D e size v n xs) (hB : B ≤ D) : w.ownsRow B e size v n xs := by
  obtain ⟨h1, h2⟩ := h
  refine ⟨h1, h2.imp id ?_⟩
  rintro ⟨g, cap, cur, e1, hg, r⟩
  exact ⟨g, cap, cur, e1, Nat.le_trans hB hg, r⟩
theorem own_at {w : World} {D : Nat} {e : TypeId} {size n : Nat} {v : Value} {xs : List Value} (h : w.ownsRow D e size v n xs) : ∀ b, v.ownBlock = some b → D ≤ b := by
  intro b hb
  rcases h.2 with ⟨rfl, _⟩ | ⟨g, cap, cur, rfl, hg, _⟩
  · simp [Value.ownBlock] at hb
  · obtain rfl : g = b := by simpa [Value.ownBlock] using hb
    exact hg
/-- What the closure of Whole leaves: its two boxes, the row that grew, all else as it was. -/
def Took (n₀ D Bl k : Nat) (xs : List Value) (t r : ByteArray) (W W' : World) : Prop :=
  KeepsOthers W W' ∧ Below n₀ W W' ∧ (∃ v', Boxed W' Bl 26 v' ∧ W'.ownsRow D 9 1 v' (k + 1) (xs ++ [.string t])) ∧ Boxed W' (Bl + 1) 9 (.string r) ∧
    ∀ b, b < D → b ≠ Bl → b ≠ Bl + 1 → W'.heap[b]? = W.heap[b]?
theorem took {n₀ D Bl k : Nat} {xs : List Value} {t r r0 : ByteArray} {W w1 : World} {v v' : Value} {tmp : Obj} (hl : Boxed W Bl 26 v) (hrow : W.ownsRow D 9 1 v k xs) (hr : Boxed W (Bl + 1) 9 (.string r0))
    (h0 : n₀ ≤ Bl) (h1 : Bl + 1 < D) (h2 : D ≤ W.heap.size) (hown' : w1.ownsRow D 9 1 v' (k + 1) (xs ++ [.string t])) (hg : (W.alloc tmp).grownBy w1 v.ownBlock) :
    (Boxed w1 Bl 26 v ∧ Boxed (w1.setCell ⟨Bl, 0, none⟩ v') (Bl + 1) 9 (.string r0)) ∧ Took n₀ D Bl k xs t r W ((w1.setCell ⟨Bl, 0, none⟩ v').setCell ⟨Bl + 1, 0, none⟩ (.string r)) := by
  have keep : ∀ b, b < D → w1.heap[b]? = W.heap[b]? := fun b hb =>
    (hg.block b (by rw [World.size_alloc]; omega) (fun e => by have := own_at hrow b e.symm; omega)).trans (Below.heap_alloc W tmp b (by omega))
  have b1 : Boxed w1 Bl 26 v := (keep Bl (by omega)).trans hl
  have b2 : Boxed w1 (Bl + 1) 9 (.string r0) := (keep (Bl + 1) h1).trans hr
  have g1 := grownBy_setCell' w1 Bl v'
  have b3 : Boxed (w1.setCell ⟨Bl, 0, none⟩ v') (Bl + 1) 9 (.string r0) := b2.kept g1 (fun e => by cases e)
  have b4 := b1.set v'
  have g2 := grownBy_setCell' (w1.setCell ⟨Bl, 0, none⟩ v') (Bl + 1) (.string r)
  have b5 := b4.kept g2 (fun e => by cases e)
  have o1 : (w1.setCell ⟨Bl, 0, none⟩ v').ownsRow D 9 1 v' (k + 1) (xs ++ [.string t]) := own_move hown' (fun b hb => g1.block b (by
    have h := own_at hown' b hb
    rcases hown'.2 with ⟨rfl, h⟩ | ⟨g, cap, cur, rfl, hg, hh, _⟩
    · simp at h
    · obtain rfl : g = b := by simpa [Value.ownBlock] using hb
      exact (Array.getElem?_eq_some_iff.1 hh).1) (fun e => by have := own_at hown' b hb; cases e; omega))
  have o2 : ((w1.setCell ⟨Bl, 0, none⟩ v').setCell ⟨Bl + 1, 0, none⟩ (.string r)).ownsRow D 9 1 v' (k + 1) (xs ++ [.string t]) := own_move o1 (fun b hb => g2.block b (by
    rcases o1.2 with ⟨rfl, h⟩ | ⟨g, cap, cur, rfl, hg, hh, _⟩
    · simp at h
    · obtain rfl : g = b := by simpa [Value.ownBlock] using hb
      exact (Array.getElem?_eq_some_iff.1 hh).1) (fun e => by have := own_at hown' b hb; cases e; omega))
  have s1 : W.heap.size ≤ w1.heap.size := by have := hg.size; rw [World.size_alloc] at this; omega
  refine ⟨⟨b1, b3⟩, ?_, ?_, ⟨v', b5, o2⟩, b3.set _, ?_⟩
  · refine (((KeepsOthers.alloc W tmp).trans (KeepsOthers.of_grownBy hg fun j o ej hj => ?_)).trans (KeepsOthers.setCell _ _ _)).trans (KeepsOthers.setCell _ _ _)
    rcases (hrow.alloc tmp).2 with ⟨rfl, _⟩ | ⟨g, cap, cur, rfl, _, hgb, _⟩
    · simp [Value.ownBlock] at ej
    · obtain rfl : g = j := by simpa [Value.ownBlock] using ej
      rw [hgb] at hj
      cases hj
      rfl
  · have h := (((Below.refl n₀ W).alloc (by omega) tmp).grown hg (by rw [World.size_alloc]; omega) (fun j ej => by have := own_at hrow j ej; omega))
    exact (h.grown g1 (by omega) (fun j ej => by cases ej; omega)).grown g2 (by have := g1.size; omega) (fun j ej => by cases ej; omega)
  · intro b hb hne1 hne2
    have e1 := g1.block b (by omega) (fun e => hne1 (by cases e; rfl))
    have e2 := g2.block b (by have := g1.size; omega) (fun e => hne2 (by cases e; rfl))
    exact e2.trans (e1.trans (keep b hb))
set_option maxRecDepth 100000 in
set_option maxHeartbeats 1000000 in
theorem take1_calls (n₀ D Bl k : Nat) (xs : List Value) (t r r0 : ByteArray) (W : World) (v : Value) (hl : Boxed W Bl 26 v) (hrow : W.ownsRow D 9 1 v k xs) (hr : Boxed W (Bl + 1) 9 (.string r0))
    (h0 : n₀ ≤ Bl) (h1 : Bl + 1 < D) (h2 : D ≤ W.heap.size) (hk : k ≤ 4398046511104) :
    Calls Try.prog 17 #[.string t, .string r, .pointer (some ⟨Bl, 0, none⟩), .pointer (some ⟨Bl + 1, 0, none⟩)] W fun e W' => e = .returned (.tuple #[]) ∧ Took n₀ D Bl k xs t r W W' := by
  obtain ⟨i0, hi, hz0, hz1, hz2⟩ := info_parts infoStr
  have hc := hl.cell
  have HL := Lib.hid hl
  have HR := Lib.hid hr
  have HO := Lib.hid hrow
  clear hl hr hrow
  go_enter Try.func17, Try.ntmps17
  go_wp2_with (at_builtin; refine wpList_append_own _ rfl _ _ 26 rfl D 9 i0 (.string ByteArray.empty) 1 16 Try.underlying26 hi hz0 hz1 hz2 rfl (by decide) _ _ _ rfl (HO.out.alloc _) ⟨W.heap.size, 0, none⟩ 1 1 [.string t] rfl rfl (cell_one_new _ _ _) (by simp [Value.oneCell']) (by unfold maxLen; omega) (by omega) (by simp; omega) ?_; intro v' w1 hown' hgrow _; obtain ⟨g', cap', rfl⟩ := ownsRow_succ hown'; obtain ⟨⟨hv1, hv3⟩, HT⟩ := took (r := r) HL.out HO.out HR.out h0 h1 h2 hown' hgrow; have HT := Lib.hid HT; have hc1 := hv1.cell; have hf1 := hv1.frozen; have hc3 := hv3.cell; have hf3 := hv3.frozen; clear hv1 hv3 hown' hgrow hc)
  go_end0
  exact ⟨rfl, HT.out⟩
end Go.Proofs.Ytcepfdilbbbemaa.Fr
namespace Go.Proofs.Ytcepfdilbbbemaa.Fr
open Go Go.RowKit Go.Shelf Go.Proofs.Ytcepfdilbbbemaa.DecM Go.Proofs.Ytcepfdilbbbemaa.Giv Go.Proofs.Ytcepfdilbbbemaa.DecPure Go.Proofs.Ytcepfdilbbbemaa.Range Go.Proofs.YtcepfdilbbbemaaW.PrintWords
attribute [local go_sem] Oper.semAt_some

/-- What stands behind the last frame that came. -/
def lastR (s : ByteArray) (pre : List (ByteArray × ByteArray)) : ByteArray := match pre.getLast? with
  | some x => x.2
  | none => s
theorem lastR_snoc (s : ByteArray) (pre : List (ByteArray × ByteArray)) (x : ByteArray × ByteArray) : lastR s (pre ++ [x]) = x.2 := by
  simp [lastR]
theorem lastR_cons (s t r : ByteArray) (l : List (ByteArray × ByteArray)) : lastR s ((t, r) :: l) = lastR r l := by
  unfold lastR
  cases l with
  | nil => rfl
  | cons y l =>
    obtain ⟨z, hz⟩ : ∃ z, (y :: l).getLast? = some z := ⟨_, List.getLast?_eq_some_getLast (by simp)⟩
    rw [List.getLast?_cons_cons, hz]
theorem lastR_all : ∀ (k : Nat) (s : ByteArray), s.size < k → lastR s (pairs s) = rest s := by
  intro k
  induction k with
  | zero => intro s h; omega
  | succ k ih =>
    intro s h
    by_cases hz : (takeText s 2048).2.2 = 0
    · have hlt := text_lt s 2048 hz
      rw [pairs_ok hz, rest_ok hz, lastR_cons]
      exact ih _ (by omega)
    · rw [pairs_no hz, rest_no hz]
      rfl
theorem pairs_len : ∀ (k : Nat) (s : ByteArray), s.size < k → (pairs s).length + (rest s).size ≤ s.size := by
  intro k
  induction k with
  | zero => intro s h; omega
  | succ k ih =>
    intro s h
    by_cases hz : (takeText s 2048).2.2 = 0
    · have hlt := text_lt s 2048 hz
      have h2 := ih (takeText s 2048).2.1 (by omega)
      rw [pairs_ok hz, rest_ok hz, List.length_cons]
      omega
    · rw [pairs_no hz, rest_no hz]
      simp
/-- The texts that came, as cells. -/
def txt (pre : List (ByteArray × ByteArray)) : List Value := pre.map fun x => .string x.1
theorem txt_snoc (pre : List (ByteArray × ByteArray)) (t r : ByteArray) : txt (pre ++ [(t, r)]) = txt pre ++ [.string t] := by simp [txt]
/-- What holds between two rounds; B: the heap's size when Whole was called. -/
def Inv (s : ByteArray) (w0 : World) (pre : List (ByteArray × ByteArray)) (W : World) : Prop :=
  (∃ v, Boxed W w0.heap.size 26 v ∧ W.ownsRow (w0.heap.size + 4) 9 1 v pre.length (txt pre)) ∧ Boxed W (w0.heap.size + 1) 9 (.string (lastR s pre)) ∧
    Boxed W (w0.heap.size + 1 + 1) 45 (.func (.func 17) #[] #[.pointer (some ⟨w0.heap.size, 0, none⟩), .pointer (some ⟨w0.heap.size + 1, 0, none⟩)]) ∧ Below w0.heap.size w0 W ∧ w0.heap.size + 4 ≤ W.heap.size
theorem box_keep {A B : World} {b t Bs D : Nat} {row : Option Nat} {v : Value} (h : Boxed A b t v) (hg : A.grownBy B row) (hb : b ≠ Bs) (hr : ∀ r, row = some r → r = Bs ∨ (D ≤ r ∧ ∃ o : Obj, A.heap[r]? = some o ∧ o.isCells = false)) : Boxed B b t v := by
  refine h.kept hg (fun e => ?_)
  rcases hr b e.symm with h1 | ⟨_, o, ho, hc⟩
  · exact hb h1
  · rw [show A.heap[b]? = _ from h] at ho
    cases ho
    cases hc
theorem inv_abide (s : ByteArray) (w0 : World) (D : Nat) (hD : w0.heap.size ≤ D) : Abide (w0.heap.size + 1 + 1 + 1) D (Inv s w0) := by
  rintro pre A B row ⟨⟨v, h1, h2⟩, h3, h4, h5, h6⟩ hg hr
  refine ⟨⟨v, box_keep h1 hg (by omega) hr, ?_⟩, box_keep h3 hg (by omega) hr, box_keep h4 hg (by omega) hr, h5.grown hg (by omega) (fun k e => by rcases hr k e with h | ⟨h, _⟩ <;> omega), by have := hg.size; omega⟩
  refine own_move h2 (fun b hb => ?_)
  have hge := own_at h2 b hb
  obtain ⟨cells, hc⟩ := own_typed h2 b hb
  refine hg.block b (Array.getElem?_eq_some_iff.1 hc).1 (fun e => ?_)
  rcases hr b e.symm with h | ⟨_, o, ho, hn⟩
  · omega
  · rw [hc] at ho
    cases ho
    cases hn
theorem inv_step {s : ByteArray} {w0 W W' : World} {pre : List (ByteArray × ByteArray)} {t r : ByteArray} {v : Value} (h4 : Boxed W (w0.heap.size + 1 + 1) 45 v)
    (h5 : Below w0.heap.size w0 W) (h6 : w0.heap.size + 4 ≤ W.heap.size) (hv : v = .func (.func 17) #[] #[.pointer (some ⟨w0.heap.size, 0, none⟩), .pointer (some ⟨w0.heap.size + 1, 0, none⟩)])
    (h : Took w0.heap.size (w0.heap.size + 4) w0.heap.size pre.length (txt pre) t r W W') : RoundEnds (w0.heap.size + 1 + 1 + 1) (Inv s w0) (pre ++ [(t, r)]) W .normal W' := by
  obtain ⟨k1, k2, ⟨v', k3, k4⟩, k5, k6⟩ := h
  subst hv
  refine ⟨rfl, k1, k6 _ (by omega) (by omega) (by omega), ⟨v', k3, ?_⟩, by rw [lastR_snoc]; exact k5, (k6 _ (by omega) (by omega) (by omega)).trans h4, h5.trans k2, by have := k2.size; omega⟩
  rw [txt_snoc, List.length_append]
  exact k4
/-- What Whole answers, and leaves. -/
def Whole (s : ByteArray) (w : World) (e : Ending) (w' : World) : Prop :=
  ∃ v, e = .returned (.tuple #[v, .int .i64 ((s.size : Int) - ((rest s).size : Int)), .bool ((takeText (rest s) 2048).2.2 == 2)]) ∧ w'.ownsRow w.heap.size 9 1 v (pairs s).length (txt (pairs s)) ∧ Below w.heap.size w w'
set_option maxRecDepth 100000 in
set_option maxHeartbeats 4000000 in
theorem whole_in (s : ByteArray) (w : World) (hs : s.size ≤ 1099511627776) : CallsIn Fence.wide 5 Try.prog 12 #[.string s] w (Whole s w) := by
  have hpl := pairs_len _ s (Nat.lt_succ_self _)
  have HLR := Lib.hid (lastR_all _ s (Nat.lt_succ_self _))
  have HPL := Lib.hid hpl
  have HT := Lib.hid fun w => takeText_calls (rest s) 2048 w (by omega) (by omega)
  have HW : Hid (∀ (v : Value) (w' : World), w'.ownsRow w.heap.size 9 1 v (pairs s).length (txt (pairs s)) → Below w.heap.size w w' → Whole s w (.returned (.tuple #[v, .int .i64 ((s.size : Int) - ((rest s).size : Int)), .bool ((takeText (rest s) 2048).2.2 == 2)])) w') := Lib.hid fun v w' h1 h2 => ⟨v, rfl, h1, h2⟩
  clear hpl
  refine callsIn_of_wp_marks Try.func12 rfl trivial ?_ rfl
  simp only [Try.ntmps12, List.size_toArray, List.length_cons, List.length_nil, Nat.reduceAdd, Nat.reduceSub, Array.replicate_succ, Array.replicate_zero, List.push_toArray, List.append_toArray, List.nil_append, List.cons_append]
  gi_wp2_with (refine ⟨trivial, ?_⟩; gi_at_call 18; refine (callsIn_wide.2 (each_calls s _)).mono ?_; rintro e w' ⟨rfl, rfl⟩)
  have b0 := (((Boxed.new w 26 (.slice none 0 0)).alloc (.cells #[.string s] 9)).alloc (.cells #[.func (.func 17) #[] #[.pointer (some ⟨w.heap.size, 0, none⟩), .pointer (some ⟨w.heap.size + 1, 0, none⟩)]] 45)).alloc (.cells #[.string s] 9)
  have b1 := ((Boxed.new (w.alloc (.cells #[.slice none 0 0] 26)) 9 (.string s)).alloc (.cells #[.func (.func 17) #[] #[.pointer (some ⟨w.heap.size, 0, none⟩), .pointer (some ⟨w.heap.size + 1, 0, none⟩)]] 45)).alloc (.cells #[.string s] 9)
  have b2 := (Boxed.new ((w.alloc (.cells #[.slice none 0 0] 26)).alloc (.cells #[.string s] 9)) 45 (.func (.func 17) #[] #[.pointer (some ⟨w.heap.size, 0, none⟩), .pointer (some ⟨w.heap.size + 1, 0, none⟩)])).alloc (.cells #[.string s] 9)
  have b3 := Boxed.new (((w.alloc (.cells #[.slice none 0 0] 26)).alloc (.cells #[.string s] 9)).alloc (.cells #[.func (.func 17) #[] #[.pointer (some ⟨w.heap.size, 0, none⟩), .pointer (some ⟨w.heap.size + 1, 0, none⟩)]] 45)) 9 (.string s)
  simp only [World.size_alloc] at b1 b2 b3
  have hB : Below w.heap.size w ((((w.alloc (.cells #[.slice none 0 0] 26)).alloc (.cells #[.string s] 9)).alloc (.cells #[.func (.func 17) #[] #[.pointer (some ⟨w.heap.size, 0, none⟩), .pointer (some ⟨w.heap.size + 1, 0, none⟩)]] 45)).alloc (.cells #[.string s] 9)) :=
    ((((Below.refl _ w).alloc (Nat.le_refl _) _).alloc (by simp) _).alloc (by simp; omega) _).alloc (by simp; omega) _
  refine range_st (Bs := w.heap.size + 1 + 1 + 1) rfl (by omega) (gf := 23) (lb := #[.pointer (some ⟨w.heap.size + 1 + 1 + 1, 0, none⟩)]) rfl trivial (enters_of Try.func23 (by kernel_rfl) rfl)
    (each_st _ _ s (by omega) _ b3) (by simp) (fun _ => rfl) (Inv s w) (inv_abide s w _ (by simp; omega))
    ⟨⟨_, b0, World.ownsRow_nil _ _ _ _⟩, b1, b2, hB, by simp⟩
    (fun x => { tmps := #[.string s, undef, .slice none 0 0, .int .i64 0, .bool false, .pointer (some ⟨w.heap.size, 0, none⟩), .pointer (some ⟨w.heap.size + 1, 0, none⟩), .pointer (some ⟨w.heap.size + 1 + 1, 0, none⟩), .string x.1, .string x.2, undef, undef, undef, .string s, .func (.func 17) #[] #[.pointer (some ⟨w.heap.size, 0, none⟩), .pointer (some ⟨w.heap.size + 1, 0, none⟩)], .string s, .func (.func 23) #[] #[.pointer (some ⟨w.heap.size + 1 + 1 + 1, 0, none⟩)], .string x.1, .string x.2, undef, undef, undef, undef, undef, undef, undef, undef, undef, undef, undef, undef, undef, undef, undef, undef, undef, undef], defers := [] }) ?assign ?body ?done
  case assign =>
    intro l x W K hK
    gi_wp2
    exact hK
  case body =>
    rintro l pre ⟨t, r⟩ W ⟨⟨v, h1, h2⟩, h3, h4, h5, h6⟩ hlt
    have hc := h4.cell
    have H4 := Lib.hid h4
    have H5 := Lib.hid h5
    have H6 := Lib.hid h6
    have HC := Lib.hid (take1_calls w.heap.size (w.heap.size + 4) w.heap.size pre.length (txt pre) t r _ W v h1 h2 h3 (Nat.le_refl _) (by omega) h6 (by have := HPL.out; omega))
    clear h1 h2 h3 h4 h5 h6 b0 b1 b2 b3 hB
    gi_wp2_with (refine ⟨trivial, ?_⟩; gi_at_call 17; refine (CallsIn.inRound l (callsIn_wide.2 HC.out)).mono ?_; rintro e w' ⟨rfl, h⟩; have HK := Lib.hid h; clear h hc)
    exact inv_step H4.out H5.out H6.out rfl HK.out
  case done =>
    rintro D W hD ⟨⟨v, h1, h2⟩, h3, h4, h5, h6⟩ hK
    rw [HLR.out] at h3
    have hpl := HPL.out
    have hRs : (rest s).size ≤ s.size := by omega
    clear b0 b1 b2 b3 hB HLR HPL h4 h6 hpl
    generalize rest s = R at *
    generalize takeText R 2048 = q at HT HW
    obtain ⟨q1, q2, z⟩ := q
    have hc := h3.cell
    have H1 := Lib.hid h1
    have H2 := Lib.hid h2
    have H3 := Lib.hid h3
    have H5 := Lib.hid h5
    have HKK := Lib.hid hK
    have HD := Lib.hid hD
    clear h1 h2 h3 h5 hK hD
    gi_wp2_with (refine ⟨trivial, ?_⟩; gi_at_call 19; refine (callsIn_wide.2 (HT.out _)).mono ?_; rintro e w2 ⟨rfl, hb2⟩; have HB2 := Lib.hid hb2; have c1 := (boxed_below H1.out hb2).cell; have c3 := (boxed_below H3.out hb2).cell; clear hb2 hc)
    have hsub : IntKind.i64.wrap ((s.size : Int) - (R.size : Int)) = (s.size : Int) - (R.size : Int) := by
      rw [IntKind.wrap_i64]
      omega
    have hsub2 : 0 ≤ (s.size : Int) - (R.size : Int) := by omega
    gi_quiet (fail)
    have hKd : (w2.drewN nq).heap[D]? = some (.deferred (some [])) := by
      rw [World.heap_drewN]
      exact (HB2.out.block D (Array.getElem?_eq_some_iff.1 HKK.out).1).trans HKK.out
    have hown : ((w2.drewN nq).putObj D (.deferred none)).ownsRow w.heap.size 9 1 v (pairs s).length (txt (pairs s)) := by
      refine own_lower (B := w.heap.size) (ownsRow_putObj (own_move (w1 := w2.drewN nq) H2.out (fun k hk => ?_)) _ hKd rfl) (by omega)
      obtain ⟨cells, hc⟩ := own_typed H2.out k hk
      rw [World.heap_drewN]
      exact HB2.out.block k (Array.getElem?_eq_some_iff.1 hc).1
    have hbel : Below w.heap.size w ((w2.drewN nq).putObj D (.deferred none)) := by
      have hd := HD.out
      simp only [World.size_alloc] at hd
      refine ((H5.out.trans (HB2.out.mono H5.out.size)).trans (⟨rfl, rfl, rfl, Nat.le_refl _, fun _ _ => rfl⟩ : Below w.heap.size w2 (w2.drewN nq))).grown (grownBy_putObj' _ D _) ?_ (fun k e => by cases e; omega)
      rw [World.heap_drewN]
      have h1 := H5.out.size
      have h2 := HB2.out.size
      omega
    gi_wp2
    refine ⟨by simp, .inl ⟨_, _, rfl, run_takeDeferred hKd, ?_⟩⟩
    exact ⟨_, by simp [results, Try.results12, go_sem], HW.out v _ hown hbel⟩
theorem whole_calls (s : ByteArray) (w : World) (hs : s.size ≤ 1099511627776) : Calls Try.prog 12 #[.string s] w (Whole s w) := callsIn_wide.1 (whole_in s w hs)
end Go.Proofs.Ytcepfdilbbbemaa.Fr
