/- The walk of frame.Feed; the contracts of frame.Whole, frame.Feed and of dec's texts, as the printed texts call them. -/
import Derived.Test.YtcepfdilbbbemaaFrameWalk
import Derived.Lib.ConvBytes
import Derived.Lib.SmallJoins
import Derived.Laws.CopyOwn
import Derived.OneCell
import Derived.Below
import Derived.Test.YtcepfdilbbbemaaGiv
namespace Go.Proofs.Ytcepfdilbbbemaa.Fr
open Go Go.RowKit Go.Proofs.Ytcepfdilbbbemaa.DecM Go.Proofs.Ytcepfdilbbbemaa.Giv Go.Proofs.Ytcepfdilbbbemaa.DecPure Go.Proofs.Ytcepfdilbbbemaa.Range Go.Proofs.YtcepfdilbbbemaaW.PrintWords

theorem cell_heap {w : World} {b : Nat} {cs : Array Value} {T : TypeId} {fr : Nat × Nat} (hb : w.heap[b]? = some (.cells cs T fr)) (j : Nat) : w.cell? ⟨b, j, none⟩ = cs[j]? := by
  simp [World.cell?, hb]
theorem frozen_heap {w : World} {b : Nat} {cs : Array Value} {T : TypeId} (hb : w.heap[b]? = some (.cells cs T (0, 0))) (j : Nat) : w.frozen? ⟨b, j, none⟩ = false := by
  simp [World.frozen?, hb]
theorem res_cells {w : World} {b : Nat} {u0 u1 x y : Value} (d0 : w.cell? ⟨b, 0, none⟩ = some u0) (d1 : w.cell? ⟨b, 1, none⟩ = some u1) :
    (w.setCell ⟨b, 0, none⟩ x).cell? ⟨b, 0, none⟩ = some x ∧ ((w.setCell ⟨b, 0, none⟩ x).setCell ⟨b, 1, none⟩ y).cell? ⟨b, 1, none⟩ = some y := by
  have h : (w.setCell ⟨b, 0, none⟩ x).cell? ⟨b, 1, none⟩ = some u1 := by
    rw [World.cell?_setCell_other w ⟨b, 0, none⟩ ⟨b, 1, none⟩ x (by intro e; cases e)]
    exact d1
  exact ⟨World.cell?_setCell_same w ⟨b, 0, none⟩ x d0, World.cell?_setCell_same _ ⟨b, 1, none⟩ y h⟩
theorem grown_set (W : World) (b o : Nat) (v : Value) : W.grownBy (W.setCell ⟨b, o, none⟩ v) (some b) := by
  refine ⟨rfl, rfl, rfl, by simp [World.setCell], fun k hk hne => ?_⟩
  have hb : k ≠ b := fun e => hne (by rw [e])
  exact Below.heap_setCell W _ _ _ hb
theorem own_set {W : World} {D : Nat} {e : TypeId} {size n : Nat} {v : Value} {xs : List Value} (h : W.ownsRow D e size v n xs) (b o : Nat) (hb : b < D) (x : Value) : (W.setCell ⟨b, o, none⟩ x).ownsRow D e size v n xs := by
  refine own_move h (fun k hk => ?_)
  have hge := own_at h k hk
  obtain ⟨cells, hc⟩ := own_typed h k hk
  exact (grown_set W b o x).block k (Array.getElem?_eq_some_iff.1 hc).1 (fun e => by cases e; omega)
theorem infoByte : (Try.prog.info? 5).map (fun i => (i.zero, i.size, i.bytes)) = some (some (.int .u8 0), 1, 1) := by kernel_rfl
/-- What Feed leaves: the buffer, the texts, the word. -/
def Fed (w : World) (r : ByteArray) (b : Bool) (l : List (ByteArray × ByteArray)) (z : Int) (e : Ending) (w' : World) : Prop :=
  ∃ v, e = .returned (.tuple #[.agg #[.string r, .bool b], v, .int .i64 z]) ∧ w'.ownsRow w.heap.size 9 1 v l.length (txt l) ∧ Below w.heap.size w w'
set_option maxRecDepth 100000 in
set_option maxHeartbeats 1000000 in
theorem feed_bad (r0 s : ByteArray) (w : World) : Calls Try.prog 10 #[.agg #[.string r0, .bool true], .string s] w (Fed w r0 true [] 9) := by
  have HF : Hid (∀ w' : World, Below w.heap.size w w' → Fed w r0 true [] 9 (.returned (.tuple #[.agg #[.string r0, .bool true], .slice none 0 0, .int .i64 9])) w') := Lib.hid fun w' h => ⟨_, rfl, World.ownsRow_nil _ _ _ _, h⟩
  go_enter Try.func10, Try.ntmps10
  go_wp2
  refine bodyPost_ret (v := .tuple #[.agg #[.string r0, .bool true], .slice none 0 0, .int .i64 9]) (by simp [results, Try.results10, go_sem]) rfl (HF.out _ ?_)
  exact ((Below.refl _ _).alloc (Nat.le_refl _) _).alloc (by simp) _
theorem conv_run (s : ByteArray) (W : World) : (convert 9 44 (.string s)).run Try.prog W = .ok (.slice (some ⟨W.heap.size, 0, none⟩) s.size (grownCap W s.size 0 5)) (Lib.bytesWorld W 5 s) :=
  Lib.run_convert_string_bytes W 9 44 5 s Try.underlying9 Try.underlying44 Try.underlying5
theorem nums_back (l : List UInt8) : strOfNums (l.map fun c => (c.toNat : Int)) = ⟨l.toArray⟩ := by
  apply ByteArray.ext
  apply Array.ext'
  rw [strOfNums_data, List.map_map]
  show _ = l
  conv => rhs; rw [← List.map_id l]
  apply List.map_congr_left
  intro b _
  simp
/-- Cells that are the bytes of s, read as a string. -/
theorem back_run (W : World) (s : ByteArray) (b off n cap : Nat) (hn : s.size = n) (h : ∀ i, i < n → W.cell? ⟨b, off + i, none⟩ = some (.int .u8 (s.data.toList.getD i 0).toNat)) :
    (convert 44 9 (.slice (some ⟨b, off, none⟩) n cap)).run Try.prog W = .ok (.string s) W := by
  subst hn
  have hl : s.data.toList.length = s.size := by rw [Array.length_toList]; rfl
  have h1 := run_convert_bytes_arg W 44 5 Try.underlying44 Try.underlying5 b off s.size cap (s.data.toList.map fun b => (b.toNat : Int)) (by rw [List.length_map, hl]) (fun i hi => by
    rw [h i hi]
    have hi' : i < s.data.toList.length := by omega
    simp only [List.getD, List.getElem?_map, List.getElem?_eq_getElem hi', Option.map_some, Option.getD_some]) 9 Try.underlying9
  rw [h1, nums_back]
set_option maxRecDepth 100000 in
set_option maxHeartbeats 4000000 in
theorem feed_form (r0 c s R : ByteArray) (l : List (ByteArray × ByteArray)) (w : World) (hse : r0 ++ c = s) (hsz : r0.size + c.size ≤ 1099511627776)
    (hW : ∀ W, Calls Try.prog 12 #[.string s] W fun e w' => ∃ v, e = .returned (.tuple #[v, .int .i64 ((s.size : Int) - (R.size : Int)), .bool false]) ∧ w'.ownsRow W.heap.size 9 1 v l.length (txt l) ∧ Below W.heap.size W w') :
    Calls Try.prog 10 #[.agg #[.string r0, .bool false], .string c] w (Fed w ByteArray.empty true l 3) := by
  have HW := Lib.hid hW
  have HSE := Lib.hid hse
  have HF : Hid (∀ (v : Value) (w' : World), w'.ownsRow w.heap.size 9 1 v l.length (txt l) → Below w.heap.size w w' → Fed w ByteArray.empty true l 3 (.returned (.tuple #[.agg #[.string ByteArray.empty, .bool true], v, .int .i64 3])) w') := Lib.hid fun v w' h1 h2 => ⟨_, rfl, h1, h2⟩
  clear hW hse
  go_enter Try.func10, Try.ntmps10
  go_wp2
  rw [HSE.out, conv_run s]
  simp only [Result.andThen]
  rw [Oper.upon_value]
  obtain ⟨W2, hW2⟩ : ∃ W2, (w.alloc (.cells #[.string r0, .bool false] 25)).alloc (.cells #[.string { data := #[] }, .bool false] 25) = W2 := ⟨_, rfl⟩
  have hs2 : W2.heap.size = w.heap.size + 1 + 1 := by rw [← hW2, World.size_alloc, World.size_alloc]
  have hb2 : Below w.heap.size w W2 := by rw [← hW2]; exact ((Below.refl _ _).alloc (Nat.le_refl _) _).alloc (by simp) _
  have hr2 : W2.heap[w.heap.size + 1]? = some (.cells #[.string { data := #[] }, .bool false] 25 (0, 0)) := by
    have h := World.alloc_heap_new (w.alloc (.cells #[.string r0, .bool false] 25)) (.cells #[.string { data := #[] }, .bool false] 25)
    rw [World.size_alloc, hW2] at h
    exact h
  rw [hW2]
  clear hW2
  obtain ⟨W3, hW3⟩ : ∃ W3, Lib.bytesWorld W2 5 s = W3 := ⟨_, rfl⟩
  have hs3 : W3.heap.size = W2.heap.size + 1 := by rw [← hW3, Lib.bytesWorld_size]
  have hr3 : W3.heap[w.heap.size + 1]? = some (.cells #[.string { data := #[] }, .bool false] 25 (0, 0)) := by rw [← hW3, Lib.bytesWorld_at_old _ _ _ _ (by omega)]; exact hr2
  have hb3 : Below w.heap.size w W3 := by rw [← hW3]; exact hb2.trans (Joins.below_bytesWorld _ _ _ _ hb2.size)
  have hc3 : ∀ i, i < s.size → W3.cell? ⟨W2.heap.size, i, none⟩ = some (.int .u8 (s.data.toList.getD i 0).toNat) := fun i hi => by rw [← hW3]; exact Lib.bytesWorld_cell W2 5 s i hi
  rw [hW3]
  clear hW3
  have hcap : s.size ≤ grownCap W2 s.size 0 5 := grownCap_ge _ _ _ _
  generalize grownCap W2 s.size 0 5 = cap at hcap ⊢
  have hst := back_run W3 s W2.heap.size 0 s.size cap rfl (fun i hi => by rw [Nat.zero_add]; exact hc3 i hi)
  have HB3 := Lib.hid hb3
  have HR3 := Lib.hid hr3
  have HC3 := Lib.hid hc3
  have HS2 := Lib.hid hs2
  have HS3 := Lib.hid hs3
  have HCAP := Lib.hid hcap
  clear hs2 hb2 hr2 hs3 hr3 hb3 hc3 hcap
  go_wp2_with fail
  refine (HW.out _).mono ?_
  rintro e w4 ⟨v, rfl, hown, hbel⟩
  have HO := Lib.hid hown
  have HB4 := Lib.hid hbel
  have hr4 := (hbel.block (w.heap.size + 1) (by have := HS2.out; have := HS3.out; omega)).trans HR3.out
  have d0 : w4.cell? ⟨w.heap.size + 1, 0, none⟩ = some (.string { data := #[] }) := cell_heap hr4 0
  have d1 : w4.cell? ⟨w.heap.size + 1, 1, none⟩ = some (.bool false) := cell_heap hr4 1
  have f0 := frozen_heap hr4 0
  have f1 := frozen_heap hr4 1
  have HR4 := Lib.hid hr4
  clear hst hown hbel hr4
  go_wp2
  obtain ⟨k0, k1⟩ := res_cells (x := .string { data := #[] }) (y := .bool true) d0 d1
  refine bodyPost_ret (v := .tuple #[.agg #[.string ByteArray.empty, .bool true], v, .int .i64 3]) (by simp [results, Try.results10, go_sem, k0, k1]; rfl) rfl (HF.out _ _ ?_ ?_)
  · have h2 := HS2.out
    have h3 := HS3.out
    exact own_lower (own_set (own_set HO.out _ _ (by omega) _) _ _ (by omega) _) (by omega)
  · exact ((HB3.out.trans (HB4.out.mono HB3.out.size)).setCell (p := ⟨w.heap.size + 1, 0, none⟩) (Nat.le_succ _) _).setCell (p := ⟨w.heap.size + 1, 1, none⟩) (Nat.le_succ _) _
end Go.Proofs.Ytcepfdilbbbemaa.Fr
namespace Go.Proofs.Ytcepfdilbbbemaa.Fr
open Go Go.RowKit Go.Proofs.Ytcepfdilbbbemaa.DecM Go.Proofs.Ytcepfdilbbbemaa.Giv Go.Proofs.Ytcepfdilbbbemaa.DecPure Go.Proofs.Ytcepfdilbbbemaa.Range Go.Proofs.YtcepfdilbbbemaaW.PrintWords

theorem byteSize : (Try.prog.info? 5).map (·.size) = some 1 := by kernel_rfl
def cellsOf (s : ByteArray) : List Value := s.data.toList.map fun b => .int .u8 b.toNat
theorem cellsOf_len (s : ByteArray) : (cellsOf s).length = s.size := by
  unfold cellsOf
  rw [List.length_map, Array.length_toList]
  rfl
theorem cellsOf_at (s : ByteArray) (j : Nat) (h : j < s.size) : (cellsOf s)[j]? = some (.int .u8 (s.data.toList.getD j 0).toNat) := by
  have hl : j < s.data.toList.length := by rw [Array.length_toList]; exact h
  unfold cellsOf
  simp only [List.getElem?_map, List.getD, List.getElem?_eq_getElem hl, Option.map_some, Option.getD_some]
theorem cellsOf_one (s : ByteArray) : ∀ v ∈ cellsOf s, v.oneCell' = true := by
  intro v hv
  unfold cellsOf at hv
  obtain ⟨b, _, rfl⟩ := List.mem_map.1 hv
  rfl
theorem made_len (m : Nat) : (madeCells #[.int .u8 0] m).toList.length = m := by simp [madeCells]
theorem splice_at (cur cs : List Value) (j : Nat) (h : j < cs.length) : (splice cur 0 cs)[j]? = cs[j]? := by
  unfold splice
  simp [List.getElem?_append, h]
theorem make_run (s n m : Nat) (h : n + m = s) (hs : s ≤ 1099511627776) : ∀ u : World, (Instr.makeSlice 44 (.int .i64 ((s : Int) - (n : Int))) (.int .i64 ((s : Int) - (n : Int)))).run Try.prog u =
    .ok (.slice (some ⟨u.heap.size, 0, none⟩) m m) (u.alloc (.cells (madeCells #[.int .u8 0] m) 5)) := fun u => by
  obtain ⟨i0, hi, hz0, hz1, hz2⟩ := info_parts infoByte
  have h1 := run_make (P := Try.prog) u 44 5 i0 (.int .u8 0) Try.underlying44 hi hz0 .i64 .i64 ((s : Int) - (n : Int)) ((s : Int) - (n : Int)) (by omega) (Int.le_refl _) (by rw [hz2]; omega) (by omega)
  have e : ((s : Int) - (n : Int)).toNat = m := by omega
  rw [e] at h1
  simpa [hz1, Value.cells] using h1
set_option maxRecDepth 100000 in
set_option maxHeartbeats 4000000 in
theorem feed_ok (r0 c s R : ByteArray) (n : Nat) (l : List (ByteArray × ByteArray)) (w : World) (hse : r0 ++ c = s) (hsz : r0.size + c.size ≤ 1099511627776) (hn : n + R.size = s.size) (hR : 0 < R.size) (hRs : R.data.toList = s.data.toList.drop n)
    (hW : ∀ W, Calls Try.prog 12 #[.string s] W fun e w' => ∃ v, e = .returned (.tuple #[v, .int .i64 (n : Int), .bool true]) ∧ w'.ownsRow W.heap.size 9 1 v l.length (txt l) ∧ Below W.heap.size W w') :
    Calls Try.prog 10 #[.agg #[.string r0, .bool false], .string c] w (Fed w R false l 0) := by
  have HW := Lib.hid hW
  have HSE := Lib.hid hse
  have hss : s.size = r0.size + c.size := by rw [← hse, ByteArray.size_append]
  have hmk := make_run s.size n R.size hn (by omega)
  have HF : Hid (∀ (v : Value) (w' : World), w'.ownsRow w.heap.size 9 1 v l.length (txt l) → Below w.heap.size w w' → Fed w R false l 0 (.returned (.tuple #[.agg #[.string R, .bool false], v, .int .i64 0])) w') := Lib.hid fun v w' h1 h2 => ⟨_, rfl, h1, h2⟩
  have hns : n < s.size := by omega
  have hs40 : s.size ≤ 1099511627776 := by omega
  have HN := Lib.hid hn
  clear hW hse hss hn
  go_enter Try.func10, Try.ntmps10
  go_wp2
  rw [HSE.out, conv_run s]
  simp only [Result.andThen]
  rw [Oper.upon_value]
  obtain ⟨W2, hW2⟩ : ∃ W2, (w.alloc (.cells #[.string r0, .bool false] 25)).alloc (.cells #[.string { data := #[] }, .bool false] 25) = W2 := ⟨_, rfl⟩
  have hs2 : W2.heap.size = w.heap.size + 1 + 1 := by rw [← hW2, World.size_alloc, World.size_alloc]
  have hb2 : Below w.heap.size w W2 := by rw [← hW2]; exact ((Below.refl _ _).alloc (Nat.le_refl _) _).alloc (by simp) _
  have hr2 : W2.heap[w.heap.size + 1]? = some (.cells #[.string { data := #[] }, .bool false] 25 (0, 0)) := by
    have h := World.alloc_heap_new (w.alloc (.cells #[.string r0, .bool false] 25)) (.cells #[.string { data := #[] }, .bool false] 25)
    rw [World.size_alloc, hW2] at h
    exact h
  rw [hW2]
  clear hW2
  obtain ⟨W3, hW3⟩ : ∃ W3, Lib.bytesWorld W2 5 s = W3 := ⟨_, rfl⟩
  have hs3 : W3.heap.size = W2.heap.size + 1 := by rw [← hW3, Lib.bytesWorld_size]
  have hr3 : W3.heap[w.heap.size + 1]? = some (.cells #[.string { data := #[] }, .bool false] 25 (0, 0)) := by rw [← hW3, Lib.bytesWorld_at_old _ _ _ _ (by omega)]; exact hr2
  have hb3 : Below w.heap.size w W3 := by rw [← hW3]; exact hb2.trans (Joins.below_bytesWorld _ _ _ _ hb2.size)
  have hc3 : ∀ i, i < s.size → W3.cell? ⟨W2.heap.size, i, none⟩ = some (.int .u8 (s.data.toList.getD i 0).toNat) := fun i hi => by rw [← hW3]; exact Lib.bytesWorld_cell W2 5 s i hi
  rw [hW3]
  clear hW3
  have hcap : s.size ≤ grownCap W2 s.size 0 5 := grownCap_ge _ _ _ _
  generalize grownCap W2 s.size 0 5 = cap at hcap ⊢
  have hst := back_run W3 s W2.heap.size 0 s.size cap rfl (fun i hi => by rw [Nat.zero_add]; exact hc3 i hi)
  have HB3 := Lib.hid hb3
  have HR3 := Lib.hid hr3
  have HC3 := Lib.hid hc3
  have HS2 := Lib.hid hs2
  have HS3 := Lib.hid hs3
  have HCAP := Lib.hid hcap
  clear hs2 hb2 hr2 hs3 hr3 hb3 hc3 hcap
  go_wp2_with fail
  refine (HW.out _).mono ?_
  rintro e w4 ⟨v, rfl, hown, hbel⟩
  have HO := Lib.hid hown
  have HB4 := Lib.hid hbel
  have hr4 := (hbel.block (w.heap.size + 1) (by have := HS2.out; have := HS3.out; omega)).trans HR3.out
  have d0 : w4.cell? ⟨w.heap.size + 1, 0, none⟩ = some (.string { data := #[] }) := cell_heap hr4 0
  have d1 : w4.cell? ⟨w.heap.size + 1, 1, none⟩ = some (.bool false) := cell_heap hr4 1
  have f0 := frozen_heap hr4 0
  have f1 := frozen_heap hr4 1
  have HR4 := Lib.hid hr4
  clear hst hown hbel hr4
  go_wp2
  have hg5 : (w4.alloc (.cells (madeCells #[.int .u8 0] R.size) 5)).heap[w4.heap.size]? = some (.cells (madeCells #[.int .u8 0] R.size) 5 (0, 0)) := World.alloc_heap_new w4 _
  have hcp := run_copy_row (P := Try.prog) (w4.alloc (.cells (madeCells #[.int .u8 0] R.size) 5)) 44 44 3 5 w4.heap.size 0 R.size R.size ⟨W2.heap.size, n, none⟩ (s.size - n) (s.size - n) (madeCells #[.int .u8 0] R.size) 5 (cellsOf R)
    Try.underlying44 byteSize hg5 (by rw [cellsOf_len]; have := HN.out; show _ = min _ _; omega) (by
      intro j v hj
      have hl := (List.getElem?_eq_some_iff.1 hj).1
      rw [cellsOf_len] at hl
      rw [cellsOf_at R j hl] at hj
      have h3 := HC3.out (n + j) (by have := HN.out; omega)
      have e : s.data.toList.getD (n + j) 0 = R.data.toList.getD j 0 := by
        rw [hRs, List.getD_eq_getElem?_getD, List.getD_eq_getElem?_getD, List.getElem?_drop]
      have hlt : W2.heap.size < W3.heap.size := by have := HS3.out; omega
      have h4 : w4.cell? ⟨W2.heap.size, n + j, none⟩ = W3.cell? ⟨W2.heap.size, n + j, none⟩ := HB4.out.cell (p := ⟨W2.heap.size, n + j, none⟩) hlt
      rw [h3, e, hj] at h4
      have h5 : (w4.alloc (.cells (madeCells #[.int .u8 0] R.size) 5)).cell? ⟨W2.heap.size, n + j, none⟩ = w4.cell? ⟨W2.heap.size, n + j, none⟩ := ((Below.refl w4.heap.size w4).alloc (Nat.le_refl _) _).cell (p := ⟨W2.heap.size, n + j, none⟩) (by have := HB4.out.size; show W2.heap.size < _; omega)
      have ea : (⟨W2.heap.size, n, none⟩ : Addr).add j = ⟨W2.heap.size, n + j, none⟩ := by unfold Addr.add; split <;> simp_all
      rw [ea, h5, h4]) (by rw [cellsOf_len, size_madeCells]; omega) (cellsOf_one R)
  rw [hcp]
  simp only [Result.andThen]
  rw [Oper.upon_value]
  obtain ⟨W6, hW6⟩ : ∃ W6, (w4.alloc (.cells (madeCells #[.int .u8 0] R.size) 5)).setRow w4.heap.size ((madeCells #[.int .u8 0] R.size).toList.take 0 ++ cellsOf R ++ (madeCells #[.int .u8 0] R.size).toList.drop (0 + (cellsOf R).length)).toArray = W6 := ⟨_, rfl⟩
  rw [hW6]
  have hg6 : W6.heap[w4.heap.size]? = some (.cells (cellsOf R).toArray 5 (0, 0)) := by
    rw [← hW6, setRow_heap _ _ _ _ _ _ hg5]
    have e1 : (madeCells #[.int .u8 0] R.size).toList.drop (0 + (cellsOf R).length) = [] := List.drop_of_length_le (by rw [Array.length_toList, size_madeCells, cellsOf_len]; omega)
    rw [e1, List.take_zero, List.nil_append, List.append_nil]
  have hb6 : Below w4.heap.size w4 W6 := by rw [← hW6]; exact below_setRow ((Below.refl _ w4).alloc (Nat.le_refl _) _) (Nat.le_refl _) _
  have HB6 := Lib.hid hb6
  have hbk := back_run W6 R w4.heap.size 0 R.size R.size rfl (fun i hi => by
    rw [Nat.zero_add, cell_heap hg6 i]
    have h := cellsOf_at R i hi
    rw [← h]
    exact List.getElem?_toArray ..)
  have hlt4 : w.heap.size + 1 < w4.heap.size := by have h1 := HS2.out; have h2 := HS3.out; have h3 := HB4.out.size; omega
  have hr6 := (hb6.block (w.heap.size + 1) hlt4).trans HR4.out
  have d0 : W6.cell? ⟨w.heap.size + 1, 0, none⟩ = some (.string { data := #[] }) := cell_heap hr6 0
  have d1 : W6.cell? ⟨w.heap.size + 1, 1, none⟩ = some (.bool false) := cell_heap hr6 1
  have f0 := frozen_heap hr6 0
  have f1 := frozen_heap hr6 1
  have HO6 := Lib.hid (own_move HO.out (fun k hk => hb6.block k (by
    obtain ⟨cells, hc⟩ := own_typed HO.out k hk
    exact (Array.getElem?_eq_some_iff.1 hc).1)))
  have HLT := Lib.hid hlt4
  clear hcp hg5 hW6 hg6 hb6 hr6 hlt4
  go_wp2
  obtain ⟨k0, k1⟩ := res_cells (x := .string R) (y := .bool false) d0 d1
  refine bodyPost_ret (v := .tuple #[.agg #[.string R, .bool false], v, .int .i64 0]) (by simp [results, Try.results10, go_sem, k0, k1]; try rfl) rfl (HF.out _ _ ?_ ?_)
  · have h2 := HS2.out
    have h3 := HS3.out
    exact own_lower (own_set (own_set HO6.out _ _ (by omega) _) _ _ (by omega) _) (by omega)
  · exact ((((HB3.out.trans (HB4.out.mono HB3.out.size)).trans (HB6.out.mono (by have := HLT.out; omega))).setCell (p := ⟨w.heap.size + 1, 0, none⟩) (Nat.le_succ _) _).setCell (p := ⟨w.heap.size + 1, 1, none⟩) (Nat.le_succ _) _)
end Go.Proofs.Ytcepfdilbbbemaa.Fr
namespace Go.Proofs.Ytcepfdilbbbemaa.Fr
open Go Go.RowKit Go.Proofs.Ytcepfdilbbbemaa.DecM Go.Proofs.Ytcepfdilbbbemaa.Giv Go.Proofs.Ytcepfdilbbbemaa.DecPure Go.Proofs.Ytcepfdilbbbemaa.Range Go.Proofs.YtcepfdilbbbemaaW.PrintWords

theorem make_run0 : ∀ u : World, (Instr.makeSlice 44 (.int .i64 0) (.int .i64 0)).run Try.prog u = .ok (.slice (some ⟨u.heap.size, 0, none⟩) 0 0) (u.alloc (.cells (madeCells #[.int .u8 0] 0) 5)) := make_run 0 0 0 rfl (by omega)
set_option maxRecDepth 100000 in
set_option maxHeartbeats 4000000 in
theorem feed_ok0 (r0 c s : ByteArray) (l : List (ByteArray × ByteArray)) (w : World) (hse : r0 ++ c = s) (hsz : r0.size + c.size ≤ 1099511627776)
    (hW : ∀ W, Calls Try.prog 12 #[.string s] W fun e w' => ∃ v, e = .returned (.tuple #[v, .int .i64 (s.size : Int), .bool true]) ∧ w'.ownsRow W.heap.size 9 1 v l.length (txt l) ∧ Below W.heap.size W w') :
    Calls Try.prog 10 #[.agg #[.string r0, .bool false], .string c] w (Fed w ByteArray.empty false l 0) := by
  have HW := Lib.hid hW
  have HSE := Lib.hid hse
  have hss : s.size = r0.size + c.size := by rw [← hse, ByteArray.size_append]
  have hmk := make_run0
  have HF : Hid (∀ (v : Value) (w' : World), w'.ownsRow w.heap.size 9 1 v l.length (txt l) → Below w.heap.size w w' → Fed w ByteArray.empty false l 0 (.returned (.tuple #[.agg #[.string ByteArray.empty, .bool false], v, .int .i64 0])) w') := Lib.hid fun v w' h1 h2 => ⟨_, rfl, h1, h2⟩
  have hs40 : s.size ≤ 1099511627776 := by omega
  clear hW hse hss
  go_enter Try.func10, Try.ntmps10
  go_wp2
  rw [HSE.out, conv_run s]
  simp only [Result.andThen]
  rw [Oper.upon_value]
  obtain ⟨W2, hW2⟩ : ∃ W2, (w.alloc (.cells #[.string r0, .bool false] 25)).alloc (.cells #[.string { data := #[] }, .bool false] 25) = W2 := ⟨_, rfl⟩
  have hs2 : W2.heap.size = w.heap.size + 1 + 1 := by rw [← hW2, World.size_alloc, World.size_alloc]
  have hb2 : Below w.heap.size w W2 := by rw [← hW2]; exact ((Below.refl _ _).alloc (Nat.le_refl _) _).alloc (by simp) _
  have hr2 : W2.heap[w.heap.size + 1]? = some (.cells #[.string { data := #[] }, .bool false] 25 (0, 0)) := by
    have h := World.alloc_heap_new (w.alloc (.cells #[.string r0, .bool false] 25)) (.cells #[.string { data := #[] }, .bool false] 25)
    rw [World.size_alloc, hW2] at h
    exact h
  rw [hW2]
  clear hW2
  obtain ⟨W3, hW3⟩ : ∃ W3, Lib.bytesWorld W2 5 s = W3 := ⟨_, rfl⟩
  have hs3 : W3.heap.size = W2.heap.size + 1 := by rw [← hW3, Lib.bytesWorld_size]
  have hr3 : W3.heap[w.heap.size + 1]? = some (.cells #[.string { data := #[] }, .bool false] 25 (0, 0)) := by rw [← hW3, Lib.bytesWorld_at_old _ _ _ _ (by omega)]; exact hr2
  have hb3 : Below w.heap.size w W3 := by rw [← hW3]; exact hb2.trans (Joins.below_bytesWorld _ _ _ _ hb2.size)
  have hc3 : ∀ i, i < s.size → W3.cell? ⟨W2.heap.size, i, none⟩ = some (.int .u8 (s.data.toList.getD i 0).toNat) := fun i hi => by rw [← hW3]; exact Lib.bytesWorld_cell W2 5 s i hi
  rw [hW3]
  clear hW3
  have hcap : s.size ≤ grownCap W2 s.size 0 5 := grownCap_ge _ _ _ _
  generalize grownCap W2 s.size 0 5 = cap at hcap ⊢
  have hst := back_run W3 s W2.heap.size 0 s.size cap rfl (fun i hi => by rw [Nat.zero_add]; exact hc3 i hi)
  have HB3 := Lib.hid hb3
  have HR3 := Lib.hid hr3
  have HC3 := Lib.hid hc3
  have HS2 := Lib.hid hs2
  have HS3 := Lib.hid hs3
  have HCAP := Lib.hid hcap
  clear hs2 hb2 hr2 hs3 hr3 hb3 hc3 hcap
  go_wp2_with fail
  refine (HW.out _).mono ?_
  rintro e w4 ⟨v, rfl, hown, hbel⟩
  have HO := Lib.hid hown
  have HB4 := Lib.hid hbel
  have hr4 := (hbel.block (w.heap.size + 1) (by have := HS2.out; have := HS3.out; omega)).trans HR3.out
  have d0 : w4.cell? ⟨w.heap.size + 1, 0, none⟩ = some (.string { data := #[] }) := cell_heap hr4 0
  have d1 : w4.cell? ⟨w.heap.size + 1, 1, none⟩ = some (.bool false) := cell_heap hr4 1
  have f0 := frozen_heap hr4 0
  have f1 := frozen_heap hr4 1
  have HR4 := Lib.hid hr4
  clear hst hown hbel hr4
  go_wp2
  have hg5 : (w4.alloc (.cells (madeCells #[.int .u8 0] 0) 5)).heap[w4.heap.size]? = some (.cells (madeCells #[.int .u8 0] 0) 5 (0, 0)) := World.alloc_heap_new w4 _
  have hcp := run_copy_row (P := Try.prog) (w4.alloc (.cells (madeCells #[.int .u8 0] 0) 5)) 44 44 3 5 w4.heap.size 0 0 0 ⟨W2.heap.size, 0, none⟩ 0 0 (madeCells #[.int .u8 0] 0) 5 []
    Try.underlying44 byteSize hg5 rfl (fun j v hj => by simp at hj) (by simp) (fun v hv => by cases hv)
  rw [hcp]
  simp only [Result.andThen]
  rw [Oper.upon_value]
  obtain ⟨W6, hW6⟩ : ∃ W6, (w4.alloc (.cells (madeCells #[.int .u8 0] 0) 5)).setRow w4.heap.size ((madeCells #[.int .u8 0] 0).toList.take 0 ++ [] ++ (madeCells #[.int .u8 0] 0).toList.drop (0 + ([] : List Value).length)).toArray = W6 := ⟨_, rfl⟩
  rw [hW6]
  have hb6 : Below w4.heap.size w4 W6 := by rw [← hW6]; exact below_setRow ((Below.refl _ w4).alloc (Nat.le_refl _) _) (Nat.le_refl _) _
  have HB6 := Lib.hid hb6
  have hbk := back_run W6 ByteArray.empty w4.heap.size 0 0 0 rfl (fun i hi => absurd hi (Nat.not_lt_zero i))
  have hlt4 : w.heap.size + 1 < w4.heap.size := by have h1 := HS2.out; have h2 := HS3.out; have h3 := HB4.out.size; omega
  have hr6 := (hb6.block (w.heap.size + 1) hlt4).trans HR4.out
  have d0 : W6.cell? ⟨w.heap.size + 1, 0, none⟩ = some (.string { data := #[] }) := cell_heap hr6 0
  have d1 : W6.cell? ⟨w.heap.size + 1, 1, none⟩ = some (.bool false) := cell_heap hr6 1
  have f0 := frozen_heap hr6 0
  have f1 := frozen_heap hr6 1
  have HO6 := Lib.hid (own_move HO.out (fun k hk => hb6.block k (by
    obtain ⟨cells, hc⟩ := own_typed HO.out k hk
    exact (Array.getElem?_eq_some_iff.1 hc).1)))
  have HLT := Lib.hid hlt4
  clear hcp hg5 hW6 hb6 hr6 hlt4
  go_wp2
  obtain ⟨j0, j1⟩ := res_cells (x := .string ByteArray.empty) (y := .bool false) d0 d1
  refine bodyPost_ret (v := .tuple #[.agg #[.string ByteArray.empty, .bool false], v, .int .i64 0]) (by simp [results, Try.results10, go_sem, j0, j1]; try rfl) rfl (HF.out _ _ ?_ ?_)
  · have h2 := HS2.out
    have h3 := HS3.out
    exact own_lower (own_set (own_set HO6.out _ _ (by omega) _) _ _ (by omega) _) (by omega)
  · exact ((((HB3.out.trans (HB4.out.mono HB3.out.size)).trans (HB6.out.mono (by have := HLT.out; omega))).setCell (p := ⟨w.heap.size + 1, 0, none⟩) (Nat.le_succ _) _).setCell (p := ⟨w.heap.size + 1, 1, none⟩) (Nat.le_succ _) _)
end Go.Proofs.Ytcepfdilbbbemaa.Fr
namespace Go.Proofs.Ytcepfdilbbbemaa.Fr
open Go Go.RowKit Go.Proofs.Ytcepfdilbbbemaa.DecM Go.Proofs.Ytcepfdilbbbemaa.Giv Go.Proofs.Ytcepfdilbbbemaa.DecPure Go.Proofs.Ytcepfdilbbbemaa.Range Go.Proofs.YtcepfdilbbbemaaW.PrintWords

theorem prefix_of : ∀ (k : Nat) (s : ByteArray), s.size < k → ∃ p : ByteArray, s = p ++ rest s := by
  intro k
  induction k with
  | zero => intro s h; omega
  | succ k ih =>
    intro s h
    by_cases hz : (takeText s 2048).2.2 = 0
    · have hlt := text_lt s 2048 hz
      obtain ⟨p, hp⟩ := ih (takeText s 2048).2.1 (by omega)
      have hw := (text_was s 2048 hz).1
      refine ⟨textS (takeText s 2048).1 ++ p, ?_⟩
      rw [rest_ok hz, ByteArray.append_assoc, ← hp]
      exact hw
    · exact ⟨ByteArray.empty, by rw [rest_no hz, ByteArray.empty_append]⟩
theorem rest_size (s : ByteArray) : (rest s).size ≤ s.size := by
  have := pairs_len _ s (Nat.lt_succ_self _)
  omega
theorem rest_data (s : ByteArray) : (rest s).data.toList = s.data.toList.drop (s.size - (rest s).size) := by
  obtain ⟨p, hp⟩ := prefix_of _ s (Nat.lt_succ_self _)
  have hsz : s.size = p.size + (rest s).size := by
    conv => lhs; rw [hp]
    exact ByteArray.size_append ..
  have e : s.data.toList = p.data.toList ++ (rest s).data.toList := by
    conv => lhs; rw [hp]
    rw [data_append]
  have hl : s.size - (rest s).size = p.data.toList.length := by rw [len_size]; omega
  rw [hl, e, List.drop_left]
/-- The texts of the frames that begin bytes. -/
def texts (s : ByteArray) : List ByteArray := (pairs s).map Prod.fst
/-- Are bytes missing? -/
def more (s : ByteArray) : Bool := (takeText (rest s) 2048).2.2 == 2
theorem R_texts {w : World} {base : Nat} {v : Value} {l : List (ByteArray × ByteArray)} (h : w.ownsRow base 9 1 v l.length (txt l)) : Kd.R Kd.string 9 w base (fun _ => True) v (l.map Prod.fst) := by
  refine Kd.R_of_own (enc := Value.string) ?_ (fun _ _ => trivial)
  rw [List.length_map]
  have e : encs Value.string (l.map Prod.fst) = txt l := by simp [encs, txt]
  rw [e]
  exact h
theorem feed_calls (r0 c : ByteArray) (w : World) (hsz : r0.size + c.size ≤ 1099511627776) :
    Calls Try.prog 10 #[.agg #[.string r0, .bool false], .string c] w (if more (r0 ++ c) = true then Fed w (rest (r0 ++ c)) false (pairs (r0 ++ c)) 0 else Fed w ByteArray.empty true (pairs (r0 ++ c)) 3) := by
  have hs : (r0 ++ c).size ≤ 1099511627776 := by rw [ByteArray.size_append]; exact hsz
  have hW := fun W => whole_calls (r0 ++ c) W hs
  have hd := rest_data (r0 ++ c)
  have hr := rest_size (r0 ++ c)
  unfold Whole at hW
  unfold more
  generalize hse : r0 ++ c = s at *
  generalize rest s = R at *
  generalize pairs s = l at *
  generalize ((takeText R 2048).2.2 == 2) = m at *
  cases m with
  | false =>
    rw [if_neg (by decide)]
    exact feed_form r0 c s R l w hse hsz hW
  | true =>
    rw [if_pos rfl]
    by_cases h0 : R.size = 0
    · have e : R = ByteArray.empty := by
        apply bytes_ext
        have : R.data.toList.length = 0 := by rw [len_size]; exact h0
        rw [List.eq_nil_of_length_eq_zero this]
        rfl
      subst e
      refine feed_ok0 r0 c s l w hse hsz fun W => (hW W).mono ?_
      rintro e w' ⟨v, rfl, h⟩
      exact ⟨v, by rw [h0]; simp, h⟩
    · refine feed_ok r0 c s R (s.size - R.size) l w hse hsz (by omega) (by omega) hd fun W => (hW W).mono ?_
      rintro e w' ⟨v, rfl, h⟩
      exact ⟨v, by rw [show ((s.size - R.size : Nat) : Int) = (s.size : Int) - (R.size : Int) by omega], h⟩
end Go.Proofs.Ytcepfdilbbbemaa.Fr
namespace Go.Proofs.Ytcepfdilbbbemaa.QFr
open Go Go.RowKit Go.Proofs.Ytcepfdilbbbemaa.DecM Go.Proofs.Ytcepfdilbbbemaa.Giv Go.Proofs.Ytcepfdilbbbemaa.DecPure Go.Proofs.Ytcepfdilbbbemaa.Fr Go.Proofs.YtcepfdilbbbemaaW.PrintWords

def dec_TakeText.f (a0 : ByteArray) (a1 : Int) : Option (ByteArray × ByteArray × Int) := if a0.size ≤ 9223372036854775807 ∧ a1 ≤ 9223372036854775807 then some (takeText a0 a1) else none
theorem dec_TakeText.calls (a0 : ByteArray) (a1 : Int) (r1 : ByteArray) (r2 : ByteArray) (r3 : Int) (w : World) (h : dec_TakeText.f a0 a1 = some (r1, r2, r3)) :
    Calls Try.prog 19 #[.string a0, .int .i64 a1] w fun e w' => e = .returned (.tuple #[.string r1, .string r2, .int .i64 r3]) ∧ Below w.heap.size w w' := by
  unfold dec_TakeText.f at h
  by_cases hs : a0.size ≤ 9223372036854775807 ∧ a1 ≤ 9223372036854775807
  · rw [if_pos hs] at h
    have hc := takeText_calls a0 a1 w hs.1 hs.2
    rw [Option.some.inj h] at hc
    exact hc
  · rw [if_neg hs] at h
    cases h
def stanchionref01_TakeText.f (a0 : ByteArray) (a1 : Int) : Option (ByteArray × ByteArray × Int) := if a0.size ≤ 9223372036854775807 ∧ a1 ≤ 9223372036854775807 then some (takeText a0 a1) else none
theorem stanchionref01_TakeText.calls (a0 : ByteArray) (a1 : Int) (r1 : ByteArray) (r2 : ByteArray) (r3 : Int) (w : World) (h : stanchionref01_TakeText.f a0 a1 = some (r1, r2, r3)) :
    Calls Try.prog 20 #[.string a0, .int .i64 a1] w fun e w' => e = .returned (.tuple #[.string r1, .string r2, .int .i64 r3]) ∧ Below w.heap.size w w' := by
  unfold stanchionref01_TakeText.f at h
  by_cases hs : a0.size ≤ 9223372036854775807 ∧ a1 ≤ 9223372036854775807
  · rw [if_pos hs] at h
    have hc := refTakeText_calls a0 a1 w hs.1 hs.2
    rw [Option.some.inj h] at hc
    exact hc
  · rw [if_neg hs] at h
    cases h
def dec_Text.f (a0 : ByteArray) : Option (ByteArray) := if a0.size ≤ 4611686018427387904 then some (textS a0) else none
theorem dec_Text.calls (a0 : ByteArray) (r : ByteArray) (w : World) (h : dec_Text.f a0 = some r) :
    Calls Try.prog 21 #[.string a0] w fun e w' => e = .returned (.string r) ∧ Below w.heap.size w w' := QDec.dec_Text.calls a0 r w h
def stanchionref01_Text.f (a0 : ByteArray) : Option (ByteArray) := if a0.size ≤ 4611686018427387904 then some (textS a0) else none
theorem stanchionref01_Text.calls (a0 : ByteArray) (r : ByteArray) (w : World) (h : stanchionref01_Text.f a0 = some r) :
    Calls Try.prog 22 #[.string a0] w fun e w' => e = .returned (.string r) ∧ Below w.heap.size w w' := QDec.stanchionref01_Text.calls a0 r w h
def frame_Whole.f (a0 : ByteArray) : Option (List ByteArray × Int × Bool) := if a0.size ≤ 1099511627776 then some (texts a0, (a0.size : Int) - ((rest a0).size : Int), more a0) else none
theorem frame_Whole.calls (a0 : ByteArray) (r1 : List ByteArray) (r2 : Int) (r3 : Bool) (w : World) (h : frame_Whole.f a0 = some (r1, r2, r3)) :
    Calls Try.prog 12 #[.string a0] w fun e w' => ∃ v0_ : Value, e = .returned (.tuple #[v0_, .int .i64 r2, .bool r3]) ∧ Kd.R Kd.string 9 w' w.heap.size (fun _ => True) v0_ r1 ∧ Below w.heap.size w w' := by
  unfold frame_Whole.f at h
  by_cases hs : a0.size ≤ 1099511627776
  · rw [if_pos hs] at h
    have e := Option.some.inj h
    simp only [Prod.mk.injEq] at e
    obtain ⟨rfl, rfl, rfl⟩ := e
    refine (whole_calls a0 w hs).mono ?_
    rintro e w' ⟨v, rfl, h1, h2⟩
    exact ⟨v, rfl, R_texts h1, h2⟩
  · rw [if_neg hs] at h
    cases h
def frame_Feed.f (a0 : ByteArray) (b0 : Bool) (a1 : ByteArray) : Option (ByteArray × Bool × List ByteArray × Int) :=
  if b0 = true then some (a0, true, [], 9) else if a0.size + a1.size ≤ 1099511627776 then (if more (a0 ++ a1) = true then some (rest (a0 ++ a1), false, texts (a0 ++ a1), 0) else some (ByteArray.empty, true, texts (a0 ++ a1), 3)) else none
theorem frame_Feed.calls (a0_0 : ByteArray) (a0_1 : Bool) (a1 : ByteArray) (r1 : ByteArray) (r2 : Bool) (r3 : List ByteArray) (r4 : Int) (w : World) (h : frame_Feed.f a0_0 a0_1 a1 = some (r1, r2, r3, r4)) :
    Calls Try.prog 10 #[.agg #[.string a0_0, .bool a0_1], .string a1] w fun e w' => ∃ v2_ : Value, e = .returned (.tuple #[.agg #[.string r1, .bool r2], v2_, .int .i64 r4]) ∧ Kd.R Kd.string 9 w' w.heap.size (fun _ => True) v2_ r3 ∧ Below w.heap.size w w' := by
  unfold frame_Feed.f at h
  cases a0_1 with
  | true =>
    rw [if_pos rfl] at h
    have e := Option.some.inj h
    simp only [Prod.mk.injEq] at e
    obtain ⟨rfl, rfl, rfl, rfl⟩ := e
    refine (feed_bad a0_0 a1 w).mono ?_
    rintro e w' ⟨v, rfl, h1, h2⟩
    exact ⟨v, rfl, R_texts h1, h2⟩
  | false =>
    rw [if_neg (by decide)] at h
    by_cases hs : a0_0.size + a1.size ≤ 1099511627776
    · rw [if_pos hs] at h
      have hc := feed_calls a0_0 a1 w hs
      by_cases hm : more (a0_0 ++ a1) = true
      · rw [if_pos hm] at h hc
        have e := Option.some.inj h
        simp only [Prod.mk.injEq] at e
        obtain ⟨rfl, rfl, rfl, rfl⟩ := e
        refine hc.mono ?_
        rintro e w' ⟨v, rfl, h1, h2⟩
        exact ⟨v, rfl, R_texts h1, h2⟩
      · rw [if_neg hm] at h hc
        have e := Option.some.inj h
        simp only [Prod.mk.injEq] at e
        obtain ⟨rfl, rfl, rfl, rfl⟩ := e
        refine hc.mono ?_
        rintro e w' ⟨v, rfl, h1, h2⟩
        exact ⟨v, rfl, R_texts h1, h2⟩
    · rw [if_neg hs] at h
      cases h
end Go.Proofs.Ytcepfdilbbbemaa.QFr
