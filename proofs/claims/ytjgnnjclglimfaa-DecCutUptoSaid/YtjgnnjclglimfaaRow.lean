/- The walks of dec.Row (a strings.Builder) and of the reference's Row. -/
import Derived.Test.YtjgnnjclglimfaaBuild
import Derived.Test.YtjgnnjclglimfaaShelf
import Derived.Test.YtjgnnjclglimfaaGiv
import Derived.Test.YtjgnnjclglimfaaAppMark
import Derived.Lib.ConvBytes
import Derived.Lib.SmallJoins
namespace Go.Proofs.Ytjgnnjclglimfaa.Row
open Go Go.RowKit Go.Proofs.Ytjgnnjclglimfaa.DecM Go.Proofs.Ytjgnnjclglimfaa.Giv Go.Proofs.YtjgnnjclglimfaaW.PrintWords Go.Proofs.YtjgnnjclglimfaaW.PrintLast Go.Proofs.YtjgnnjclglimfaaW.PrintMore

/-- The bytes of a row: its length told, then its texts. -/
def rowB (l : List ByteArray) : List UInt8 := (numS l.length).data.toList ++ (l.map fun t => (textS t).data.toList).flatten
def rowTo (l : List ByteArray) (i : Nat) : List UInt8 := (numS l.length).data.toList ++ ((l.take i).map fun t => (textS t).data.toList).flatten
def rowS (l : List ByteArray) : ByteArray := ⟨(rowB l).toArray⟩
theorem rowTo_zero (l : List ByteArray) : rowTo l 0 = (numS l.length).data.toList := by simp [rowTo]
theorem rowTo_all (l : List ByteArray) : rowTo l l.length = rowB l := by simp [rowTo, rowB]
theorem rowTo_succ (l : List ByteArray) (i : Nat) (hi : i < l.length) : rowTo l (i + 1) = rowTo l i ++ (textS l[i]).data.toList := by
  unfold rowTo
  rw [List.take_succ_eq_append_getElem hi, List.map_append, List.flatten_append, List.append_assoc]
  congr 2
  simp only [List.map_cons, List.map_nil, List.flatten_cons, List.flatten_nil, List.append_nil]
theorem rowTo_le (l : List ByteArray) (i : Nat) : (rowTo l i).length ≤ (rowB l).length := by
  have e : rowB l = rowTo l i ++ ((l.drop i).map fun t => (textS t).data.toList).flatten := by
    unfold rowB rowTo
    rw [List.append_assoc, ← List.flatten_append, ← List.map_append, List.take_append_drop]
  rw [e, List.length_append]
  omega
theorem bytes_len (s : ByteArray) : s.data.toList.length = s.size := data_length s
theorem rowS_size (l : List ByteArray) : (rowS l).size = (rowB l).length := by
  show (rowB l).toArray.size = (rowB l).length
  exact List.size_toArray ..
theorem text_in_row (l : List ByteArray) (i : Nat) (hi : i < l.length) : (rowTo l i).length + (textS l[i]).size ≤ (rowB l).length := by
  have h := rowTo_le l (i + 1)
  rw [rowTo_succ l i hi, List.length_append, bytes_len] at h
  exact h
theorem textS_size_le (t : ByteArray) : t.size ≤ (textS t).size := by
  unfold textS
  rw [ByteArray.size_append]
  omega
theorem cells_len (l : List UInt8) : (Lib.byteCells l).length = l.length := by
  unfold Lib.byteCells
  rw [List.length_map]
theorem cells_str (s : ByteArray) : Lib.strCells s = Lib.byteCells s.data.toList := Lib.strCells_eq s
theorem byteCells_append (a b : List UInt8) : Lib.byteCells (a ++ b) = Lib.byteCells a ++ Lib.byteCells b := by
  unfold Lib.byteCells
  rw [List.map_append]

theorem wrap_small {x : Int} (h : -9223372036854775808 ≤ x ∧ x ≤ 9223372036854775807) : wrap64 x = x := by
  unfold wrap64
  omega
theorem rd_at (l : List ByteArray) (i : Nat) (hi : i < l.length) : rdOf ByteArray.empty l (i : Int) = l[i] := by
  unfold rdOf
  simp [List.getElem?_eq_getElem hi]
/-- (*strings.Builder).String, whatever it holds. -/
theorem string_any (B b : Nat) (l : List UInt8) (w : World) (h : Lib.IsBuilder 59 5 B b (Lib.byteCells l) w) (hBw : B ≤ w.heap.size) :
    Calls Try.prog 29 #[.pointer (some ⟨b, 0, none⟩)] w fun e w' => e = .returned (.string ⟨l.toArray⟩) ∧ Below B w w' := by
  cases l with
  | nil => exact Try.Builder_String_empty B b w h hBw
  | cons x r => exact Try.Builder_String B b (x :: r) w h (by simp)
theorem build_below {B b : Nat} {p : Value} {bs : List Value} {w w1 : World} (h : Lib.BuilderAt 59 5 B b p bs w) (hb : Below w.heap.size w w1) : Lib.BuilderAt 59 5 B b p bs w1 := by
  have hlt := h.lt
  obtain ⟨hB, v, hbk, hown, hne⟩ := h
  exact ⟨hB, v, (hb.block b hlt).trans hbk, pw_own_below hown hb, hne⟩
theorem isBuild_below {B b : Nat} {bs : List Value} {w w1 : World} (h : Lib.IsBuilder 59 5 B b bs w) (hb : Below w.heap.size w w1) : Lib.IsBuilder 59 5 B b bs w1 :=
  h.imp (fun h => build_below h hb) (fun h => build_below h hb)

set_option maxHeartbeats 2000000 in
theorem row_calls (A0 : Option Addr) (c0 : Nat) (l0 : List ByteArray) (w : World) (hr0 : Kd.C Kd.string w A0 l0.length l0) (hc0 : l0.length ≤ c0) (hl : l0.length ≤ 4611686018427387904) (hsz : (rowS l0).size ≤ 70368744177664) :
    Calls Try.prog 25 #[.slice A0 l0.length c0] w fun e w' => e = .returned (.string (rowS l0)) ∧ Below w.heap.size w w' := by
  rw [rowS_size] at hsz
  have hN := Lib.hid (num_calls l0.length)
  have h0 : Lib.IsBuilder 59 5 w.heap.size w.heap.size [] (w.alloc (.cells #[.pointer none, .slice none 0 0] 59)) := Lib.fresh_isBuilder _ _ w
  have b0 : Below w.heap.size w (w.alloc (.cells #[.pointer none, .slice none 0 0] 59)) := (Below.refl _ w).alloc (Nat.le_refl _) _
  have hn := numS_size l0.length (by omega)
  go_enter Try.func25, Try.ntmps25
  go_wp2_with (go_at_call 16; refine (hN.out _ (by omega)).mono ?_)
  rintro e w1 ⟨rfl, b1⟩
  have h1 := isBuild_below h0 b1
  have b1' : Below w.heap.size w w1 := b0.trans (b1.mono b0.size)
  go_wp2_with (go_at_call 28; refine (Build.writeString w.heap.size w.heap.size [] (numS l0.length) _ h1 (by rw [List.length_nil]; omega) b1'.size).mono ?_)
  rintro e w2 ⟨rfl, h2, b2⟩
  rw [List.nil_append, cells_str, ← rowTo_zero] at h2
  have b2' : Below w.heap.size w w2 := b1'.trans b2
  have HS := Lib.hid hsz
  have HR := Lib.hid hr0
  have HC := Lib.hid hc0
  have HL := Lib.hid hl
  clear hsz hr0 hc0 hl h0 b0 hn hN h1 b1 b1' b2
  go_wp2
  go_loopg [13] l0.length (fun kq v13 w' => ∃ i : Nat, v13 = .int .i64 i ∧ Aside0 (kq + i = l0.length) ∧ Aside0 (Lib.BuilderAt 59 5 w.heap.size w.heap.size (.pointer (some ⟨w.heap.size, 0, none⟩)) (Lib.byteCells (rowTo l0 i)) w') ∧ Aside0 (Below w.heap.size w w'))
  case atStart => exact ⟨0, rfl, ⟨by omega⟩, ⟨h2⟩, ⟨b2'⟩⟩
  case round =>
    obtain ⟨i, rfl, HK, HB, HW⟩ := hrel
    have hA := Lib.hid h2
    clear h2 b2'
    by_cases hi : i < l0.length
    · have c0b : decide ((i : Int) < (l0.length : Int)) = true := decide_eq_true (by omega)
      obtain ⟨ad, e1, hx⟩ := Kd.at_string (Kd.C_below HR.out HW.out) (i : Int) (by omega) (by omega)
      cases e1
      rw [rd_at l0 i hi, Int.toNat_natCast] at hx
      have ht := text_in_row l0 i hi
      have hts := textS_size_le l0[i]
      have hsz := HS.out
      have HT := Lib.hid fun w => text_calls l0[i] w (by omega)
      have hp : ((0 : Int) ≤ (i : Int)) = True := eq_true (by omega)
      have hq : ((i : Int) < (l0.length : Int)) = True := eq_true (by omega)
      have HQ := Lib.hid ht
      clear ht hts hsz
      go_wp2_with (go_at_call 18; refine (HT.out _).mono ?_)
      rintro e w3 ⟨rfl, b3⟩
      have h3 := build_below HB.out b3
      have b3' : Below w.heap.size w w3 := HW.out.trans (b3.mono HW.out.size)
      go_wp2_with (go_at_call 28; refine (Build.writeString w.heap.size w.heap.size (Lib.byteCells (rowTo l0 i)) (textS l0[i]) _ (.inr h3) (by rw [cells_len]; have := HQ.out; have := HS.out; omega) b3'.size).mono ?_)
      rintro e w4 ⟨rfl, h4, b4⟩
      rw [cells_str, ← byteCells_append, ← rowTo_succ l0 i hi] at h4
      have b4' : Below w.heap.size w w4 := b3'.trans b4
      go_wp2
      repeat (go_quiet (fail); try go_wp2)
      go_roundg (gk - 1)
      case measure => have := HK.out; omega
      case rel => exact ⟨i + 1, by rw [wrap_small (by have := HL.out; omega)]; rfl, ⟨by have := HK.out; omega⟩, ⟨h4⟩, ⟨b4'⟩⟩
    · have c0b : decide ((i : Int) < (l0.length : Int)) = false := decide_eq_false (by omega)
      have e : i = l0.length := by have := HK.out; omega
      subst e
      have h3 := HB.out
      rw [rowTo_all] at h3
      go_wp2_with (go_at_call 29; refine (string_any w.heap.size w.heap.size (rowB l0) _ (.inr h3) HW.out.size).mono ?_)
      rintro e w3 ⟨rfl, b3⟩
      go_wp2
      go_ret
      exact ⟨rfl, HW.out.trans b3⟩
theorem conv_run (s : ByteArray) (W : World) : (convert 9 56 (.string s)).run Try.prog W = .ok (.slice (some ⟨W.heap.size, 0, none⟩) s.size (grownCap W s.size 0 5)) (Lib.bytesWorld W 5 s) :=
  Lib.run_convert_string_bytes W 9 56 5 s Try.underlying9 Try.underlying56 Try.underlying5
theorem str_nums (l : List UInt8) : strOfNums (l.map fun c => (c.toNat : Int)) = ⟨l.toArray⟩ := by
  apply ByteArray.ext
  apply Array.ext'
  rw [strOfNums_data, List.map_map]
  show _ = l
  conv => rhs; rw [← List.map_id l]
  apply List.map_congr_left
  intro b _
  simp
/-- The string of a row of cells. -/
theorem back_run (l : List UInt8) (W : World) (base : Nat) (v : Value) (h : AppMark.OwnsM W base 5 v l.length (Lib.byteCells l)) : (convert 56 9 v).run Try.prog W = .ok (.string ⟨l.toArray⟩) W := by
  obtain ⟨g, cap, rfl, hc⟩ := h.cell
  have hn : (l.map fun b => (b.toNat : Int)).length = l.length := List.length_map ..
  have h1 := run_convert_bytes_arg W 56 5 Try.underlying56 Try.underlying5 g 0 l.length cap (l.map fun b => (b.toNat : Int)) hn (fun i hi => by
    rw [Nat.zero_add, hc i hi]
    simp [Lib.byteCells, List.getD, hi]) 9 Try.underlying9
  rw [h1, str_nums]
set_option maxHeartbeats 2000000 in
theorem refRow_calls (A0 : Option Addr) (c0 : Nat) (l0 : List ByteArray) (w : World) (hr0 : Kd.C Kd.string w A0 l0.length l0) (hc0 : l0.length ≤ c0) (hl : l0.length ≤ 4611686018427387904) (hsz : (rowS l0).size ≤ 70368744177664) :
    Calls Try.prog 26 #[.slice A0 l0.length c0] w fun e w' => e = .returned (.string (rowS l0)) ∧ Below w.heap.size w w' := by
  obtain ⟨i0, hi, hz0, hz1, hz2⟩ := info_parts Build.infoByte
  rw [rowS_size] at hsz
  have hN := Lib.hid fun w => refNum_calls l0.length w (by omega)
  have hn : (numS l0.length).size ≤ 140737488355328 := by
    have h := numS_size l0.length (by omega)
    omega
  have HZ := Lib.hid (rowTo_zero l0)
  have HS := Lib.hid hsz
  have HR := Lib.hid hr0
  have HC := Lib.hid hc0
  have HL := Lib.hid hl
  generalize numS l0.length = d at hN hn HZ
  have hcv := conv_run d
  clear hsz hr0 hc0
  go_enter Try.func26, Try.ntmps26
  go_wp2_with (go_at_call 17; refine (hN.out _).mono ?_)
  rintro e w1 ⟨rfl, b1⟩
  have hO := AppMark.conv_owns w1 w.heap.size 5 d hn b1.size
  have hB := bytes_below b1 b1.size 5 d
  rw [cells_str, ← HZ.out] at hO
  clear hl hn
  have HI := Lib.hid hi
  clear hi
  have HO' : Aside0 (AppMark.OwnsM (Lib.bytesWorld w1 5 d) w.heap.size 5 (.slice (some ⟨w1.heap.size, 0, none⟩) d.size (grownCap w1 d.size 0 5)) (rowTo l0 0).length (Lib.byteCells (rowTo l0 0))) := ⟨by
    have e : (rowTo l0 0).length = d.size := by rw [HZ.out, bytes_len]
    rw [e]
    exact hO⟩
  have HB' := Lib.hid hB
  clear hO hB
  go_wp2
  go_loopg [3, 4] l0.length (fun kq v3 v4 w' => ∃ i : Nat, v4 = .int .i64 i ∧ Aside0 (kq + i = l0.length) ∧ Aside0 (AppMark.OwnsM w' w.heap.size 5 v3 (rowTo l0 i).length (Lib.byteCells (rowTo l0 i))) ∧ Aside0 (Below w.heap.size w w'))
  case atStart => exact ⟨0, rfl, ⟨by omega⟩, HO', ⟨HB'.out⟩⟩
  case round =>
    obtain ⟨i, rfl, HK, HB, HW⟩ := hrel
    clear HO' HB' hcv
    by_cases hi : i < l0.length
    · have c0b : decide ((i : Int) < (l0.length : Int)) = true := decide_eq_true (by omega)
      obtain ⟨ad, e1, hx⟩ := Kd.at_string (Kd.C_below HR.out HW.out) (i : Int) (by omega) (by omega)
      cases e1
      rw [rd_at l0 i hi, Int.toNat_natCast] at hx
      have ht := text_in_row l0 i hi
      have hts := textS_size_le l0[i]
      have hsz := HS.out
      have hsu0 := rowTo_succ l0 i hi
      generalize l0[i] = t at hx ht hts hsu0
      have HT := Lib.hid fun w => refText_calls t w (by omega)
      have hp : ((0 : Int) ≤ (i : Int)) = True := eq_true (by omega)
      have hq : ((i : Int) < (l0.length : Int)) = True := eq_true (by omega)
      have HQ := Lib.hid ht
      have hsu := Lib.hid hsu0
      clear hsu0
      clear ht hts hsz
      go_wp2_with (first
        | (go_at_call 19; refine (HT.out _).mono ?_; rintro e w3 ⟨rfl, b3⟩; have h3 := AppMark.OwnsM.below HB.out b3; have b3' := HW.out.trans (b3.mono HW.out.size))
        | (at_builtin; refine AppMark.wp_append _ rfl _ _ 56 9 rfl w.heap.size 5 i0 Try.underlying56 Try.underlying9 HI.out hz0 hz1 hz2 _ _ _ rfl h3 (textS t) rfl ?c3 ?c4 ?c5 ?_))
      case c3 => have := HQ.out; have := HS.out; unfold maxLen; omega
      case c4 => have := HQ.out; have := HS.out; omega
      case c5 => exact b3'.size
      intro v4 w4 h4 hg4
      have e4 : (rowTo l0 i).length + (textS t).size = (rowTo l0 (i + 1)).length := by rw [hsu.out, List.length_append, bytes_len]
      rw [cells_str, ← byteCells_append, ← hsu.out, e4] at h4
      have b4' : Below w.heap.size w w4 := b3'.grown hg4 b3'.size (fun k hk => (h3.lt k hk).1)
      go_wp2
      repeat (go_quiet (fail); try go_wp2)
      go_roundg (gk - 1)
      case measure => have := HK.out;  omega
      case rel => exact ⟨i + 1, by rw [wrap_small (by  have := HL.out; omega)]; rfl, ⟨by have := HK.out;  omega⟩, ⟨h4⟩, ⟨b4'⟩⟩
    · have c0b : decide ((i : Int) < (l0.length : Int)) = false := decide_eq_false (by omega)
      have e : i = l0.length := by have := HK.out; omega
      subst e
      have h3 := HB.out
      rw [rowTo_all] at h3
      have hbk := back_run (rowB l0) _ _ _ h3
      go_wp2
      go_ret
      exact ⟨rfl, HW.out⟩
end Go.Proofs.Ytjgnnjclglimfaa.Row
