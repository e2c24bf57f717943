/- The walks of wire.nums and wire.texts (a strings.Builder each). -/
import Derived.Test.YtlpcidjmaeicoaaBuild
import Derived.Test.YtlpcidjmaeicoaaShelf
import Derived.Test.YtlpcidjmaeicoaaNum
import Derived.Lib.SmallJoins
import Derived.Deep.QuietTactic
import Derived.BigQuiet
import Derived.Deep.LoopGhost
namespace Go.Proofs.Ytlpcidjmaeicoaa.Wire
open Go Go.RowKit Go.Proofs.Ytlpcidjmaeicoaa.DecM Go.Proofs.Ytlpcidjmaeicoaa.Giv Go.Proofs.YtlpcidjmaeicoaaW.PrintWords Go.Proofs.YtlpcidjmaeicoaaW.PrintLast Go.Proofs.YtlpcidjmaeicoaaW.PrintMore

theorem byte_len (s : ByteArray) : s.data.toList.length = s.size := by
  rw [Array.length_toList]
  rfl
theorem cells_len (l : List UInt8) : (Lib.byteCells l).length = l.length := by
  unfold Lib.byteCells
  rw [List.length_map]
theorem cells_str (s : ByteArray) : Lib.strCells s = Lib.byteCells s.data.toList := Lib.strCells_eq s
theorem byteCells_append (a b : List UInt8) : Lib.byteCells (a ++ b) = Lib.byteCells a ++ Lib.byteCells b := by
  unfold Lib.byteCells
  rw [List.map_append]
theorem wrap_small {x : Int} (h : -9223372036854775808 ≤ x ∧ x ≤ 9223372036854775807) : wrap64 x = x := by
  unfold wrap64
  omega
theorem rd_text (l : List ByteArray) (i : Nat) (hi : i < l.length) : rdOf ByteArray.empty l (i : Int) = l[i] := by
  unfold rdOf
  simp [List.getElem?_eq_getElem hi]
theorem rd_num (l : List Int) (i : Nat) (hi : i < l.length) : rd l (i : Int) = l[i] := by
  unfold rd
  simp [List.getElem?_eq_getElem hi]
/-- The encoding of a text. -/
def textW (t : ByteArray) : ByteArray := numS t.size ++ t
theorem string_any (B b : Nat) (l : List UInt8) (w : World) (h : Lib.IsBuilder 47 5 B b (Lib.byteCells l) w) (hBw : B ≤ w.heap.size) :
    Calls Try.prog 15 #[.pointer (some ⟨b, 0, none⟩)] w fun e w' => e = .returned (.string ⟨l.toArray⟩) ∧ Below B w w' := by
  cases l with
  | nil => exact Try.Builder_String_empty B b w h hBw
  | cons x r => exact Try.Builder_String B b (x :: r) w h (by simp)
theorem build_below {B b : Nat} {p : Value} {bs : List Value} {w w1 : World} (h : Lib.BuilderAt 47 5 B b p bs w) (hb : Below w.heap.size w w1) : Lib.BuilderAt 47 5 B b p bs w1 := by
  have hlt := h.lt
  obtain ⟨hB, v, hbk, hown, hne⟩ := h
  exact ⟨hB, v, (hb.block b hlt).trans hbk, pw_own_below hown hb, hne⟩
theorem isBuild_below {B b : Nat} {bs : List Value} {w w1 : World} (h : Lib.IsBuilder 47 5 B b bs w) (hb : Below w.heap.size w w1) : Lib.IsBuilder 47 5 B b bs w1 :=
  h.imp (fun h => build_below h hb) (fun h => build_below h hb)
set_option maxHeartbeats 400000 in
theorem text_calls (t : ByteArray) (w : World) (ht : t.size ≤ 4611686018427387904) :
    Calls Try.prog 16 #[.string t] w fun e w' => e = .returned (.string (textW t)) ∧ Below w.heap.size w w' := by
  have hz := numS_size t.size (by omega)
  have HC := Lib.hid (num_calls t.size)
  have HE : Hid (textW t = numS t.size ++ t) := Lib.hid rfl
  go_enter Try.func16, Try.ntmps16
  go_wp2_with (go_at_call 14; refine (HC.out _ (by omega)).mono ?_; rintro e w1 ⟨rfl, hb⟩)
  go_ret
  exact ⟨by rw [HE.out]; rfl, hb⟩
/-- Bytes of several pieces, one behind the other. -/
def glue (l : List ByteArray) : List UInt8 := (l.map fun t => t.data.toList).flatten
theorem glue_succ (l : List ByteArray) (i : Nat) (hi : i < l.length) : glue (l.take (i + 1)) = glue (l.take i) ++ (l[i]).data.toList := by
  unfold glue
  rw [List.take_succ_eq_append_getElem hi, List.map_append, List.flatten_append]
  simp only [List.map_cons, List.map_nil, List.flatten_cons, List.flatten_nil, List.append_nil]
theorem glue_le (l : List ByteArray) (i : Nat) : (glue (l.take i)).length ≤ (glue l).length := by
  have e : glue l = glue (l.take i) ++ glue (l.drop i) := by
    unfold glue
    rw [← List.flatten_append, ← List.map_append, List.take_append_drop]
  rw [e, List.length_append]
  omega
theorem glue_at (l : List ByteArray) (i : Nat) (hi : i < l.length) : (glue (l.take i)).length + (l[i]).size ≤ (glue l).length := by
  have h := glue_le l (i + 1)
  rw [glue_succ l i hi, List.length_append, byte_len] at h
  exact h
/-- Numbers' bytes; texts' bytes. -/
def numP (l : List Int) : List ByteArray := l.map fun x => numS x.toNat
def textP (l : List ByteArray) : List ByteArray := l.map textW
def numsS (l : List Int) : ByteArray := ⟨(glue (numP l)).toArray⟩
def textsW (l : List ByteArray) : ByteArray := ⟨(glue (textP l)).toArray⟩
theorem glue_len : ∀ (l : List ByteArray) (n : Nat), (∀ t ∈ l, t.size ≤ n) → (glue l).length ≤ n * l.length
  | [], _, _ => Nat.zero_le _
  | t :: l, n, h => by
    have h1 := h t (List.mem_cons_self ..)
    have h2 := glue_len l n (fun x hx => h x (List.mem_cons_of_mem _ hx))
    have e : glue (t :: l) = t.data.toList ++ glue l := rfl
    rw [e, List.length_append, byte_len, List.length_cons, Nat.mul_succ]
    omega
theorem numP_len (l : List Int) (hx : ∀ x ∈ l, 0 ≤ x ∧ x ≤ 4611686018427387904) : (glue (numP l)).length ≤ 21 * l.length := by
  have h := glue_len (numP l) 21 (by
    intro t ht
    obtain ⟨x, hx', rfl⟩ := List.mem_map.1 ht
    have := hx x hx'
    exact numS_size x.toNat (by omega))
  unfold numP at h ⊢
  rwa [List.length_map] at h
set_option maxHeartbeats 2000000 in
theorem nums_calls (A0 : Option Addr) (c0 : Nat) (l0 : List Int) (w : World) (hr0 : Kd.C (Kd.int .i64) w A0 l0.length l0) (hc0 : l0.length ≤ c0) (hl : l0.length ≤ 1048576) (hx : ∀ x ∈ l0, 0 ≤ x ∧ x ≤ 4611686018427387904) :
    Calls Try.prog 8 #[.slice A0 l0.length c0] w fun e w' => e = .returned (.string (numsS l0)) ∧ Below w.heap.size w w' := by
  have hsz := numP_len l0 hx
  have hlp : (numP l0).length = l0.length := List.length_map ..
  have h0 : Lib.IsBuilder 47 5 w.heap.size w.heap.size [] (w.alloc (.cells #[.pointer none, .slice none 0 0] 47)) := Lib.fresh_isBuilder _ _ w
  have b0 : Below w.heap.size w (w.alloc (.cells #[.pointer none, .slice none 0 0] 47)) := (Below.refl _ w).alloc (Nat.le_refl _) _
  have h0' : Aside0 (Lib.IsBuilder 47 5 w.heap.size w.heap.size (Lib.byteCells (glue ((numP l0).take 0))) (w.alloc (.cells #[.pointer none, .slice none 0 0] 47))) := ⟨h0⟩
  have b0' : Aside0 (Below w.heap.size w (w.alloc (.cells #[.pointer none, .slice none 0 0] 47))) := ⟨b0⟩
  have HS := Lib.hid hsz
  have HR := Lib.hid hr0
  have HC := Lib.hid hc0
  have HL := Lib.hid hl
  have HX := Lib.hid hx
  have HP := Lib.hid hlp
  have HA : Hid (∀ i (h : i < l0.length), (numP l0)[i]? = some (numS (l0[i]).toNat)) := Lib.hid fun i h => by simp [numP, List.getElem?_eq_getElem h]
  clear hsz hr0 hc0 hl hx hlp h0 b0
  go_enter Try.func8, Try.ntmps8
  go_wp2
  go_loopg [8] l0.length (fun kq v8 w' => ∃ i : Nat, v8 = .int .i64 i ∧ Aside0 (kq + i = l0.length) ∧ Aside0 (Lib.IsBuilder 47 5 w.heap.size w.heap.size (Lib.byteCells (glue ((numP l0).take i))) w') ∧ Aside0 (Below w.heap.size w w'))
  case atStart => exact ⟨0, rfl, ⟨by omega⟩, h0', b0'⟩
  case round =>
    obtain ⟨i, rfl, HK, HB, HW⟩ := hrel
    clear h0' b0'
    by_cases hi : i < l0.length
    · have c0b : decide ((i : Int) < (l0.length : Int)) = true := decide_eq_true (by omega)
      obtain ⟨ad, e1, hx⟩ := Kd.at_int (Kd.C_below HR.out HW.out) (i : Int) (by omega) (by omega)
      cases e1
      have hxb := HX.out l0[i] (List.getElem_mem hi)
      have HAi := Lib.hid (HA.out i hi)
      rw [rd_num l0 i hi, Int.toNat_natCast] at hx
      have hip : i < (numP l0).length := by rw [HP.out]; exact hi
      have ht := glue_at (numP l0) i hip
      have hsu0 := glue_succ (numP l0) i hip
      have hge := HAi.out
      rw [List.getElem?_eq_getElem hip] at hge
      rw [Option.some.inj hge] at ht hsu0
      clear hge hip
      obtain ⟨v, hv⟩ : ∃ v : Nat, l0[i] = (v : Int) := ⟨(l0[i]).toNat, by omega⟩
      rw [hv] at hx hxb ht hsu0
      rw [Int.toNat_natCast] at ht hsu0
      have hwr : IntKind.u64.wrap (v : Int) = (v : Int) := by
        unfold IntKind.wrap
        simp [IntKind.bits, IntKind.signed]
        omega
      have HN := Lib.hid fun w => num_calls v w (by omega)
      have hp : ((0 : Int) ≤ (i : Int)) = True := eq_true (by omega)
      have hq : ((i : Int) < (l0.length : Int)) = True := eq_true (by omega)
      have HQ := Lib.hid ht
      have HU := Lib.hid hsu0
      clear ht hsu0 hv HAi
      go_wp2_with (go_at_call 14; refine (HN.out _).mono ?_)
      rintro e w3 ⟨rfl, b3⟩
      have h3 := isBuild_below HB.out b3
      have b3' : Below w.heap.size w w3 := HW.out.trans (b3.mono HW.out.size)
      go_wp2_with (go_at_call 13; refine (Build.writeString w.heap.size w.heap.size (Lib.byteCells (glue ((numP l0).take i))) (numS v) _ h3 (by rw [cells_len]; have := HQ.out; have := HS.out; have := HL.out; omega) b3'.size).mono ?_)
      rintro e w4 ⟨rfl, h4, b4⟩
      rw [cells_str, ← byteCells_append, ← HU.out] at h4
      have b4' : Below w.heap.size w w4 := b3'.trans b4
      go_wp2
      repeat (go_quiet (fail); try go_wp2)
      go_roundg (gk - 1)
      case measure => have := HK.out; omega
      case rel => exact ⟨i + 1, by rw [wrap_small (by have := HL.out; omega)]; rfl, ⟨by have := HK.out; omega⟩, ⟨.inr h4⟩, ⟨b4'⟩⟩
    · have c0b : decide ((i : Int) < (l0.length : Int)) = false := decide_eq_false (by omega)
      have e : i = l0.length := by have := HK.out; omega
      subst e
      have h3 := HB.out
      have e2 : (numP l0).take l0.length = numP l0 := by rw [← HP.out, List.take_length]
      rw [e2] at h3
      go_wp2_with (go_at_call 15; refine (string_any w.heap.size w.heap.size (glue (numP l0)) _ h3 HW.out.size).mono ?_)
      rintro e w3 ⟨rfl, b3⟩
      go_wp2
      go_ret
      exact ⟨rfl, HW.out.trans b3⟩
set_option maxHeartbeats 2000000 in
theorem texts_calls (A0 : Option Addr) (c0 : Nat) (l0 : List ByteArray) (w : World) (hr0 : Kd.C Kd.string w A0 l0.length l0) (hc0 : l0.length ≤ c0) (hl : l0.length ≤ 1048576) (hsz : (glue (textP l0)).length ≤ 70368744177664) :
    Calls Try.prog 9 #[.slice A0 l0.length c0] w fun e w' => e = .returned (.string (textsW l0)) ∧ Below w.heap.size w w' := by
  have hlp : (textP l0).length = l0.length := List.length_map ..
  have h0 : Lib.IsBuilder 47 5 w.heap.size w.heap.size [] (w.alloc (.cells #[.pointer none, .slice none 0 0] 47)) := Lib.fresh_isBuilder _ _ w
  have b0 : Below w.heap.size w (w.alloc (.cells #[.pointer none, .slice none 0 0] 47)) := (Below.refl _ w).alloc (Nat.le_refl _) _
  have h0' : Aside0 (Lib.IsBuilder 47 5 w.heap.size w.heap.size (Lib.byteCells (glue ((textP l0).take 0))) (w.alloc (.cells #[.pointer none, .slice none 0 0] 47))) := ⟨h0⟩
  have b0' : Aside0 (Below w.heap.size w (w.alloc (.cells #[.pointer none, .slice none 0 0] 47))) := ⟨b0⟩
  have HS := Lib.hid hsz
  have HR := Lib.hid hr0
  have HC := Lib.hid hc0
  have HL := Lib.hid hl
  have HP := Lib.hid hlp
  have HA : Hid (∀ i (h : i < l0.length), (textP l0)[i]? = some (textW l0[i])) := Lib.hid fun i h => by simp [textP, List.getElem?_eq_getElem h]
  clear hsz hr0 hc0 hl hlp h0 b0
  go_enter Try.func9, Try.ntmps9
  go_wp2
  go_loopg [8] l0.length (fun kq v8 w' => ∃ i : Nat, v8 = .int .i64 i ∧ Aside0 (kq + i = l0.length) ∧ Aside0 (Lib.IsBuilder 47 5 w.heap.size w.heap.size (Lib.byteCells (glue ((textP l0).take i))) w') ∧ Aside0 (Below w.heap.size w w'))
  case atStart => exact ⟨0, rfl, ⟨by omega⟩, h0', b0'⟩
  case round =>
    obtain ⟨i, rfl, HK, HB, HW⟩ := hrel
    clear h0' b0'
    by_cases hi : i < l0.length
    · have c0b : decide ((i : Int) < (l0.length : Int)) = true := decide_eq_true (by omega)
      obtain ⟨ad, e1, hx⟩ := Kd.at_string (Kd.C_below HR.out HW.out) (i : Int) (by omega) (by omega)
      cases e1
      have HAi := Lib.hid (HA.out i hi)
      rw [rd_text l0 i hi, Int.toNat_natCast] at hx
      have hip : i < (textP l0).length := by rw [HP.out]; exact hi
      have ht := glue_at (textP l0) i hip
      have hsu0 := glue_succ (textP l0) i hip
      have hge := HAi.out
      rw [List.getElem?_eq_getElem hip] at hge
      rw [Option.some.inj hge] at ht hsu0
      clear hge hip
      generalize l0[i] = t at hx ht hsu0
      have htz : t.size ≤ (textW t).size := by
        unfold textW
        rw [ByteArray.size_append]
        omega
      have HN := Lib.hid fun w => text_calls t w (by have := HS.out; omega)
      have hp : ((0 : Int) ≤ (i : Int)) = True := eq_true (by omega)
      have hq : ((i : Int) < (l0.length : Int)) = True := eq_true (by omega)
      have HQ := Lib.hid ht
      have HU := Lib.hid hsu0
      clear ht hsu0 HAi htz
      go_wp2_with (go_at_call 16; refine (HN.out _).mono ?_)
      rintro e w3 ⟨rfl, b3⟩
      have h3 := isBuild_below HB.out b3
      have b3' : Below w.heap.size w w3 := HW.out.trans (b3.mono HW.out.size)
      go_wp2_with (go_at_call 13; refine (Build.writeString w.heap.size w.heap.size (Lib.byteCells (glue ((textP l0).take i))) (textW t) _ h3 (by rw [cells_len]; have := HQ.out; have := HS.out; omega) b3'.size).mono ?_)
      rintro e w4 ⟨rfl, h4, b4⟩
      rw [cells_str, ← byteCells_append, ← HU.out] at h4
      have b4' : Below w.heap.size w w4 := b3'.trans b4
      go_wp2
      repeat (go_quiet (fail); try go_wp2)
      go_roundg (gk - 1)
      case measure => have := HK.out; omega
      case rel => exact ⟨i + 1, by rw [wrap_small (by have := HL.out; omega)]; rfl, ⟨by have := HK.out; omega⟩, ⟨.inr h4⟩, ⟨b4'⟩⟩
    · have c0b : decide ((i : Int) < (l0.length : Int)) = false := decide_eq_false (by omega)
      have e : i = l0.length := by have := HK.out; omega
      subst e
      have h3 := HB.out
      have e2 : (textP l0).take l0.length = textP l0 := by rw [← HP.out, List.take_length]
      rw [e2] at h3
      go_wp2_with (go_at_call 15; refine (string_any w.heap.size w.heap.size (glue (textP l0)) _ h3 HW.out.size).mono ?_)
      rintro e w3 ⟨rfl, b3⟩
      go_wp2
      go_ret
      exact ⟨rfl, HW.out.trans b3⟩
end Go.Proofs.Ytlpcidjmaeicoaa.Wire
