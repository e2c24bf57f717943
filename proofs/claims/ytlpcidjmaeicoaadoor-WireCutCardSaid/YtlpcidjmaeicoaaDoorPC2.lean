/- Part of the proof of the statement WireCut, as a card; what is proved, and on which condition, stands at the head of YtlpcidjmaeicoaaDoorPC4 (texts TakeReq, MayQ, Next, TakeReqC, RepState, RepOut, QWix5, QWix6, Long) -/
import Derived.Handy
import Derived.Lib.Hide
import Derived.Deep.QuietTactic
import Derived.BigQuiet
import Derived.Deep.LoopGhost
import Derived.Test.YtlpcidjmaeicoaaDoorPC1
/-! TakeReq -/
/- The walk of wire.TakeReq (written by wip/mktake.py). -/
namespace Go.Proofs.YtlpcidjmaeicoaaDoor.Reader
open Go Go.RowKit Go.Proofs.YtlpcidjmaeicoaaDoor.DecM Go.Proofs.YtlpcidjmaeicoaaDoor.Giv Go.Proofs.YtlpcidjmaeicoaaDoor.Err Go.Proofs.YtlpcidjmaeicoaaDoorW.PrintWords Go.Proofs.YtlpcidjmaeicoaaDoorW.PrintLast

set_option maxHeartbeats 2000000 in
set_option maxRecDepth 10000 in
theorem take_bad (s : ByteArray) (w : World) (hg : Handle w) (hs : s.size ≤ 2048) (v1 : Int × ByteArray × Bool) (v2 : Int × ByteArray × Bool) (v3 : Int × ByteArray × Bool) (v4 : Int × ByteArray × Bool) (v5 : ByteArray × ByteArray × Bool) (h1 : numR s false 6 = v1) (h2 : numR v1.2.1 v1.2.2 1073741824 = v2) (h3 : numR v2.2.1 v2.2.2 1073741824 = v3) (h4 : numR v3.2.1 v3.2.2 1073741824 = v4) (h5 : textR v4.2.1 v4.2.2 16 = v5) (hk : ¬ v1.1 = 5) (hb : (v5.2.2 = true ∨ ¬ v5.2.1.size = 0)) :
    Calls Tryd.prog 11 #[.string s] w fun e w' => e = .returned (.tuple #[.agg zeroReq, .int .i64 3]) ∧ Below w.heap.size w w' := by
  have c1 : decide (2048 < (s.size : Int)) = false := decide_eq_false (by omega)
  have z1 : v1.2.1.size ≤ 2048 := by have h := numR_size s false 6; rw [h1] at h; omega
  have z2 : v2.2.1.size ≤ 2048 := by have h := numR_size v1.2.1 v1.2.2 1073741824; rw [h2] at h; omega
  have z3 : v3.2.1.size ≤ 2048 := by have h := numR_size v2.2.1 v2.2.2 1073741824; rw [h3] at h; omega
  have z4 : v4.2.1.size ≤ 2048 := by have h := numR_size v3.2.1 v3.2.2 1073741824; rw [h4] at h; omega
  have z5 : v5.2.1.size ≤ 2048 := by have h := textR_size v4.2.1 v4.2.2 16; rw [h5] at h; omega
  have h00 : 0 < w.heap.size := Nat.lt_of_le_of_lt (Nat.zero_le _) (cell_lt hg)
  have S0 : St w (w.heap.size + 1) w.heap.size [] ((w.alloc (.cells zeroReq 25)).alloc (.cells #[.string s, .int .i64 0, .nilIface] 60)) s 0 false zeroReq.toList := start_st w s zeroReq 25 (by decide) hg
  have Z1 := Lib.hid z1
  have H1 := Lib.hid h1
  have Z2 := Lib.hid z2
  have H2 := Lib.hid h2
  have Z3 := Lib.hid z3
  have H3 := Lib.hid h3
  have Z4 := Lib.hid z4
  have H4 := Lib.hid h4
  have Z5 := Lib.hid z5
  have H5 := Lib.hid h5
  have HS0 := Lib.hid S0
  have HSS := Lib.hid hs
  have HK := Lib.hid hk
  have HBB := Lib.hid hb
  clear S0 hg h00 hs hk hb z1 h1 z2 h2 z3 h3 z4 h4 z5 h5
  have ck : (v1.1 == 5) = false := beq_eq_false_iff_ne.mpr HK.out
  go_enter Tryd.func11, Tryd.ntmps11
  go_wp2_with (go_at_call 25; refine (num_calls (w.heap.size + 1) _ _ 0 _ 6 _ HS0.out.rd (by omega) (by have := HSS.out; omega) (by omega)).mono ?_)
  rintro e w1 ⟨rfl, R1, O1⟩
  have S1 := HS0.out.call R1 O1
  rw [H1.out] at S1 ⊢
  clear R1 O1
  have hQ : w.heap.size ≤ w1.heap.size := S1.bel.size
  have S1q := (S1.push #[.int .i64 v1.1, .int .i64 0, .int .i64 0, .int .i64 0, .string ⟨#[]⟩, .int .i64 0, .string ⟨#[]⟩, .string ⟨#[]⟩, .string ⟨#[]⟩, .string ⟨#[]⟩, .int .i64 0] 25 (by simp)).swap hQ
  have S1p := S1q.push #[.pointer (some ⟨w1.heap.size, 1, none⟩), .pointer (some ⟨w1.heap.size, 2, none⟩), .pointer (some ⟨w1.heap.size, 3, none⟩)] 63 (by simp)
  have hP : (w1.alloc (.cells #[.int .i64 v1.1, .int .i64 0, .int .i64 0, .int .i64 0, .string ⟨#[]⟩, .int .i64 0, .string ⟨#[]⟩, .string ⟨#[]⟩, .string ⟨#[]⟩, .string ⟨#[]⟩, .int .i64 0] 25)).heap.size = w1.heap.size + 1 := by simp
  rw [hP] at S1p
  have HS1b := Lib.hid S1p
  clear hQ S1 S1q S1p hP
  go_wp2
  refine wp_loop_rounds 4 ?_
  rw [rounds_succ]
  go_wp2_with (go_at_call 25; refine (num_calls (w.heap.size + 1) _ _ 1 _ 1073741824 _ HS1b.out.rd (by omega) (by have := Z1.out; omega) (by omega)).mono ?_)
  rintro e w2 ⟨rfl, R2, O2⟩
  have S2 := HS1b.out.call R2 O2
  rw [H2.out] at S2 ⊢
  clear R2 O2
  have q2 := S2.qc.c 1 (by simp)
  have g2 := S2.qc.f 1
  simp only [List.getElem_cons_zero, List.getElem_cons_succ] at q2
  have S2b := S2.store 1 (by simp) (.int .i64 v2.1)
  simp only [List.set_cons_zero, List.set_cons_succ] at S2b
  have HS2b := Lib.hid S2b
  have p2 := (S2b.kc _ (List.mem_cons_self ..)).1.c 1 (by simp)
  simp only [List.getElem_cons_zero, List.getElem_cons_succ] at p2
  clear S2 S2b
  go_wp2
  rw [rounds_succ]
  go_wp2_with (go_at_call 25; refine (num_calls (w.heap.size + 1) _ _ 2 _ 1073741824 _ HS2b.out.rd (by omega) (by have := Z2.out; omega) (by omega)).mono ?_)
  rintro e w3 ⟨rfl, R3, O3⟩
  have S3 := HS2b.out.call R3 O3
  rw [H3.out] at S3 ⊢
  clear R3 O3
  have q3 := S3.qc.c 2 (by simp)
  have g3 := S3.qc.f 2
  simp only [List.getElem_cons_zero, List.getElem_cons_succ] at q3
  have S3b := S3.store 2 (by simp) (.int .i64 v3.1)
  simp only [List.set_cons_zero, List.set_cons_succ] at S3b
  have HS3b := Lib.hid S3b
  have p3 := (S3b.kc _ (List.mem_cons_self ..)).1.c 2 (by simp)
  simp only [List.getElem_cons_zero, List.getElem_cons_succ] at p3
  clear S3 S3b
  go_wp2
  rw [rounds_succ]
  go_wp2_with (go_at_call 25; refine (num_calls (w.heap.size + 1) _ _ 3 _ 1073741824 _ HS3b.out.rd (by omega) (by have := Z3.out; omega) (by omega)).mono ?_)
  rintro e w4 ⟨rfl, R4, O4⟩
  have S4 := HS3b.out.call R4 O4
  rw [H4.out] at S4 ⊢
  clear R4 O4
  have q4 := S4.qc.c 3 (by simp)
  have g4 := S4.qc.f 3
  simp only [List.getElem_cons_zero, List.getElem_cons_succ] at q4
  have S4b := S4.store 3 (by simp) (.int .i64 v4.1)
  simp only [List.set_cons_zero, List.set_cons_succ] at S4b
  have HS4b := Lib.hid S4b
  clear S4 S4b
  go_wp2
  rw [rounds_succ]
  go_wp2_with (go_at_call 26; refine (text_calls (w.heap.size + 1) _ _ 4 _ 16 _ HS4b.out.rd (by omega) (by have := Z4.out; omega) (by omega)).mono ?_)
  rintro e w5 ⟨rfl, R5, O5⟩
  have S5 := HS4b.out.call R5 O5
  rw [H5.out] at S5 ⊢
  clear R5 O5
  have q5 := S5.qc.c 4 (by simp)
  have g5 := S5.qc.f 4
  simp only [List.getElem_cons_zero, List.getElem_cons_succ] at q5
  have S5b := S5.store 4 (by simp) (.string v5.1)
  simp only [List.set_cons_zero, List.set_cons_succ] at S5b
  have HS5b := Lib.hid S5b
  have k0 := S5b.qc.c 0 (by simp)
  simp only [List.getElem_cons_zero] at k0
  clear S5 S5b
  have e0 := Lib.hid (end_calls (w.heap.size + 1) _ _ 5 _ _ HS5b.out.hg (by omega) HS5b.out.rd (by omega))
  rw [if_pos HBB.out] at e0
  go_wp2_with (go_at_call 27; refine e0.out.mono ?_)
  rintro e w90 ⟨rfl, O90⟩
  have B90 := Lib.hid (HS5b.out.bel.trans (O90.below HS5b.out.r0 HS5b.out.bel.size))
  have K90 := (HS5b.out.kc (w.heap.size, zeroReq.toList) (by simp)).1.only (by simp [zeroReq]) O90 (HS5b.out.kc (w.heap.size, zeroReq.toList) (by simp)).2.2.1
  have y0 : w90.cell? ⟨w.heap.size, 0, none⟩ = some (.int .i64 0) := K90.c 0 (by simp [zeroReq])
  have y1 : w90.cell? ⟨w.heap.size, 1, none⟩ = some (.int .i64 0) := K90.c 1 (by simp [zeroReq])
  have y2 : w90.cell? ⟨w.heap.size, 2, none⟩ = some (.int .i64 0) := K90.c 2 (by simp [zeroReq])
  have y3 : w90.cell? ⟨w.heap.size, 3, none⟩ = some (.int .i64 0) := K90.c 3 (by simp [zeroReq])
  have y4 : w90.cell? ⟨w.heap.size, 4, none⟩ = some (.string ⟨#[]⟩) := K90.c 4 (by simp [zeroReq])
  have y5 : w90.cell? ⟨w.heap.size, 5, none⟩ = some (.int .i64 0) := K90.c 5 (by simp [zeroReq])
  have y6 : w90.cell? ⟨w.heap.size, 6, none⟩ = some (.string ⟨#[]⟩) := K90.c 6 (by simp [zeroReq])
  have y7 : w90.cell? ⟨w.heap.size, 7, none⟩ = some (.string ⟨#[]⟩) := K90.c 7 (by simp [zeroReq])
  have y8 : w90.cell? ⟨w.heap.size, 8, none⟩ = some (.string ⟨#[]⟩) := K90.c 8 (by simp [zeroReq])
  have y9 : w90.cell? ⟨w.heap.size, 9, none⟩ = some (.string ⟨#[]⟩) := K90.c 9 (by simp [zeroReq])
  have y10 : w90.cell? ⟨w.heap.size, 10, none⟩ = some (.int .i64 0) := K90.c 10 (by simp [zeroReq])
  have f0 := K90.f 0
  have f1 := K90.f 1
  have f2 := K90.f 2
  have f3 := K90.f 3
  have f4 := K90.f 4
  have f5 := K90.f 5
  have f6 := K90.f 6
  have f7 := K90.f 7
  have f8 := K90.f 8
  have f9 := K90.f 9
  have f10 := K90.f 10
  have HK90 := Lib.hid K90
  clear K90 O90
  go_wp2
  have KF := (((((((((((HK90.out).set 0 (by simp [zeroReq]) (.int .i64 0)).set 1 (by simp [zeroReq]) (.int .i64 0)).set 2 (by simp [zeroReq]) (.int .i64 0)).set 3 (by simp [zeroReq]) (.int .i64 0)).set 4 (by simp [zeroReq]) (.string ⟨#[]⟩)).set 5 (by simp [zeroReq]) (.int .i64 0)).set 6 (by simp [zeroReq]) (.string ⟨#[]⟩)).set 7 (by simp [zeroReq]) (.string ⟨#[]⟩)).set 8 (by simp [zeroReq]) (.string ⟨#[]⟩)).set 9 (by simp [zeroReq]) (.string ⟨#[]⟩)).set 10 (by simp [zeroReq]) (.int .i64 0)
  try simp only [Exit.inBlock, Exit.then]
  have HL := load_req _ _ _ KF (.int .i64 0) (.int .i64 0) (.int .i64 0) (.int .i64 0) (.string ⟨#[]⟩) (.int .i64 0) (.string ⟨#[]⟩) (.string ⟨#[]⟩) (.string ⟨#[]⟩) (.string ⟨#[]⟩) (.int .i64 0) rfl
  refine bodyPost_ret (results_cell_tmp Tryd.results11 _ _ _ ⟨w.heap.size, 0, none⟩ _ rfl HL) rfl ?_
  refine ⟨rfl, ?_⟩
  exact (((((((((((B90.out).setCell (p := ⟨w.heap.size, _, none⟩) (Nat.le_refl _) _).setCell (p := ⟨w.heap.size, _, none⟩) (Nat.le_refl _) _).setCell (p := ⟨w.heap.size, _, none⟩) (Nat.le_refl _) _).setCell (p := ⟨w.heap.size, _, none⟩) (Nat.le_refl _) _).setCell (p := ⟨w.heap.size, _, none⟩) (Nat.le_refl _) _).setCell (p := ⟨w.heap.size, _, none⟩) (Nat.le_refl _) _).setCell (p := ⟨w.heap.size, _, none⟩) (Nat.le_refl _) _).setCell (p := ⟨w.heap.size, _, none⟩) (Nat.le_refl _) _).setCell (p := ⟨w.heap.size, _, none⟩) (Nat.le_refl _) _).setCell (p := ⟨w.heap.size, _, none⟩) (Nat.le_refl _) _).setCell (p := ⟨w.heap.size, _, none⟩) (Nat.le_refl _) _
set_option maxHeartbeats 2000000 in
set_option maxRecDepth 10000 in
theorem take_good (s : ByteArray) (w : World) (hg : Handle w) (hs : s.size ≤ 2048) (v1 : Int × ByteArray × Bool) (v2 : Int × ByteArray × Bool) (v3 : Int × ByteArray × Bool) (v4 : Int × ByteArray × Bool) (v5 : ByteArray × ByteArray × Bool) (h1 : numR s false 6 = v1) (h2 : numR v1.2.1 v1.2.2 1073741824 = v2) (h3 : numR v2.2.1 v2.2.2 1073741824 = v3) (h4 : numR v3.2.1 v3.2.2 1073741824 = v4) (h5 : textR v4.2.1 v4.2.2 16 = v5) (hk : ¬ v1.1 = 5) (hb : ¬ (v5.2.2 = true ∨ ¬ v5.2.1.size = 0)) (mb : Bool) (hmb : QWi.wire_MayReq.f 1 v1.1 v2.1 v3.1 v4.1 v5.1 0 ⟨#[]⟩ ⟨#[]⟩ ⟨#[]⟩ ⟨#[]⟩ 0 = some mb) :
    Calls Tryd.prog 11 #[.string s] w fun e w' => e = .returned (.tuple (if mb = true then #[.agg #[.int .i64 v1.1, .int .i64 v2.1, .int .i64 v3.1, .int .i64 v4.1, .string v5.1, .int .i64 0, .string ⟨#[]⟩, .string ⟨#[]⟩, .string ⟨#[]⟩, .string ⟨#[]⟩, .int .i64 0], .int .i64 0] else #[.agg zeroReq, .int .i64 3])) ∧ Below w.heap.size w w' := by
  have c1 : decide (2048 < (s.size : Int)) = false := decide_eq_false (by omega)
  have z1 : v1.2.1.size ≤ 2048 := by have h := numR_size s false 6; rw [h1] at h; omega
  have z2 : v2.2.1.size ≤ 2048 := by have h := numR_size v1.2.1 v1.2.2 1073741824; rw [h2] at h; omega
  have z3 : v3.2.1.size ≤ 2048 := by have h := numR_size v2.2.1 v2.2.2 1073741824; rw [h3] at h; omega
  have z4 : v4.2.1.size ≤ 2048 := by have h := numR_size v3.2.1 v3.2.2 1073741824; rw [h4] at h; omega
  have z5 : v5.2.1.size ≤ 2048 := by have h := textR_size v4.2.1 v4.2.2 16; rw [h5] at h; omega
  have h00 : 0 < w.heap.size := Nat.lt_of_le_of_lt (Nat.zero_le _) (cell_lt hg)
  have S0 : St w (w.heap.size + 1) w.heap.size [] ((w.alloc (.cells zeroReq 25)).alloc (.cells #[.string s, .int .i64 0, .nilIface] 60)) s 0 false zeroReq.toList := start_st w s zeroReq 25 (by decide) hg
  have Z1 := Lib.hid z1
  have H1 := Lib.hid h1
  have Z2 := Lib.hid z2
  have H2 := Lib.hid h2
  have Z3 := Lib.hid z3
  have H3 := Lib.hid h3
  have Z4 := Lib.hid z4
  have H4 := Lib.hid h4
  have Z5 := Lib.hid z5
  have H5 := Lib.hid h5
  have HS0 := Lib.hid S0
  have HSS := Lib.hid hs
  have HK := Lib.hid hk
  have HBB := Lib.hid hb
  have HMB := Lib.hid hmb
  clear S0 hg h00 hs hk hb z1 h1 z2 h2 z3 h3 z4 h4 z5 h5 hmb
  have ck : (v1.1 == 5) = false := beq_eq_false_iff_ne.mpr HK.out
  go_enter Tryd.func11, Tryd.ntmps11
  go_wp2_with (go_at_call 25; refine (num_calls (w.heap.size + 1) _ _ 0 _ 6 _ HS0.out.rd (by omega) (by have := HSS.out; omega) (by omega)).mono ?_)
  rintro e w1 ⟨rfl, R1, O1⟩
  have S1 := HS0.out.call R1 O1
  rw [H1.out] at S1 ⊢
  clear R1 O1
  have hQ : w.heap.size ≤ w1.heap.size := S1.bel.size
  have S1q := (S1.push #[.int .i64 v1.1, .int .i64 0, .int .i64 0, .int .i64 0, .string ⟨#[]⟩, .int .i64 0, .string ⟨#[]⟩, .string ⟨#[]⟩, .string ⟨#[]⟩, .string ⟨#[]⟩, .int .i64 0] 25 (by simp)).swap hQ
  have S1p := S1q.push #[.pointer (some ⟨w1.heap.size, 1, none⟩), .pointer (some ⟨w1.heap.size, 2, none⟩), .pointer (some ⟨w1.heap.size, 3, none⟩)] 63 (by simp)
  have hP : (w1.alloc (.cells #[.int .i64 v1.1, .int .i64 0, .int .i64 0, .int .i64 0, .string ⟨#[]⟩, .int .i64 0, .string ⟨#[]⟩, .string ⟨#[]⟩, .string ⟨#[]⟩, .string ⟨#[]⟩, .int .i64 0] 25)).heap.size = w1.heap.size + 1 := by simp
  rw [hP] at S1p
  have HS1b := Lib.hid S1p
  clear hQ S1 S1q S1p hP
  go_wp2
  refine wp_loop_rounds 4 ?_
  rw [rounds_succ]
  go_wp2_with (go_at_call 25; refine (num_calls (w.heap.size + 1) _ _ 1 _ 1073741824 _ HS1b.out.rd (by omega) (by have := Z1.out; omega) (by omega)).mono ?_)
  rintro e w2 ⟨rfl, R2, O2⟩
  have S2 := HS1b.out.call R2 O2
  rw [H2.out] at S2 ⊢
  clear R2 O2
  have q2 := S2.qc.c 1 (by simp)
  have g2 := S2.qc.f 1
  simp only [List.getElem_cons_zero, List.getElem_cons_succ] at q2
  have S2b := S2.store 1 (by simp) (.int .i64 v2.1)
  simp only [List.set_cons_zero, List.set_cons_succ] at S2b
  have HS2b := Lib.hid S2b
  have p2 := (S2b.kc _ (List.mem_cons_self ..)).1.c 1 (by simp)
  simp only [List.getElem_cons_zero, List.getElem_cons_succ] at p2
  clear S2 S2b
  go_wp2
  rw [rounds_succ]
  go_wp2_with (go_at_call 25; refine (num_calls (w.heap.size + 1) _ _ 2 _ 1073741824 _ HS2b.out.rd (by omega) (by have := Z2.out; omega) (by omega)).mono ?_)
  rintro e w3 ⟨rfl, R3, O3⟩
  have S3 := HS2b.out.call R3 O3
  rw [H3.out] at S3 ⊢
  clear R3 O3
  have q3 := S3.qc.c 2 (by simp)
  have g3 := S3.qc.f 2
  simp only [List.getElem_cons_zero, List.getElem_cons_succ] at q3
  have S3b := S3.store 2 (by simp) (.int .i64 v3.1)
  simp only [List.set_cons_zero, List.set_cons_succ] at S3b
  have HS3b := Lib.hid S3b
  have p3 := (S3b.kc _ (List.mem_cons_self ..)).1.c 2 (by simp)
  simp only [List.getElem_cons_zero, List.getElem_cons_succ] at p3
  clear S3 S3b
  go_wp2
  rw [rounds_succ]
  go_wp2_with (go_at_call 25; refine (num_calls (w.heap.size + 1) _ _ 3 _ 1073741824 _ HS3b.out.rd (by omega) (by have := Z3.out; omega) (by omega)).mono ?_)
  rintro e w4 ⟨rfl, R4, O4⟩
  have S4 := HS3b.out.call R4 O4
  rw [H4.out] at S4 ⊢
  clear R4 O4
  have q4 := S4.qc.c 3 (by simp)
  have g4 := S4.qc.f 3
  simp only [List.getElem_cons_zero, List.getElem_cons_succ] at q4
  have S4b := S4.store 3 (by simp) (.int .i64 v4.1)
  simp only [List.set_cons_zero, List.set_cons_succ] at S4b
  have HS4b := Lib.hid S4b
  clear S4 S4b
  go_wp2
  rw [rounds_succ]
  go_wp2_with (go_at_call 26; refine (text_calls (w.heap.size + 1) _ _ 4 _ 16 _ HS4b.out.rd (by omega) (by have := Z4.out; omega) (by omega)).mono ?_)
  rintro e w5 ⟨rfl, R5, O5⟩
  have S5 := HS4b.out.call R5 O5
  rw [H5.out] at S5 ⊢
  clear R5 O5
  have q5 := S5.qc.c 4 (by simp)
  have g5 := S5.qc.f 4
  simp only [List.getElem_cons_zero, List.getElem_cons_succ] at q5
  have S5b := S5.store 4 (by simp) (.string v5.1)
  simp only [List.set_cons_zero, List.set_cons_succ] at S5b
  have HS5b := Lib.hid S5b
  have k0 := S5b.qc.c 0 (by simp)
  simp only [List.getElem_cons_zero] at k0
  clear S5 S5b
  have e0 := Lib.hid (end_calls (w.heap.size + 1) _ _ 5 _ _ HS5b.out.hg (by omega) HS5b.out.rd (by omega))
  rw [if_neg HBB.out] at e0
  go_wp2_with (go_at_call 27; refine e0.out.mono ?_)
  rintro e w90 ⟨rfl, O90⟩
  have B90 := Lib.hid (HS5b.out.bel.trans (O90.below HS5b.out.r0 HS5b.out.bel.size))
  have K90 := (HS5b.out.kc (w.heap.size, zeroReq.toList) (by simp)).1.only (by simp [zeroReq]) O90 (HS5b.out.kc (w.heap.size, zeroReq.toList) (by simp)).2.2.1
  have Q90 := HS5b.out.qc.only HS5b.out.hq O90 HS5b.out.qr
  have x0 := Q90.c 0 (by simp)
  have x1 := Q90.c 1 (by simp)
  have x2 := Q90.c 2 (by simp)
  have x3 := Q90.c 3 (by simp)
  have x4 := Q90.c 4 (by simp)
  have x5 := Q90.c 5 (by simp)
  have x6 := Q90.c 6 (by simp)
  have x7 := Q90.c 7 (by simp)
  have x8 := Q90.c 8 (by simp)
  have x9 := Q90.c 9 (by simp)
  have x10 := Q90.c 10 (by simp)
  simp only [List.getElem_cons_zero, List.getElem_cons_succ] at x0 x1 x2 x3 x4 x5 x6 x7 x8 x9 x10
  have HQ90 := Lib.hid Q90
  clear Q90 O90
  have HK90 := Lib.hid K90
  clear K90
  go_wp2_with (go_at_call 13; refine (QWi.wire_MayReq.calls 1 v1.1 v2.1 v3.1 v4.1 v5.1 0 ⟨#[]⟩ ⟨#[]⟩ ⟨#[]⟩ ⟨#[]⟩ 0 mb _ HMB.out).mono ?_)
  rintro e w91 ⟨rfl, b91⟩
  have B91 := Lib.hid (B90.out.trans (b91.mono B90.out.size))
  have K91 := HK90.out.below (by simp [zeroReq]) b91
  have y0 : w91.cell? ⟨w.heap.size, 0, none⟩ = some (.int .i64 0) := K91.c 0 (by simp [zeroReq])
  have y1 : w91.cell? ⟨w.heap.size, 1, none⟩ = some (.int .i64 0) := K91.c 1 (by simp [zeroReq])
  have y2 : w91.cell? ⟨w.heap.size, 2, none⟩ = some (.int .i64 0) := K91.c 2 (by simp [zeroReq])
  have y3 : w91.cell? ⟨w.heap.size, 3, none⟩ = some (.int .i64 0) := K91.c 3 (by simp [zeroReq])
  have y4 : w91.cell? ⟨w.heap.size, 4, none⟩ = some (.string ⟨#[]⟩) := K91.c 4 (by simp [zeroReq])
  have y5 : w91.cell? ⟨w.heap.size, 5, none⟩ = some (.int .i64 0) := K91.c 5 (by simp [zeroReq])
  have y6 : w91.cell? ⟨w.heap.size, 6, none⟩ = some (.string ⟨#[]⟩) := K91.c 6 (by simp [zeroReq])
  have y7 : w91.cell? ⟨w.heap.size, 7, none⟩ = some (.string ⟨#[]⟩) := K91.c 7 (by simp [zeroReq])
  have y8 : w91.cell? ⟨w.heap.size, 8, none⟩ = some (.string ⟨#[]⟩) := K91.c 8 (by simp [zeroReq])
  have y9 : w91.cell? ⟨w.heap.size, 9, none⟩ = some (.string ⟨#[]⟩) := K91.c 9 (by simp [zeroReq])
  have y10 : w91.cell? ⟨w.heap.size, 10, none⟩ = some (.int .i64 0) := K91.c 10 (by simp [zeroReq])
  have f0 := K91.f 0
  have f1 := K91.f 1
  have f2 := K91.f 2
  have f3 := K91.f 3
  have f4 := K91.f 4
  have f5 := K91.f 5
  have f6 := K91.f 6
  have f7 := K91.f 7
  have f8 := K91.f 8
  have f9 := K91.f 9
  have f10 := K91.f 10
  have HK91 := Lib.hid K91
  have Q91 := HQ90.out.below (by simp) b91
  have u0 := Q91.c 0 (by simp)
  have u1 := Q91.c 1 (by simp)
  have u2 := Q91.c 2 (by simp)
  have u3 := Q91.c 3 (by simp)
  have u4 := Q91.c 4 (by simp)
  have u5 := Q91.c 5 (by simp)
  have u6 := Q91.c 6 (by simp)
  have u7 := Q91.c 7 (by simp)
  have u8 := Q91.c 8 (by simp)
  have u9 := Q91.c 9 (by simp)
  have u10 := Q91.c 10 (by simp)
  simp only [List.getElem_cons_zero, List.getElem_cons_succ] at u0 u1 u2 u3 u4 u5 u6 u7 u8 u9 u10
  clear b91 K91 Q91
  cases mb with
  | true =>
    go_wp2
    have KF := (((((((((((HK91.out).set 0 (by simp [zeroReq]) (.int .i64 v1.1)).set 1 (by simp [zeroReq]) (.int .i64 v2.1)).set 2 (by simp [zeroReq]) (.int .i64 v3.1)).set 3 (by simp [zeroReq]) (.int .i64 v4.1)).set 4 (by simp [zeroReq]) (.string v5.1)).set 5 (by simp [zeroReq]) (.int .i64 0)).set 6 (by simp [zeroReq]) (.string ⟨#[]⟩)).set 7 (by simp [zeroReq]) (.string ⟨#[]⟩)).set 8 (by simp [zeroReq]) (.string ⟨#[]⟩)).set 9 (by simp [zeroReq]) (.string ⟨#[]⟩)).set 10 (by simp [zeroReq]) (.int .i64 0)
    try simp only [Exit.inBlock, Exit.then]
    have HL := load_req _ _ _ KF (.int .i64 v1.1) (.int .i64 v2.1) (.int .i64 v3.1) (.int .i64 v4.1) (.string v5.1) (.int .i64 0) (.string ⟨#[]⟩) (.string ⟨#[]⟩) (.string ⟨#[]⟩) (.string ⟨#[]⟩) (.int .i64 0) rfl
    refine bodyPost_ret (results_cell_tmp Tryd.results11 _ _ _ ⟨w.heap.size, 0, none⟩ _ rfl HL) rfl ?_
    refine ⟨rfl, ?_⟩
    exact (((((((((((B91.out).setCell (p := ⟨w.heap.size, _, none⟩) (Nat.le_refl _) _).setCell (p := ⟨w.heap.size, _, none⟩) (Nat.le_refl _) _).setCell (p := ⟨w.heap.size, _, none⟩) (Nat.le_refl _) _).setCell (p := ⟨w.heap.size, _, none⟩) (Nat.le_refl _) _).setCell (p := ⟨w.heap.size, _, none⟩) (Nat.le_refl _) _).setCell (p := ⟨w.heap.size, _, none⟩) (Nat.le_refl _) _).setCell (p := ⟨w.heap.size, _, none⟩) (Nat.le_refl _) _).setCell (p := ⟨w.heap.size, _, none⟩) (Nat.le_refl _) _).setCell (p := ⟨w.heap.size, _, none⟩) (Nat.le_refl _) _).setCell (p := ⟨w.heap.size, _, none⟩) (Nat.le_refl _) _).setCell (p := ⟨w.heap.size, _, none⟩) (Nat.le_refl _) _
  | false =>
    go_wp2
    have KF := (((((((((((HK91.out).set 0 (by simp [zeroReq]) (.int .i64 0)).set 1 (by simp [zeroReq]) (.int .i64 0)).set 2 (by simp [zeroReq]) (.int .i64 0)).set 3 (by simp [zeroReq]) (.int .i64 0)).set 4 (by simp [zeroReq]) (.string ⟨#[]⟩)).set 5 (by simp [zeroReq]) (.int .i64 0)).set 6 (by simp [zeroReq]) (.string ⟨#[]⟩)).set 7 (by simp [zeroReq]) (.string ⟨#[]⟩)).set 8 (by simp [zeroReq]) (.string ⟨#[]⟩)).set 9 (by simp [zeroReq]) (.string ⟨#[]⟩)).set 10 (by simp [zeroReq]) (.int .i64 0)
    try simp only [Exit.inBlock, Exit.then]
    have HL := load_req _ _ _ KF (.int .i64 0) (.int .i64 0) (.int .i64 0) (.int .i64 0) (.string ⟨#[]⟩) (.int .i64 0) (.string ⟨#[]⟩) (.string ⟨#[]⟩) (.string ⟨#[]⟩) (.string ⟨#[]⟩) (.int .i64 0) rfl
    refine bodyPost_ret (results_cell_tmp Tryd.results11 _ _ _ ⟨w.heap.size, 0, none⟩ _ rfl HL) rfl ?_
    refine ⟨rfl, ?_⟩
    exact (((((((((((B91.out).setCell (p := ⟨w.heap.size, _, none⟩) (Nat.le_refl _) _).setCell (p := ⟨w.heap.size, _, none⟩) (Nat.le_refl _) _).setCell (p := ⟨w.heap.size, _, none⟩) (Nat.le_refl _) _).setCell (p := ⟨w.heap.size, _, none⟩) (Nat.le_refl _) _).setCell (p := ⟨w.heap.size, _, none⟩) (Nat.le_refl _) _).setCell (p := ⟨w.heap.size, _, none⟩) (Nat.le_refl _) _).setCell (p := ⟨w.heap.size, _, none⟩) (Nat.le_refl _) _).setCell (p := ⟨w.heap.size, _, none⟩) (Nat.le_refl _) _).setCell (p := ⟨w.heap.size, _, none⟩) (Nat.le_refl _) _).setCell (p := ⟨w.heap.size, _, none⟩) (Nat.le_refl _) _).setCell (p := ⟨w.heap.size, _, none⟩) (Nat.le_refl _) _
set_option maxHeartbeats 2000000 in
set_option maxRecDepth 10000 in
theorem take5_bad (s : ByteArray) (w : World) (hg : Handle w) (hs : s.size ≤ 2048) (v1 : Int × ByteArray × Bool) (v2 : Int × ByteArray × Bool) (v3 : Int × ByteArray × Bool) (v4 : Int × ByteArray × Bool) (v5 : ByteArray × ByteArray × Bool) (v6 : Int × ByteArray × Bool) (v7 : ByteArray × ByteArray × Bool) (v8 : ByteArray × ByteArray × Bool) (v9 : ByteArray × ByteArray × Bool) (v10 : ByteArray × ByteArray × Bool) (v11 : Int × ByteArray × Bool) (h1 : numR s false 6 = v1) (h2 : numR v1.2.1 v1.2.2 1073741824 = v2) (h3 : numR v2.2.1 v2.2.2 1073741824 = v3) (h4 : numR v3.2.1 v3.2.2 1073741824 = v4) (h5 : textR v4.2.1 v4.2.2 16 = v5) (h6 : numR v5.2.1 v5.2.2 6 = v6) (h7 : textR v6.2.1 v6.2.2 32 = v7) (h8 : textR v7.2.1 v7.2.2 64 = v8) (h9 : textR v8.2.1 v8.2.2 32 = v9) (h10 : textR v9.2.1 v9.2.2 32 = v10) (h11 : numR v10.2.1 v10.2.2 1073741824 = v11) (hk : v1.1 = 5) (hb : (v11.2.2 = true ∨ ¬ v11.2.1.size = 0)) :
    Calls Tryd.prog 11 #[.string s] w fun e w' => e = .returned (.tuple #[.agg zeroReq, .int .i64 3]) ∧ Below w.heap.size w w' := by
  have c1 : decide (2048 < (s.size : Int)) = false := decide_eq_false (by omega)
  have z1 : v1.2.1.size ≤ 2048 := by have h := numR_size s false 6; rw [h1] at h; omega
  have z2 : v2.2.1.size ≤ 2048 := by have h := numR_size v1.2.1 v1.2.2 1073741824; rw [h2] at h; omega
  have z3 : v3.2.1.size ≤ 2048 := by have h := numR_size v2.2.1 v2.2.2 1073741824; rw [h3] at h; omega
  have z4 : v4.2.1.size ≤ 2048 := by have h := numR_size v3.2.1 v3.2.2 1073741824; rw [h4] at h; omega
  have z5 : v5.2.1.size ≤ 2048 := by have h := textR_size v4.2.1 v4.2.2 16; rw [h5] at h; omega
  have z6 : v6.2.1.size ≤ 2048 := by have h := numR_size v5.2.1 v5.2.2 6; rw [h6] at h; omega
  have z7 : v7.2.1.size ≤ 2048 := by have h := textR_size v6.2.1 v6.2.2 32; rw [h7] at h; omega
  have z8 : v8.2.1.size ≤ 2048 := by have h := textR_size v7.2.1 v7.2.2 64; rw [h8] at h; omega
  have z9 : v9.2.1.size ≤ 2048 := by have h := textR_size v8.2.1 v8.2.2 32; rw [h9] at h; omega
  have z10 : v10.2.1.size ≤ 2048 := by have h := textR_size v9.2.1 v9.2.2 32; rw [h10] at h; omega
  have z11 : v11.2.1.size ≤ 2048 := by have h := numR_size v10.2.1 v10.2.2 1073741824; rw [h11] at h; omega
  have h00 : 0 < w.heap.size := Nat.lt_of_le_of_lt (Nat.zero_le _) (cell_lt hg)
  have S0 : St w (w.heap.size + 1) w.heap.size [] ((w.alloc (.cells zeroReq 25)).alloc (.cells #[.string s, .int .i64 0, .nilIface] 60)) s 0 false zeroReq.toList := start_st w s zeroReq 25 (by decide) hg
  have Z1 := Lib.hid z1
  have H1 := Lib.hid h1
  have Z2 := Lib.hid z2
  have H2 := Lib.hid h2
  have Z3 := Lib.hid z3
  have H3 := Lib.hid h3
  have Z4 := Lib.hid z4
  have H4 := Lib.hid h4
  have Z5 := Lib.hid z5
  have H5 := Lib.hid h5
  have Z6 := Lib.hid z6
  have H6 := Lib.hid h6
  have Z7 := Lib.hid z7
  have H7 := Lib.hid h7
  have Z8 := Lib.hid z8
  have H8 := Lib.hid h8
  have Z9 := Lib.hid z9
  have H9 := Lib.hid h9
  have Z10 := Lib.hid z10
  have H10 := Lib.hid h10
  have Z11 := Lib.hid z11
  have H11 := Lib.hid h11
  have HS0 := Lib.hid S0
  have HSS := Lib.hid hs
  have HK := Lib.hid hk
  have HBB := Lib.hid hb
  clear S0 hg h00 hs hk hb z1 h1 z2 h2 z3 h3 z4 h4 z5 h5 z6 h6 z7 h7 z8 h8 z9 h9 z10 h10 z11 h11
  have ck : (v1.1 == 5) = true := beq_iff_eq.mpr HK.out
  go_enter Tryd.func11, Tryd.ntmps11
  go_wp2_with (go_at_call 25; refine (num_calls (w.heap.size + 1) _ _ 0 _ 6 _ HS0.out.rd (by omega) (by have := HSS.out; omega) (by omega)).mono ?_)
  rintro e w1 ⟨rfl, R1, O1⟩
  have S1 := HS0.out.call R1 O1
  rw [H1.out] at S1 ⊢
  clear R1 O1
  have hQ : w.heap.size ≤ w1.heap.size := S1.bel.size
  have S1q := (S1.push #[.int .i64 v1.1, .int .i64 0, .int .i64 0, .int .i64 0, .string ⟨#[]⟩, .int .i64 0, .string ⟨#[]⟩, .string ⟨#[]⟩, .string ⟨#[]⟩, .string ⟨#[]⟩, .int .i64 0] 25 (by simp)).swap hQ
  have S1p := S1q.push #[.pointer (some ⟨w1.heap.size, 1, none⟩), .pointer (some ⟨w1.heap.size, 2, none⟩), .pointer (some ⟨w1.heap.size, 3, none⟩)] 63 (by simp)
  have hP : (w1.alloc (.cells #[.int .i64 v1.1, .int .i64 0, .int .i64 0, .int .i64 0, .string ⟨#[]⟩, .int .i64 0, .string ⟨#[]⟩, .string ⟨#[]⟩, .string ⟨#[]⟩, .string ⟨#[]⟩, .int .i64 0] 25)).heap.size = w1.heap.size + 1 := by simp
  rw [hP] at S1p
  have HS1b := Lib.hid S1p
  clear hQ S1 S1q S1p hP
  go_wp2
  refine wp_loop_rounds 4 ?_
  rw [rounds_succ]
  go_wp2_with (go_at_call 25; refine (num_calls (w.heap.size + 1) _ _ 1 _ 1073741824 _ HS1b.out.rd (by omega) (by have := Z1.out; omega) (by omega)).mono ?_)
  rintro e w2 ⟨rfl, R2, O2⟩
  have S2 := HS1b.out.call R2 O2
  rw [H2.out] at S2 ⊢
  clear R2 O2
  have q2 := S2.qc.c 1 (by simp)
  have g2 := S2.qc.f 1
  simp only [List.getElem_cons_zero, List.getElem_cons_succ] at q2
  have S2b := S2.store 1 (by simp) (.int .i64 v2.1)
  simp only [List.set_cons_zero, List.set_cons_succ] at S2b
  have HS2b := Lib.hid S2b
  have p2 := (S2b.kc _ (List.mem_cons_self ..)).1.c 1 (by simp)
  simp only [List.getElem_cons_zero, List.getElem_cons_succ] at p2
  clear S2 S2b
  go_wp2
  rw [rounds_succ]
  go_wp2_with (go_at_call 25; refine (num_calls (w.heap.size + 1) _ _ 2 _ 1073741824 _ HS2b.out.rd (by omega) (by have := Z2.out; omega) (by omega)).mono ?_)
  rintro e w3 ⟨rfl, R3, O3⟩
  have S3 := HS2b.out.call R3 O3
  rw [H3.out] at S3 ⊢
  clear R3 O3
  have q3 := S3.qc.c 2 (by simp)
  have g3 := S3.qc.f 2
  simp only [List.getElem_cons_zero, List.getElem_cons_succ] at q3
  have S3b := S3.store 2 (by simp) (.int .i64 v3.1)
  simp only [List.set_cons_zero, List.set_cons_succ] at S3b
  have HS3b := Lib.hid S3b
  have p3 := (S3b.kc _ (List.mem_cons_self ..)).1.c 2 (by simp)
  simp only [List.getElem_cons_zero, List.getElem_cons_succ] at p3
  clear S3 S3b
  go_wp2
  rw [rounds_succ]
  go_wp2_with (go_at_call 25; refine (num_calls (w.heap.size + 1) _ _ 3 _ 1073741824 _ HS3b.out.rd (by omega) (by have := Z3.out; omega) (by omega)).mono ?_)
  rintro e w4 ⟨rfl, R4, O4⟩
  have S4 := HS3b.out.call R4 O4
  rw [H4.out] at S4 ⊢
  clear R4 O4
  have q4 := S4.qc.c 3 (by simp)
  have g4 := S4.qc.f 3
  simp only [List.getElem_cons_zero, List.getElem_cons_succ] at q4
  have S4b := S4.store 3 (by simp) (.int .i64 v4.1)
  simp only [List.set_cons_zero, List.set_cons_succ] at S4b
  have HS4b := Lib.hid S4b
  clear S4 S4b
  go_wp2
  rw [rounds_succ]
  go_wp2_with (go_at_call 26; refine (text_calls (w.heap.size + 1) _ _ 4 _ 16 _ HS4b.out.rd (by omega) (by have := Z4.out; omega) (by omega)).mono ?_)
  rintro e w5 ⟨rfl, R5, O5⟩
  have S5 := HS4b.out.call R5 O5
  rw [H5.out] at S5 ⊢
  clear R5 O5
  have q5 := S5.qc.c 4 (by simp)
  have g5 := S5.qc.f 4
  simp only [List.getElem_cons_zero, List.getElem_cons_succ] at q5
  have S5b := S5.store 4 (by simp) (.string v5.1)
  simp only [List.set_cons_zero, List.set_cons_succ] at S5b
  have HS5b := Lib.hid S5b
  have k0 := S5b.qc.c 0 (by simp)
  simp only [List.getElem_cons_zero] at k0
  clear S5 S5b
  go_wp2_with (go_at_call 25; refine (num_calls (w.heap.size + 1) _ _ 5 _ 6 _ HS5b.out.rd (by omega) (by have := Z5.out; omega) (by omega)).mono ?_)
  rintro e w6 ⟨rfl, R6, O6⟩
  have S6 := HS5b.out.call R6 O6
  rw [H6.out] at S6 ⊢
  clear R6 O6
  have q6 := S6.qc.c 5 (by simp)
  have g6 := S6.qc.f 5
  simp only [List.getElem_cons_zero, List.getElem_cons_succ] at q6
  have S6b := S6.store 5 (by simp) (.int .i64 v6.1)
  simp only [List.set_cons_zero, List.set_cons_succ] at S6b
  have HS6b := Lib.hid S6b
  clear S6 S6b
  go_wp2_with (go_at_call 26; refine (text_calls (w.heap.size + 1) _ _ 6 _ 32 _ HS6b.out.rd (by omega) (by have := Z6.out; omega) (by omega)).mono ?_)
  rintro e w7 ⟨rfl, R7, O7⟩
  have S7 := HS6b.out.call R7 O7
  rw [H7.out] at S7 ⊢
  clear R7 O7
  have q7 := S7.qc.c 6 (by simp)
  have g7 := S7.qc.f 6
  simp only [List.getElem_cons_zero, List.getElem_cons_succ] at q7
  have S7b := S7.store 6 (by simp) (.string v7.1)
  simp only [List.set_cons_zero, List.set_cons_succ] at S7b
  have HS7b := Lib.hid S7b
  clear S7 S7b
  go_wp2_with (go_at_call 26; refine (text_calls (w.heap.size + 1) _ _ 7 _ 64 _ HS7b.out.rd (by omega) (by have := Z7.out; omega) (by omega)).mono ?_)
  rintro e w8 ⟨rfl, R8, O8⟩
  have S8 := HS7b.out.call R8 O8
  rw [H8.out] at S8 ⊢
  clear R8 O8
  have q8 := S8.qc.c 7 (by simp)
  have g8 := S8.qc.f 7
  simp only [List.getElem_cons_zero, List.getElem_cons_succ] at q8
  have S8b := S8.store 7 (by simp) (.string v8.1)
  simp only [List.set_cons_zero, List.set_cons_succ] at S8b
  have HS8b := Lib.hid S8b
  clear S8 S8b
  go_wp2_with (go_at_call 26; refine (text_calls (w.heap.size + 1) _ _ 8 _ 32 _ HS8b.out.rd (by omega) (by have := Z8.out; omega) (by omega)).mono ?_)
  rintro e w9 ⟨rfl, R9, O9⟩
  have S9 := HS8b.out.call R9 O9
  rw [H9.out] at S9 ⊢
  clear R9 O9
  have q9 := S9.qc.c 8 (by simp)
  have g9 := S9.qc.f 8
  simp only [List.getElem_cons_zero, List.getElem_cons_succ] at q9
  have S9b := S9.store 8 (by simp) (.string v9.1)
  simp only [List.set_cons_zero, List.set_cons_succ] at S9b
  have HS9b := Lib.hid S9b
  clear S9 S9b
  go_wp2_with (go_at_call 26; refine (text_calls (w.heap.size + 1) _ _ 9 _ 32 _ HS9b.out.rd (by omega) (by have := Z9.out; omega) (by omega)).mono ?_)
  rintro e w10 ⟨rfl, R10, O10⟩
  have S10 := HS9b.out.call R10 O10
  rw [H10.out] at S10 ⊢
  clear R10 O10
  have q10 := S10.qc.c 9 (by simp)
  have g10 := S10.qc.f 9
  simp only [List.getElem_cons_zero, List.getElem_cons_succ] at q10
  have S10b := S10.store 9 (by simp) (.string v10.1)
  simp only [List.set_cons_zero, List.set_cons_succ] at S10b
  have HS10b := Lib.hid S10b
  clear S10 S10b
  go_wp2_with (go_at_call 25; refine (num_calls (w.heap.size + 1) _ _ 10 _ 1073741824 _ HS10b.out.rd (by omega) (by have := Z10.out; omega) (by omega)).mono ?_)
  rintro e w11 ⟨rfl, R11, O11⟩
  have S11 := HS10b.out.call R11 O11
  rw [H11.out] at S11 ⊢
  clear R11 O11
  have q11 := S11.qc.c 10 (by simp)
  have g11 := S11.qc.f 10
  simp only [List.getElem_cons_zero, List.getElem_cons_succ] at q11
  have S11b := S11.store 10 (by simp) (.int .i64 v11.1)
  simp only [List.set_cons_zero, List.set_cons_succ] at S11b
  have HS11b := Lib.hid S11b
  clear S11 S11b
  have e0 := Lib.hid (end_calls (w.heap.size + 1) _ _ 11 _ _ HS11b.out.hg (by omega) HS11b.out.rd (by omega))
  rw [if_pos HBB.out] at e0
  go_wp2_with (go_at_call 27; refine e0.out.mono ?_)
  rintro e w90 ⟨rfl, O90⟩
  have B90 := Lib.hid (HS11b.out.bel.trans (O90.below HS11b.out.r0 HS11b.out.bel.size))
  have K90 := (HS11b.out.kc (w.heap.size, zeroReq.toList) (by simp)).1.only (by simp [zeroReq]) O90 (HS11b.out.kc (w.heap.size, zeroReq.toList) (by simp)).2.2.1
  have y0 : w90.cell? ⟨w.heap.size, 0, none⟩ = some (.int .i64 0) := K90.c 0 (by simp [zeroReq])
  have y1 : w90.cell? ⟨w.heap.size, 1, none⟩ = some (.int .i64 0) := K90.c 1 (by simp [zeroReq])
  have y2 : w90.cell? ⟨w.heap.size, 2, none⟩ = some (.int .i64 0) := K90.c 2 (by simp [zeroReq])
  have y3 : w90.cell? ⟨w.heap.size, 3, none⟩ = some (.int .i64 0) := K90.c 3 (by simp [zeroReq])
  have y4 : w90.cell? ⟨w.heap.size, 4, none⟩ = some (.string ⟨#[]⟩) := K90.c 4 (by simp [zeroReq])
  have y5 : w90.cell? ⟨w.heap.size, 5, none⟩ = some (.int .i64 0) := K90.c 5 (by simp [zeroReq])
  have y6 : w90.cell? ⟨w.heap.size, 6, none⟩ = some (.string ⟨#[]⟩) := K90.c 6 (by simp [zeroReq])
  have y7 : w90.cell? ⟨w.heap.size, 7, none⟩ = some (.string ⟨#[]⟩) := K90.c 7 (by simp [zeroReq])
  have y8 : w90.cell? ⟨w.heap.size, 8, none⟩ = some (.string ⟨#[]⟩) := K90.c 8 (by simp [zeroReq])
  have y9 : w90.cell? ⟨w.heap.size, 9, none⟩ = some (.string ⟨#[]⟩) := K90.c 9 (by simp [zeroReq])
  have y10 : w90.cell? ⟨w.heap.size, 10, none⟩ = some (.int .i64 0) := K90.c 10 (by simp [zeroReq])
  have f0 := K90.f 0
  have f1 := K90.f 1
  have f2 := K90.f 2
  have f3 := K90.f 3
  have f4 := K90.f 4
  have f5 := K90.f 5
  have f6 := K90.f 6
  have f7 := K90.f 7
  have f8 := K90.f 8
  have f9 := K90.f 9
  have f10 := K90.f 10
  have HK90 := Lib.hid K90
  clear K90 O90
  go_wp2
  have KF := (((((((((((HK90.out).set 0 (by simp [zeroReq]) (.int .i64 0)).set 1 (by simp [zeroReq]) (.int .i64 0)).set 2 (by simp [zeroReq]) (.int .i64 0)).set 3 (by simp [zeroReq]) (.int .i64 0)).set 4 (by simp [zeroReq]) (.string ⟨#[]⟩)).set 5 (by simp [zeroReq]) (.int .i64 0)).set 6 (by simp [zeroReq]) (.string ⟨#[]⟩)).set 7 (by simp [zeroReq]) (.string ⟨#[]⟩)).set 8 (by simp [zeroReq]) (.string ⟨#[]⟩)).set 9 (by simp [zeroReq]) (.string ⟨#[]⟩)).set 10 (by simp [zeroReq]) (.int .i64 0)
  try simp only [Exit.inBlock, Exit.then]
  have HL := load_req _ _ _ KF (.int .i64 0) (.int .i64 0) (.int .i64 0) (.int .i64 0) (.string ⟨#[]⟩) (.int .i64 0) (.string ⟨#[]⟩) (.string ⟨#[]⟩) (.string ⟨#[]⟩) (.string ⟨#[]⟩) (.int .i64 0) rfl
  refine bodyPost_ret (results_cell_tmp Tryd.results11 _ _ _ ⟨w.heap.size, 0, none⟩ _ rfl HL) rfl ?_
  refine ⟨rfl, ?_⟩
  exact (((((((((((B90.out).setCell (p := ⟨w.heap.size, _, none⟩) (Nat.le_refl _) _).setCell (p := ⟨w.heap.size, _, none⟩) (Nat.le_refl _) _).setCell (p := ⟨w.heap.size, _, none⟩) (Nat.le_refl _) _).setCell (p := ⟨w.heap.size, _, none⟩) (Nat.le_refl _) _).setCell (p := ⟨w.heap.size, _, none⟩) (Nat.le_refl _) _).setCell (p := ⟨w.heap.size, _, none⟩) (Nat.le_refl _) _).setCell (p := ⟨w.heap.size, _, none⟩) (Nat.le_refl _) _).setCell (p := ⟨w.heap.size, _, none⟩) (Nat.le_refl _) _).setCell (p := ⟨w.heap.size, _, none⟩) (Nat.le_refl _) _).setCell (p := ⟨w.heap.size, _, none⟩) (Nat.le_refl _) _).setCell (p := ⟨w.heap.size, _, none⟩) (Nat.le_refl _) _
set_option maxHeartbeats 2000000 in
set_option maxRecDepth 10000 in
theorem take5_good (s : ByteArray) (w : World) (hg : Handle w) (hs : s.size ≤ 2048) (v1 : Int × ByteArray × Bool) (v2 : Int × ByteArray × Bool) (v3 : Int × ByteArray × Bool) (v4 : Int × ByteArray × Bool) (v5 : ByteArray × ByteArray × Bool) (v6 : Int × ByteArray × Bool) (v7 : ByteArray × ByteArray × Bool) (v8 : ByteArray × ByteArray × Bool) (v9 : ByteArray × ByteArray × Bool) (v10 : ByteArray × ByteArray × Bool) (v11 : Int × ByteArray × Bool) (h1 : numR s false 6 = v1) (h2 : numR v1.2.1 v1.2.2 1073741824 = v2) (h3 : numR v2.2.1 v2.2.2 1073741824 = v3) (h4 : numR v3.2.1 v3.2.2 1073741824 = v4) (h5 : textR v4.2.1 v4.2.2 16 = v5) (h6 : numR v5.2.1 v5.2.2 6 = v6) (h7 : textR v6.2.1 v6.2.2 32 = v7) (h8 : textR v7.2.1 v7.2.2 64 = v8) (h9 : textR v8.2.1 v8.2.2 32 = v9) (h10 : textR v9.2.1 v9.2.2 32 = v10) (h11 : numR v10.2.1 v10.2.2 1073741824 = v11) (hk : v1.1 = 5) (hb : ¬ (v11.2.2 = true ∨ ¬ v11.2.1.size = 0)) (mb : Bool) (hmb : QWi.wire_MayReq.f 1 v1.1 v2.1 v3.1 v4.1 v5.1 v6.1 v7.1 v8.1 v9.1 v10.1 v11.1 = some mb) :
    Calls Tryd.prog 11 #[.string s] w fun e w' => e = .returned (.tuple (if mb = true then #[.agg #[.int .i64 v1.1, .int .i64 v2.1, .int .i64 v3.1, .int .i64 v4.1, .string v5.1, .int .i64 v6.1, .string v7.1, .string v8.1, .string v9.1, .string v10.1, .int .i64 v11.1], .int .i64 0] else #[.agg zeroReq, .int .i64 3])) ∧ Below w.heap.size w w' := by
  have c1 : decide (2048 < (s.size : Int)) = false := decide_eq_false (by omega)
  have z1 : v1.2.1.size ≤ 2048 := by have h := numR_size s false 6; rw [h1] at h; omega
  have z2 : v2.2.1.size ≤ 2048 := by have h := numR_size v1.2.1 v1.2.2 1073741824; rw [h2] at h; omega
  have z3 : v3.2.1.size ≤ 2048 := by have h := numR_size v2.2.1 v2.2.2 1073741824; rw [h3] at h; omega
  have z4 : v4.2.1.size ≤ 2048 := by have h := numR_size v3.2.1 v3.2.2 1073741824; rw [h4] at h; omega
  have z5 : v5.2.1.size ≤ 2048 := by have h := textR_size v4.2.1 v4.2.2 16; rw [h5] at h; omega
  have z6 : v6.2.1.size ≤ 2048 := by have h := numR_size v5.2.1 v5.2.2 6; rw [h6] at h; omega
  have z7 : v7.2.1.size ≤ 2048 := by have h := textR_size v6.2.1 v6.2.2 32; rw [h7] at h; omega
  have z8 : v8.2.1.size ≤ 2048 := by have h := textR_size v7.2.1 v7.2.2 64; rw [h8] at h; omega
  have z9 : v9.2.1.size ≤ 2048 := by have h := textR_size v8.2.1 v8.2.2 32; rw [h9] at h; omega
  have z10 : v10.2.1.size ≤ 2048 := by have h := textR_size v9.2.1 v9.2.2 32; rw [h10] at h; omega
  have z11 : v11.2.1.size ≤ 2048 := by have h := numR_size v10.2.1 v10.2.2 1073741824; rw [h11] at h; omega
  have h00 : 0 < w.heap.size := Nat.lt_of_le_of_lt (Nat.zero_le _) (cell_lt hg)
  have S0 : St w (w.heap.size + 1) w.heap.size [] ((w.alloc (.cells zeroReq 25)).alloc (.cells #[.string s, .int .i64 0, .nilIface] 60)) s 0 false zeroReq.toList := start_st w s zeroReq 25 (by decide) hg
  have Z1 := Lib.hid z1
  have H1 := Lib.hid h1
  have Z2 := Lib.hid z2
  have H2 := Lib.hid h2
  have Z3 := Lib.hid z3
  have H3 := Lib.hid h3
  have Z4 := Lib.hid z4
  have H4 := Lib.hid h4
  have Z5 := Lib.hid z5
  have H5 := Lib.hid h5
  have Z6 := Lib.hid z6
  have H6 := Lib.hid h6
  have Z7 := Lib.hid z7
  have H7 := Lib.hid h7
  have Z8 := Lib.hid z8
  have H8 := Lib.hid h8
  have Z9 := Lib.hid z9
  have H9 := Lib.hid h9
  have Z10 := Lib.hid z10
  have H10 := Lib.hid h10
  have Z11 := Lib.hid z11
  have H11 := Lib.hid h11
  have HS0 := Lib.hid S0
  have HSS := Lib.hid hs
  have HK := Lib.hid hk
  have HBB := Lib.hid hb
  have HMB := Lib.hid hmb
  clear S0 hg h00 hs hk hb z1 h1 z2 h2 z3 h3 z4 h4 z5 h5 z6 h6 z7 h7 z8 h8 z9 h9 z10 h10 z11 h11 hmb
  have ck : (v1.1 == 5) = true := beq_iff_eq.mpr HK.out
  go_enter Tryd.func11, Tryd.ntmps11
  go_wp2_with (go_at_call 25; refine (num_calls (w.heap.size + 1) _ _ 0 _ 6 _ HS0.out.rd (by omega) (by have := HSS.out; omega) (by omega)).mono ?_)
  rintro e w1 ⟨rfl, R1, O1⟩
  have S1 := HS0.out.call R1 O1
  rw [H1.out] at S1 ⊢
  clear R1 O1
  have hQ : w.heap.size ≤ w1.heap.size := S1.bel.size
  have S1q := (S1.push #[.int .i64 v1.1, .int .i64 0, .int .i64 0, .int .i64 0, .string ⟨#[]⟩, .int .i64 0, .string ⟨#[]⟩, .string ⟨#[]⟩, .string ⟨#[]⟩, .string ⟨#[]⟩, .int .i64 0] 25 (by simp)).swap hQ
  have S1p := S1q.push #[.pointer (some ⟨w1.heap.size, 1, none⟩), .pointer (some ⟨w1.heap.size, 2, none⟩), .pointer (some ⟨w1.heap.size, 3, none⟩)] 63 (by simp)
  have hP : (w1.alloc (.cells #[.int .i64 v1.1, .int .i64 0, .int .i64 0, .int .i64 0, .string ⟨#[]⟩, .int .i64 0, .string ⟨#[]⟩, .string ⟨#[]⟩, .string ⟨#[]⟩, .string ⟨#[]⟩, .int .i64 0] 25)).heap.size = w1.heap.size + 1 := by simp
  rw [hP] at S1p
  have HS1b := Lib.hid S1p
  clear hQ S1 S1q S1p hP
  go_wp2
  refine wp_loop_rounds 4 ?_
  rw [rounds_succ]
  go_wp2_with (go_at_call 25; refine (num_calls (w.heap.size + 1) _ _ 1 _ 1073741824 _ HS1b.out.rd (by omega) (by have := Z1.out; omega) (by omega)).mono ?_)
  rintro e w2 ⟨rfl, R2, O2⟩
  have S2 := HS1b.out.call R2 O2
  rw [H2.out] at S2 ⊢
  clear R2 O2
  have q2 := S2.qc.c 1 (by simp)
  have g2 := S2.qc.f 1
  simp only [List.getElem_cons_zero, List.getElem_cons_succ] at q2
  have S2b := S2.store 1 (by simp) (.int .i64 v2.1)
  simp only [List.set_cons_zero, List.set_cons_succ] at S2b
  have HS2b := Lib.hid S2b
  have p2 := (S2b.kc _ (List.mem_cons_self ..)).1.c 1 (by simp)
  simp only [List.getElem_cons_zero, List.getElem_cons_succ] at p2
  clear S2 S2b
  go_wp2
  rw [rounds_succ]
  go_wp2_with (go_at_call 25; refine (num_calls (w.heap.size + 1) _ _ 2 _ 1073741824 _ HS2b.out.rd (by omega) (by have := Z2.out; omega) (by omega)).mono ?_)
  rintro e w3 ⟨rfl, R3, O3⟩
  have S3 := HS2b.out.call R3 O3
  rw [H3.out] at S3 ⊢
  clear R3 O3
  have q3 := S3.qc.c 2 (by simp)
  have g3 := S3.qc.f 2
  simp only [List.getElem_cons_zero, List.getElem_cons_succ] at q3
  have S3b := S3.store 2 (by simp) (.int .i64 v3.1)
  simp only [List.set_cons_zero, List.set_cons_succ] at S3b
  have HS3b := Lib.hid S3b
  have p3 := (S3b.kc _ (List.mem_cons_self ..)).1.c 2 (by simp)
  simp only [List.getElem_cons_zero, List.getElem_cons_succ] at p3
  clear S3 S3b
  go_wp2
  rw [rounds_succ]
  go_wp2_with (go_at_call 25; refine (num_calls (w.heap.size + 1) _ _ 3 _ 1073741824 _ HS3b.out.rd (by omega) (by have := Z3.out; omega) (by omega)).mono ?_)
  rintro e w4 ⟨rfl, R4, O4⟩
  have S4 := HS3b.out.call R4 O4
  rw [H4.out] at S4 ⊢
  clear R4 O4
  have q4 := S4.qc.c 3 (by simp)
  have g4 := S4.qc.f 3
  simp only [List.getElem_cons_zero, List.getElem_cons_succ] at q4
  have S4b := S4.store 3 (by simp) (.int .i64 v4.1)
  simp only [List.set_cons_zero, List.set_cons_succ] at S4b
  have HS4b := Lib.hid S4b
  clear S4 S4b
  go_wp2
  rw [rounds_succ]
  go_wp2_with (go_at_call 26; refine (text_calls (w.heap.size + 1) _ _ 4 _ 16 _ HS4b.out.rd (by omega) (by have := Z4.out; omega) (by omega)).mono ?_)
  rintro e w5 ⟨rfl, R5, O5⟩
  have S5 := HS4b.out.call R5 O5
  rw [H5.out] at S5 ⊢
  clear R5 O5
  have q5 := S5.qc.c 4 (by simp)
  have g5 := S5.qc.f 4
  simp only [List.getElem_cons_zero, List.getElem_cons_succ] at q5
  have S5b := S5.store 4 (by simp) (.string v5.1)
  simp only [List.set_cons_zero, List.set_cons_succ] at S5b
  have HS5b := Lib.hid S5b
  have k0 := S5b.qc.c 0 (by simp)
  simp only [List.getElem_cons_zero] at k0
  clear S5 S5b
  go_wp2_with (go_at_call 25; refine (num_calls (w.heap.size + 1) _ _ 5 _ 6 _ HS5b.out.rd (by omega) (by have := Z5.out; omega) (by omega)).mono ?_)
  rintro e w6 ⟨rfl, R6, O6⟩
  have S6 := HS5b.out.call R6 O6
  rw [H6.out] at S6 ⊢
  clear R6 O6
  have q6 := S6.qc.c 5 (by simp)
  have g6 := S6.qc.f 5
  simp only [List.getElem_cons_zero, List.getElem_cons_succ] at q6
  have S6b := S6.store 5 (by simp) (.int .i64 v6.1)
  simp only [List.set_cons_zero, List.set_cons_succ] at S6b
  have HS6b := Lib.hid S6b
  clear S6 S6b
  go_wp2_with (go_at_call 26; refine (text_calls (w.heap.size + 1) _ _ 6 _ 32 _ HS6b.out.rd (by omega) (by have := Z6.out; omega) (by omega)).mono ?_)
  rintro e w7 ⟨rfl, R7, O7⟩
  have S7 := HS6b.out.call R7 O7
  rw [H7.out] at S7 ⊢
  clear R7 O7
  have q7 := S7.qc.c 6 (by simp)
  have g7 := S7.qc.f 6
  simp only [List.getElem_cons_zero, List.getElem_cons_succ] at q7
  have S7b := S7.store 6 (by simp) (.string v7.1)
  simp only [List.set_cons_zero, List.set_cons_succ] at S7b
  have HS7b := Lib.hid S7b
  clear S7 S7b
  go_wp2_with (go_at_call 26; refine (text_calls (w.heap.size + 1) _ _ 7 _ 64 _ HS7b.out.rd (by omega) (by have := Z7.out; omega) (by omega)).mono ?_)
  rintro e w8 ⟨rfl, R8, O8⟩
  have S8 := HS7b.out.call R8 O8
  rw [H8.out] at S8 ⊢
  clear R8 O8
  have q8 := S8.qc.c 7 (by simp)
  have g8 := S8.qc.f 7
  simp only [List.getElem_cons_zero, List.getElem_cons_succ] at q8
  have S8b := S8.store 7 (by simp) (.string v8.1)
  simp only [List.set_cons_zero, List.set_cons_succ] at S8b
  have HS8b := Lib.hid S8b
  clear S8 S8b
  go_wp2_with (go_at_call 26; refine (text_calls (w.heap.size + 1) _ _ 8 _ 32 _ HS8b.out.rd (by omega) (by have := Z8.out; omega) (by omega)).mono ?_)
  rintro e w9 ⟨rfl, R9, O9⟩
  have S9 := HS8b.out.call R9 O9
  rw [H9.out] at S9 ⊢
  clear R9 O9
  have q9 := S9.qc.c 8 (by simp)
  have g9 := S9.qc.f 8
  simp only [List.getElem_cons_zero, List.getElem_cons_succ] at q9
  have S9b := S9.store 8 (by simp) (.string v9.1)
  simp only [List.set_cons_zero, List.set_cons_succ] at S9b
  have HS9b := Lib.hid S9b
  clear S9 S9b
  go_wp2_with (go_at_call 26; refine (text_calls (w.heap.size + 1) _ _ 9 _ 32 _ HS9b.out.rd (by omega) (by have := Z9.out; omega) (by omega)).mono ?_)
  rintro e w10 ⟨rfl, R10, O10⟩
  have S10 := HS9b.out.call R10 O10
  rw [H10.out] at S10 ⊢
  clear R10 O10
  have q10 := S10.qc.c 9 (by simp)
  have g10 := S10.qc.f 9
  simp only [List.getElem_cons_zero, List.getElem_cons_succ] at q10
  have S10b := S10.store 9 (by simp) (.string v10.1)
  simp only [List.set_cons_zero, List.set_cons_succ] at S10b
  have HS10b := Lib.hid S10b
  clear S10 S10b
  go_wp2_with (go_at_call 25; refine (num_calls (w.heap.size + 1) _ _ 10 _ 1073741824 _ HS10b.out.rd (by omega) (by have := Z10.out; omega) (by omega)).mono ?_)
  rintro e w11 ⟨rfl, R11, O11⟩
  have S11 := HS10b.out.call R11 O11
  rw [H11.out] at S11 ⊢
  clear R11 O11
  have q11 := S11.qc.c 10 (by simp)
  have g11 := S11.qc.f 10
  simp only [List.getElem_cons_zero, List.getElem_cons_succ] at q11
  have S11b := S11.store 10 (by simp) (.int .i64 v11.1)
  simp only [List.set_cons_zero, List.set_cons_succ] at S11b
  have HS11b := Lib.hid S11b
  clear S11 S11b
  have e0 := Lib.hid (end_calls (w.heap.size + 1) _ _ 11 _ _ HS11b.out.hg (by omega) HS11b.out.rd (by omega))
  rw [if_neg HBB.out] at e0
  go_wp2_with (go_at_call 27; refine e0.out.mono ?_)
  rintro e w90 ⟨rfl, O90⟩
  have B90 := Lib.hid (HS11b.out.bel.trans (O90.below HS11b.out.r0 HS11b.out.bel.size))
  have K90 := (HS11b.out.kc (w.heap.size, zeroReq.toList) (by simp)).1.only (by simp [zeroReq]) O90 (HS11b.out.kc (w.heap.size, zeroReq.toList) (by simp)).2.2.1
  have Q90 := HS11b.out.qc.only HS11b.out.hq O90 HS11b.out.qr
  have x0 := Q90.c 0 (by simp)
  have x1 := Q90.c 1 (by simp)
  have x2 := Q90.c 2 (by simp)
  have x3 := Q90.c 3 (by simp)
  have x4 := Q90.c 4 (by simp)
  have x5 := Q90.c 5 (by simp)
  have x6 := Q90.c 6 (by simp)
  have x7 := Q90.c 7 (by simp)
  have x8 := Q90.c 8 (by simp)
  have x9 := Q90.c 9 (by simp)
  have x10 := Q90.c 10 (by simp)
  simp only [List.getElem_cons_zero, List.getElem_cons_succ] at x0 x1 x2 x3 x4 x5 x6 x7 x8 x9 x10
  have HQ90 := Lib.hid Q90
  clear Q90 O90
  have HK90 := Lib.hid K90
  clear K90
  go_wp2_with (go_at_call 13; refine (QWi.wire_MayReq.calls 1 v1.1 v2.1 v3.1 v4.1 v5.1 v6.1 v7.1 v8.1 v9.1 v10.1 v11.1 mb _ HMB.out).mono ?_)
  rintro e w91 ⟨rfl, b91⟩
  have B91 := Lib.hid (B90.out.trans (b91.mono B90.out.size))
  have K91 := HK90.out.below (by simp [zeroReq]) b91
  have y0 : w91.cell? ⟨w.heap.size, 0, none⟩ = some (.int .i64 0) := K91.c 0 (by simp [zeroReq])
  have y1 : w91.cell? ⟨w.heap.size, 1, none⟩ = some (.int .i64 0) := K91.c 1 (by simp [zeroReq])
  have y2 : w91.cell? ⟨w.heap.size, 2, none⟩ = some (.int .i64 0) := K91.c 2 (by simp [zeroReq])
  have y3 : w91.cell? ⟨w.heap.size, 3, none⟩ = some (.int .i64 0) := K91.c 3 (by simp [zeroReq])
  have y4 : w91.cell? ⟨w.heap.size, 4, none⟩ = some (.string ⟨#[]⟩) := K91.c 4 (by simp [zeroReq])
  have y5 : w91.cell? ⟨w.heap.size, 5, none⟩ = some (.int .i64 0) := K91.c 5 (by simp [zeroReq])
  have y6 : w91.cell? ⟨w.heap.size, 6, none⟩ = some (.string ⟨#[]⟩) := K91.c 6 (by simp [zeroReq])
  have y7 : w91.cell? ⟨w.heap.size, 7, none⟩ = some (.string ⟨#[]⟩) := K91.c 7 (by simp [zeroReq])
  have y8 : w91.cell? ⟨w.heap.size, 8, none⟩ = some (.string ⟨#[]⟩) := K91.c 8 (by simp [zeroReq])
  have y9 : w91.cell? ⟨w.heap.size, 9, none⟩ = some (.string ⟨#[]⟩) := K91.c 9 (by simp [zeroReq])
  have y10 : w91.cell? ⟨w.heap.size, 10, none⟩ = some (.int .i64 0) := K91.c 10 (by simp [zeroReq])
  have f0 := K91.f 0
  have f1 := K91.f 1
  have f2 := K91.f 2
  have f3 := K91.f 3
  have f4 := K91.f 4
  have f5 := K91.f 5
  have f6 := K91.f 6
  have f7 := K91.f 7
  have f8 := K91.f 8
  have f9 := K91.f 9
  have f10 := K91.f 10
  have HK91 := Lib.hid K91
  have Q91 := HQ90.out.below (by simp) b91
  have u0 := Q91.c 0 (by simp)
  have u1 := Q91.c 1 (by simp)
  have u2 := Q91.c 2 (by simp)
  have u3 := Q91.c 3 (by simp)
  have u4 := Q91.c 4 (by simp)
  have u5 := Q91.c 5 (by simp)
  have u6 := Q91.c 6 (by simp)
  have u7 := Q91.c 7 (by simp)
  have u8 := Q91.c 8 (by simp)
  have u9 := Q91.c 9 (by simp)
  have u10 := Q91.c 10 (by simp)
  simp only [List.getElem_cons_zero, List.getElem_cons_succ] at u0 u1 u2 u3 u4 u5 u6 u7 u8 u9 u10
  clear b91 K91 Q91
  cases mb with
  | true =>
    go_wp2
    have KF := (((((((((((HK91.out).set 0 (by simp [zeroReq]) (.int .i64 v1.1)).set 1 (by simp [zeroReq]) (.int .i64 v2.1)).set 2 (by simp [zeroReq]) (.int .i64 v3.1)).set 3 (by simp [zeroReq]) (.int .i64 v4.1)).set 4 (by simp [zeroReq]) (.string v5.1)).set 5 (by simp [zeroReq]) (.int .i64 v6.1)).set 6 (by simp [zeroReq]) (.string v7.1)).set 7 (by simp [zeroReq]) (.string v8.1)).set 8 (by simp [zeroReq]) (.string v9.1)).set 9 (by simp [zeroReq]) (.string v10.1)).set 10 (by simp [zeroReq]) (.int .i64 v11.1)
    try simp only [Exit.inBlock, Exit.then]
    have HL := load_req _ _ _ KF (.int .i64 v1.1) (.int .i64 v2.1) (.int .i64 v3.1) (.int .i64 v4.1) (.string v5.1) (.int .i64 v6.1) (.string v7.1) (.string v8.1) (.string v9.1) (.string v10.1) (.int .i64 v11.1) rfl
    refine bodyPost_ret (results_cell_tmp Tryd.results11 _ _ _ ⟨w.heap.size, 0, none⟩ _ rfl HL) rfl ?_
    refine ⟨rfl, ?_⟩
    exact (((((((((((B91.out).setCell (p := ⟨w.heap.size, _, none⟩) (Nat.le_refl _) _).setCell (p := ⟨w.heap.size, _, none⟩) (Nat.le_refl _) _).setCell (p := ⟨w.heap.size, _, none⟩) (Nat.le_refl _) _).setCell (p := ⟨w.heap.size, _, none⟩) (Nat.le_refl _) _).setCell (p := ⟨w.heap.size, _, none⟩) (Nat.le_refl _) _).setCell (p := ⟨w.heap.size, _, none⟩) (Nat.le_refl _) _).setCell (p := ⟨w.heap.size, _, none⟩) (Nat.le_refl _) _).setCell (p := ⟨w.heap.size, _, none⟩) (Nat.le_refl _) _).setCell (p := ⟨w.heap.size, _, none⟩) (Nat.le_refl _) _).setCell (p := ⟨w.heap.size, _, none⟩) (Nat.le_refl _) _).setCell (p := ⟨w.heap.size, _, none⟩) (Nat.le_refl _) _
  | false =>
    go_wp2
    have KF := (((((((((((HK91.out).set 0 (by simp [zeroReq]) (.int .i64 0)).set 1 (by simp [zeroReq]) (.int .i64 0)).set 2 (by simp [zeroReq]) (.int .i64 0)).set 3 (by simp [zeroReq]) (.int .i64 0)).set 4 (by simp [zeroReq]) (.string ⟨#[]⟩)).set 5 (by simp [zeroReq]) (.int .i64 0)).set 6 (by simp [zeroReq]) (.string ⟨#[]⟩)).set 7 (by simp [zeroReq]) (.string ⟨#[]⟩)).set 8 (by simp [zeroReq]) (.string ⟨#[]⟩)).set 9 (by simp [zeroReq]) (.string ⟨#[]⟩)).set 10 (by simp [zeroReq]) (.int .i64 0)
    try simp only [Exit.inBlock, Exit.then]
    have HL := load_req _ _ _ KF (.int .i64 0) (.int .i64 0) (.int .i64 0) (.int .i64 0) (.string ⟨#[]⟩) (.int .i64 0) (.string ⟨#[]⟩) (.string ⟨#[]⟩) (.string ⟨#[]⟩) (.string ⟨#[]⟩) (.int .i64 0) rfl
    refine bodyPost_ret (results_cell_tmp Tryd.results11 _ _ _ ⟨w.heap.size, 0, none⟩ _ rfl HL) rfl ?_
    refine ⟨rfl, ?_⟩
    exact (((((((((((B91.out).setCell (p := ⟨w.heap.size, _, none⟩) (Nat.le_refl _) _).setCell (p := ⟨w.heap.size, _, none⟩) (Nat.le_refl _) _).setCell (p := ⟨w.heap.size, _, none⟩) (Nat.le_refl _) _).setCell (p := ⟨w.heap.size, _, none⟩) (Nat.le_refl _) _).setCell (p := ⟨w.heap.size, _, none⟩) (Nat.le_refl _) _).setCell (p := ⟨w.heap.size, _, none⟩) (Nat.le_refl _) _).setCell (p := ⟨w.heap.size, _, none⟩) (Nat.le_refl _) _).setCell (p := ⟨w.heap.size, _, none⟩) (Nat.le_refl _) _).setCell (p := ⟨w.heap.size, _, none⟩) (Nat.le_refl _) _).setCell (p := ⟨w.heap.size, _, none⟩) (Nat.le_refl _) _).setCell (p := ⟨w.heap.size, _, none⟩) (Nat.le_refl _) _
end Go.Proofs.YtlpcidjmaeicoaaDoor.Reader

/-! MayQ -/
/- Which requests may be: the closed form of wire.MayReq. -/
namespace Go.Proofs.YtlpcidjmaeicoaaDoor.QWi
open Go Go.RowKit Go.Proofs.YtlpcidjmaeicoaaDoorW.PrintWords Go.Proofs.YtlpcidjmaeicoaaDoorW.PrintLast Go.Proofs.YtlpcidjmaeicoaaDoorW.PrintMore

theorem bsm {α β : Type} (a : α) (f : α → Option β) : (some a).bind f = f a := Eq.trans (Option.bind_some a f) (Eq.refl _)
/-- May a request be? -/
def mayQ (a0 a1 a2 a3 : Int) (t : ByteArray) (o : Int) (y v l h : ByteArray) (m : Int) : Prop :=
  (1 ≤ a0 ∧ a0 ≤ 6) ∧ (0 ≤ a1 ∧ a1 ≤ 1073741824) ∧ (0 ≤ a2 ∧ a2 ≤ 1073741824) ∧ (0 ≤ a3 ∧ a3 ≤ 1073741824) ∧ t.size ≤ 16 ∧
  ((a0 = 5 ∧ t.size = 0 ∧ (1 ≤ o ∧ o ≤ 6) ∧ y.size ≤ 32 ∧ v.size ≤ 64 ∧ l.size ≤ 32 ∧ h.size ≤ 32 ∧ (0 ≤ m ∧ m ≤ 1073741824)) ∨
    (¬ a0 = 5 ∧ o = 0 ∧ y.size = 0 ∧ v.size = 0 ∧ l.size = 0 ∧ h.size = 0 ∧ m = 0 ∧ (t.size = 0 ∨ a0 = 4 ∨ a0 = 6)))
instance (a0 a1 a2 a3 : Int) (t : ByteArray) (o : Int) (y v l h : ByteArray) (m : Int) : Decidable (mayQ a0 a1 a2 a3 t o y v l h m) := by
  unfold mayQ
  infer_instance
theorem nil_iff (s : ByteArray) : s.toList = ([] : List UInt8) ↔ s.size = 0 := by
  have h := Go.Proofs.YtlpcidjmaeicoaaDoor.Reader.empty_iff s
  constructor
  · intro e
    rw [e] at h
    exact of_decide_eq_true h.symm
  · intro e
    rw [decide_eq_true e] at h
    exact List.isEmpty_iff.1 h
theorem small_f (x : Int) : wire_num.f x = some (decide (0 ≤ x ∧ x ≤ 1073741824)) := by
  unfold wire_num.f
  by_cases h : x ≥ 0
  · rw [if_pos h]
    congr 1
    exact decide_eq_decide.2 (by omega)
  · rw [if_neg h]
    congr 1
    exact (decide_eq_false (by omega)).symm
theorem bq (a b : Int) : (a == b) = decide (a = b) := rfl
theorem emp5 (o m : Int) (y v l h : ByteArray) : (o == 0 && (y.toList.isEmpty && (v.toList.isEmpty && (l.toList.isEmpty && (h.toList.isEmpty && (m == 0)))))) = decide (o = 0 ∧ y.size = 0 ∧ v.size = 0 ∧ l.size = 0 ∧ h.size = 0 ∧ m = 0) := by
  simp only [Go.Proofs.YtlpcidjmaeicoaaDoor.Reader.empty_iff, Bool.decide_and, bq]
theorem may_j0 (k : Nat) (x : Bool) (a0 a1 a2 a3 : Int) (t : ByteArray) (o : Int) (y v l h : ByteArray) (m : Int) :
    wire_MayReq.j0 (k + 1) x a0 a1 a2 a3 t o y v l h m = some (!x && decide ((a0 = 5 ∧ t.size = 0 ∧ (1 ≤ o ∧ o ≤ 6) ∧ y.size ≤ 32 ∧ v.size ≤ 64 ∧ l.size ≤ 32 ∧ h.size ≤ 32 ∧ (0 ≤ m ∧ m ≤ 1073741824)) ∨
    (¬ a0 = 5 ∧ o = 0 ∧ y.size = 0 ∧ v.size = 0 ∧ l.size = 0 ∧ h.size = 0 ∧ m = 0 ∧ (t.size = 0 ∨ a0 = 4 ∨ a0 = 6)))) := by
  rw [wire_MayReq.j0, small_f, bsm, emp5]
  cases x with
  | true => rfl
  | false =>
    simp only [nil_iff, Bool.false_eq_true, if_false, Bool.not_false, Bool.true_and, decide_eq_true_eq, bq]
    repeat' split
    all_goals
      congr 1
      first
        | exact (decide_eq_true (by omega)).symm
        | exact (decide_eq_false (by omega)).symm
        | exact decide_eq_decide.2 (by omega)
theorem wire_may (k : Nat) (a0 a1 a2 a3 : Int) (t : ByteArray) (o : Int) (y v l h : ByteArray) (m : Int) :
    wire_MayReq.f (k + 1) a0 a1 a2 a3 t o y v l h m = some (decide (mayQ a0 a1 a2 a3 t o y v l h m)) := by
  unfold wire_MayReq.f mayQ
  rw [small_f, small_f, small_f, bsm, bsm, bsm]
  simp only [may_j0, decide_eq_true_eq, Bool.not_true, Bool.false_and]
  repeat' split
  · exact congrArg some (decide_eq_false (by omega)).symm
  · exact congrArg some (decide_eq_false (by omega)).symm
  · rw [← decide_not, ← Bool.decide_and]
    exact congrArg some (decide_eq_decide.2 (by omega))
  · exact congrArg some (decide_eq_false (by omega)).symm
  · exact congrArg some (decide_eq_false (by omega)).symm
  · exact congrArg some (decide_eq_false (by omega)).symm
abbrev Q12 : Type := Int × Int × Int × Int × ByteArray × Int × ByteArray × ByteArray × ByteArray × ByteArray × Int × Int
def zq (e : Int) : Q12 := (0, 0, 0, 0, ⟨#[]⟩, 0, ⟨#[]⟩, ⟨#[]⟩, ⟨#[]⟩, ⟨#[]⟩, 0, e)
def outQ (q : Q12) : Value := .tuple #[.agg #[.int .i64 q.1, .int .i64 q.2.1, .int .i64 q.2.2.1, .int .i64 q.2.2.2.1, .string q.2.2.2.2.1, .int .i64 q.2.2.2.2.2.1, .string q.2.2.2.2.2.2.1, .string q.2.2.2.2.2.2.2.1, .string q.2.2.2.2.2.2.2.2.1, .string q.2.2.2.2.2.2.2.2.2.1, .int .i64 q.2.2.2.2.2.2.2.2.2.2.1], .int .i64 q.2.2.2.2.2.2.2.2.2.2.2]
end Go.Proofs.YtlpcidjmaeicoaaDoor.QWi

/-! Next -/
/- What a number and a text are, and what comes behind. -/
namespace Go.Proofs.YtlpcidjmaeicoaaDoor.Reader
open Go Go.RowKit

/-- A number, a text: what it is, and what comes behind. -/
def nx {α : Type} (x : ByteArray × Bool) (m : Int) (f : Int → ByteArray × Bool → α) : α := f (numR x.1 x.2 m).1 (numR x.1 x.2 m).2
def tx {α : Type} (x : ByteArray × Bool) (m : Int) (f : ByteArray → ByteArray × Bool → α) : α := f (textR x.1 x.2 m).1 (textR x.1 x.2 m).2
theorem nx_of {α : Type} {x : ByteArray × Bool} {m : Int} {v : Int × ByteArray × Bool} (f : Int → ByteArray × Bool → α) (h : numR x.1 x.2 m = v) : nx x m f = f v.1 v.2 := by
  subst h
  rfl
theorem tx_of {α : Type} {x : ByteArray × Bool} {m : Int} {v : ByteArray × ByteArray × Bool} (f : ByteArray → ByteArray × Bool → α) (h : textR x.1 x.2 m = v) : tx x m f = f v.1 v.2 := by
  subst h
  rfl
end Go.Proofs.YtlpcidjmaeicoaaDoor.Reader

/-! TakeReqC -/
/- The contract of wire.TakeReq, in a closed form, as the printed texts call it. -/
namespace Go.Proofs.YtlpcidjmaeicoaaDoor.Reader
open Go Go.RowKit Go.Proofs.YtlpcidjmaeicoaaDoor.DecM Go.Proofs.YtlpcidjmaeicoaaDoor.Giv Go.Proofs.YtlpcidjmaeicoaaDoor.Err Go.Proofs.YtlpcidjmaeicoaaDoorW.PrintWords Go.Proofs.YtlpcidjmaeicoaaDoorW.PrintLast

set_option maxHeartbeats 2000000 in
set_option maxRecDepth 10000 in
theorem take_big (s : ByteArray) (w : World) (hs : 2048 < s.size) :
    Calls Tryd.prog 11 #[.string s] w fun e w' => e = .returned (.tuple #[.agg zeroReq, .int .i64 4]) ∧ Below w.heap.size w w' := by
  have c1 : decide (2048 < (s.size : Int)) = true := decide_eq_true (by omega)
  have B : Below w.heap.size w (w.alloc (.cells #[.int .i64 0, .int .i64 0, .int .i64 0, .int .i64 0, .string ⟨#[]⟩, .int .i64 0, .string ⟨#[]⟩, .string ⟨#[]⟩, .string ⟨#[]⟩, .string ⟨#[]⟩, .int .i64 0] 25)) := (Below.refl w.heap.size w).alloc (Nat.le_refl _) _
  have K : CellsAt (w.alloc (.cells #[.int .i64 0, .int .i64 0, .int .i64 0, .int .i64 0, .string ⟨#[]⟩, .int .i64 0, .string ⟨#[]⟩, .string ⟨#[]⟩, .string ⟨#[]⟩, .string ⟨#[]⟩, .int .i64 0] 25)) w.heap.size [.int .i64 0, .int .i64 0, .int .i64 0, .int .i64 0, .string ⟨#[]⟩, .int .i64 0, .string ⟨#[]⟩, .string ⟨#[]⟩, .string ⟨#[]⟩, .string ⟨#[]⟩, .int .i64 0] := cells_new w #[.int .i64 0, .int .i64 0, .int .i64 0, .int .i64 0, .string ⟨#[]⟩, .int .i64 0, .string ⟨#[]⟩, .string ⟨#[]⟩, .string ⟨#[]⟩, .string ⟨#[]⟩, .int .i64 0] 25
  have HK := Lib.hid K
  have HB := Lib.hid B
  clear hs
  have y0 := K.c 0 (by simp)
  have y1 := K.c 1 (by simp)
  have y2 := K.c 2 (by simp)
  have y3 := K.c 3 (by simp)
  have y4 := K.c 4 (by simp)
  have y5 := K.c 5 (by simp)
  have y6 := K.c 6 (by simp)
  have y7 := K.c 7 (by simp)
  have y8 := K.c 8 (by simp)
  have y9 := K.c 9 (by simp)
  have y10 := K.c 10 (by simp)
  simp only [List.getElem_cons_zero, List.getElem_cons_succ] at y0 y1 y2 y3 y4 y5 y6 y7 y8 y9 y10
  have f0 := K.f 0
  have f1 := K.f 1
  have f2 := K.f 2
  have f3 := K.f 3
  have f4 := K.f 4
  have f5 := K.f 5
  have f6 := K.f 6
  have f7 := K.f 7
  have f8 := K.f 8
  have f9 := K.f 9
  have f10 := K.f 10
  clear K B
  go_enter Tryd.func11, Tryd.ntmps11
  go_wp2
  try simp only [Exit.inBlock, Exit.then]
  have HL := load_req _ _ _ HK.out (.int .i64 0) (.int .i64 0) (.int .i64 0) (.int .i64 0) (.string ⟨#[]⟩) (.int .i64 0) (.string ⟨#[]⟩) (.string ⟨#[]⟩) (.string ⟨#[]⟩) (.string ⟨#[]⟩) (.int .i64 0) rfl
  refine bodyPost_ret (results_cell_tmp Tryd.results11 _ _ _ ⟨w.heap.size, 0, none⟩ _ rfl HL) rfl ?_
  refine ⟨rfl, ?_⟩
  exact HB.out
end Go.Proofs.YtlpcidjmaeicoaaDoor.Reader
namespace Go.Proofs.YtlpcidjmaeicoaaDoor.QWi
open Go Go.RowKit Go.Proofs.YtlpcidjmaeicoaaDoor.Reader

def goodQ (a0 a1 a2 a3 : Int) (t : ByteArray) (o : Int) (y v l h : ByteArray) (m : Int) : Q12 := if mayQ a0 a1 a2 a3 t o y v l h m then (a0, a1, a2, a3, t, o, y, v, l, h, m, 0) else zq 3
def lastQ (x : ByteArray × Bool) (q : Q12) : Q12 := if x.2 = true ∨ ¬ x.1.size = 0 then zq 3 else q
/-- What wire.TakeReq gives. -/
def takeReqF (s : ByteArray) : Q12 :=
  if 2048 < s.size then zq 4 else
  nx (s, false) 6 fun a1 x1 => nx x1 1073741824 fun a2 x2 => nx x2 1073741824 fun a3 x3 => nx x3 1073741824 fun a4 x4 => tx x4 16 fun a5 x5 =>
  if a1 = 5 then nx x5 6 fun a6 x6 => tx x6 32 fun a7 x7 => tx x7 64 fun a8 x8 => tx x8 32 fun a9 x9 => tx x9 32 fun a10 x10 => nx x10 1073741824 fun a11 x11 =>
    lastQ x11 (goodQ a1 a2 a3 a4 a5 a6 a7 a8 a9 a10 a11)
  else lastQ x5 (goodQ a1 a2 a3 a4 a5 0 ⟨#[]⟩ ⟨#[]⟩ ⟨#[]⟩ ⟨#[]⟩ 0)
theorem take_all (s : ByteArray) (w : World) (hg : Handle w) : Calls Tryd.prog 11 #[.string s] w fun e w' => e = .returned (outQ (takeReqF s)) ∧ Below w.heap.size w w' := by
  unfold takeReqF
  by_cases hs : 2048 < s.size
  · rw [if_pos hs]
    exact take_big s w hs
  obtain ⟨v1, h1⟩ : ∃ v, numR s false 6 = v := ⟨_, rfl⟩
  obtain ⟨v2, h2⟩ : ∃ v, numR v1.2.1 v1.2.2 1073741824 = v := ⟨_, rfl⟩
  obtain ⟨v3, h3⟩ : ∃ v, numR v2.2.1 v2.2.2 1073741824 = v := ⟨_, rfl⟩
  obtain ⟨v4, h4⟩ : ∃ v, numR v3.2.1 v3.2.2 1073741824 = v := ⟨_, rfl⟩
  obtain ⟨v5, h5⟩ : ∃ v, textR v4.2.1 v4.2.2 16 = v := ⟨_, rfl⟩
  rw [if_neg hs, nx_of _ h1, nx_of _ h2, nx_of _ h3, nx_of _ h4, tx_of _ h5]
  by_cases hk : v1.1 = 5
  · rw [if_pos hk]
    obtain ⟨v6, h6⟩ : ∃ v, numR v5.2.1 v5.2.2 6 = v := ⟨_, rfl⟩
    obtain ⟨v7, h7⟩ : ∃ v, textR v6.2.1 v6.2.2 32 = v := ⟨_, rfl⟩
    obtain ⟨v8, h8⟩ : ∃ v, textR v7.2.1 v7.2.2 64 = v := ⟨_, rfl⟩
    obtain ⟨v9, h9⟩ : ∃ v, textR v8.2.1 v8.2.2 32 = v := ⟨_, rfl⟩
    obtain ⟨v10, h10⟩ : ∃ v, textR v9.2.1 v9.2.2 32 = v := ⟨_, rfl⟩
    obtain ⟨v11, h11⟩ : ∃ v, numR v10.2.1 v10.2.2 1073741824 = v := ⟨_, rfl⟩
    rw [nx_of _ h6, tx_of _ h7, tx_of _ h8, tx_of _ h9, tx_of _ h10, nx_of _ h11]
    unfold lastQ goodQ
    by_cases hb : v11.2.2 = true ∨ ¬ v11.2.1.size = 0
    · rw [if_pos hb]
      exact take5_bad s w hg (by omega) v1 v2 v3 v4 v5 v6 v7 v8 v9 v10 v11 h1 h2 h3 h4 h5 h6 h7 h8 h9 h10 h11 hk hb
    · rw [if_neg hb]
      refine (take5_good s w hg (by omega) v1 v2 v3 v4 v5 v6 v7 v8 v9 v10 v11 h1 h2 h3 h4 h5 h6 h7 h8 h9 h10 h11 hk hb _ (wire_may 0 ..)).mono ?_
      rintro e w' ⟨rfl, hw⟩
      refine ⟨?_, hw⟩
      by_cases hm : mayQ v1.1 v2.1 v3.1 v4.1 v5.1 v6.1 v7.1 v8.1 v9.1 v10.1 v11.1
      · rw [if_pos hm, if_pos (decide_eq_true hm)]
        rfl
      · rw [if_neg hm, if_neg (fun h => hm (of_decide_eq_true h))]
        rfl
  · rw [if_neg hk]
    unfold lastQ goodQ
    by_cases hb : v5.2.2 = true ∨ ¬ v5.2.1.size = 0
    · rw [if_pos hb]
      exact take_bad s w hg (by omega) v1 v2 v3 v4 v5 h1 h2 h3 h4 h5 hk hb
    · rw [if_neg hb]
      refine (take_good s w hg (by omega) v1 v2 v3 v4 v5 h1 h2 h3 h4 h5 hk hb _ (wire_may 0 ..)).mono ?_
      rintro e w' ⟨rfl, hw⟩
      refine ⟨?_, hw⟩
      by_cases hm : mayQ v1.1 v2.1 v3.1 v4.1 v5.1 0 ⟨#[]⟩ ⟨#[]⟩ ⟨#[]⟩ ⟨#[]⟩ 0
      · rw [if_pos hm, if_pos (decide_eq_true hm)]
        rfl
      · rw [if_neg hm, if_neg (fun h => hm (of_decide_eq_true h))]
        rfl
def wire_TakeReq.f (s : ByteArray) : Option Q12 := some (takeReqF s)
theorem wire_TakeReq.calls (a0 : ByteArray) (r1 r2 r3 r4 : Int) (r5 : ByteArray) (r6 : Int) (r7 r8 r9 r10 : ByteArray) (r11 r12 : Int) (w : World) (h : wire_TakeReq.f a0 = some (r1, r2, r3, r4, r5, r6, r7, r8, r9, r10, r11, r12)) (hg : Handle w) :
    Calls Tryd.prog 11 #[.string a0] w fun e w' => e = .returned (.tuple #[.agg #[.int .i64 r1, .int .i64 r2, .int .i64 r3, .int .i64 r4, .string r5, .int .i64 r6, .string r7, .string r8, .string r9, .string r10, .int .i64 r11], .int .i64 r12]) ∧ Below w.heap.size w w' := by
  have e := Option.some.inj h
  have c := take_all a0 w hg
  rw [e] at c
  exact c
/-- The handle behind a call's beginning. -/
theorem handle_at {w w1 : World} (hg : Handle w) (hb : Below w.heap.size w w1) : Handle w1 := hg.below hb
end Go.Proofs.YtlpcidjmaeicoaaDoor.QWi

/-! RepState -/
/- The state between two rows of wire.TakeReply. -/
namespace Go.Proofs.YtlpcidjmaeicoaaDoor.Reader
open Go Go.RowKit Go.Proofs.YtlpcidjmaeicoaaDoor.DecM Go.Proofs.YtlpcidjmaeicoaaDoor.Giv Go.Proofs.YtlpcidjmaeicoaaDoor.Err Go.Proofs.YtlpcidjmaeicoaaDoorW.PrintWords Go.Proofs.YtlpcidjmaeicoaaDoorW.PrintLast Go.Proofs.YtlpcidjmaeicoaaDoor.QWi

/-- One row more; so many rows. -/
def rowStep (p : List S74 × ByteArray × Bool) : List S74 × ByteArray × Bool := tx p.2 32 fun k x => tx x 64 fun v y => (p.1 ++ [⟨k, v⟩], y)
def rowsI (x : ByteArray × Bool) : Nat → List S74 × ByteArray × Bool
  | 0 => ([], x)
  | i + 1 => rowStep (rowsI x i)
theorem rowsI_size (x : ByteArray × Bool) (i : Nat) : (rowsI x i).2.1.size ≤ x.1.size := by
  induction i with
  | zero => exact Nat.le_refl _
  | succ i ih =>
    show (rowStep (rowsI x i)).2.1.size ≤ _
    unfold rowStep tx
    have h1 := textR_size (rowsI x i).2.1 (rowsI x i).2.2 32
    have h2 := textR_size (textR (rowsI x i).2.1 (rowsI x i).2.2 32).2.1 (textR (rowsI x i).2.1 (rowsI x i).2.2 32).2.2 64
    exact Nat.le_trans h2 (Nat.le_trans h1 ih)
theorem rowsI_length (x : ByteArray × Bool) (i : Nat) : (rowsI x i).1.length = i := by
  induction i with
  | zero => rfl
  | succ i ih =>
    show (rowStep (rowsI x i)).1.length = _
    unfold rowStep tx
    show ((rowsI x i).1 ++ [_]).length = _
    rw [List.length_append, ih]
    rfl
theorem Rd.keep {w w' : World} {r : Nat} {av av' : List Nat} {s : ByteArray} {n : Int} {bad : Bool} (h : Rd w r av s n bad) (hz : w.heap.size ≤ w'.heap.size)
    (hb : ∀ k, k < w.heap.size → (k = r ∨ k ∉ av) → w'.heap[k]? = w.heap[k]?) (hr : r ∈ av') (hlt : ∀ a ∈ av', a < w'.heap.size) (hav : ∀ a ∈ av', a ∈ av ∨ w.heap.size ≤ a) : Rd w' r av' s n bad := by
  obtain ⟨⟨ev, h1, h2⟩, h3, h4⟩ := h
  have hl : r < w.heap.size := cell_lt h1.c0
  have hc : ∀ o, w'.cell? ⟨r, o, none⟩ = w.cell? ⟨r, o, none⟩ := fun o => World.cell?_of_block (w := w) (hb r hl (.inl rfl))
  have hf : ∀ o, w'.frozen? ⟨r, o, none⟩ = w.frozen? ⟨r, o, none⟩ := fun o => World.frozen?_of_block (w := w) (hb r hl (.inl rfl))
  refine ⟨⟨ev, ⟨(hc 0).trans h1.c0, (hc 1).trans h1.c1, (hc 2).trans h1.c2, fun o => (hf o).trans (h1.f o)⟩, ?_⟩, hr, hlt⟩
  cases bad with
  | false => exact h2
  | true =>
    obtain ⟨c, k, e, k1, k2, k3, k4, k5⟩ := h2
    have hcc : ∀ o, w'.cell? ⟨c, o, none⟩ = w.cell? ⟨c, o, none⟩ := fun o => World.cell?_of_block (w := w) (hb c k2 (.inr k1))
    refine ⟨c, k, e, fun hm => ?_, Nat.lt_of_lt_of_le k2 hz, k3, (hcc 0).trans k4, (hcc 1).trans k5⟩
    rcases hav c hm with h | h
    · exact k1 h
    · omega
/-- The reader r, the reply q that is filled, the result's block z; the rows so far (v, l): in none of the blocks fb; the reader's error: in none of av. -/
structure Lp (w0 : World) (r q z : Nat) (av fb : List Nat) (w : World) (s : ByteArray) (n : Int) (bad : Bool) (cq cz : List Value) (v : Value) (l : List S74) : Prop where
  rd : Rd w r av s n bad
  qm : q ∈ av
  own : ∀ k, v.ownBlock = some k → k ∈ av
  row : Kd.R k74 74 w w0.heap.size (fun k => k ∉ fb) v l
  rf : r ∈ fb
  qf : q ∈ fb
  zf : z ∈ fb
  bel : Below w0.heap.size w0 w
  hg : Handle w
  qc : CellsAt w q cq
  zc : CellsAt w z cz
  hq : 0 < cq.length
  hz : 0 < cz.length
  r0 : w0.heap.size ≤ r
  q0 : w0.heap.size ≤ q
  z0 : w0.heap.size ≤ z
  qr : q ≠ r
  zr : z ≠ r
  zq : z ≠ q
  w00 : 0 < w0.heap.size
theorem Lp.start {w0 w : World} {r q z : Nat} {ks : List (Nat × List Value)} {s : ByteArray} {n : Int} {bad : Bool} {cq cz : List Value} (h : St w0 r q ks w s n bad cq) (hz : (z, cz) ∈ ks) (z0 : w0.heap.size ≤ z) :
    Lp w0 r q z (ks.map Prod.fst ++ [q, r]) [r, q, z] w s n bad cq cz (.slice none 0 0) [] := by
  obtain ⟨k1, k2, k3, k4⟩ := h.kc _ hz
  exact ⟨h.rd, by simp, fun k hk => by simp [Value.ownBlock] at hk, Kd.R_nil _ _ _ _ _, by simp, by simp, by simp, h.bel, h.hg, h.qc, k1, h.hq, k2, h.r0, h.q0, z0, h.qr, k3, k4, h.w00⟩
section
variable {w0 w w' : World} {r q z : Nat} {av fb : List Nat} {s s' : ByteArray} {n n' : Int} {bad bad' : Bool} {cq cz : List Value} {v : Value} {l : List S74}
theorem Lp.call (h : Lp w0 r q z av fb w s n bad cq cz v l) (hr : Rd w' r av s' n' bad') (ho : Only r w w') : Lp w0 r q z av fb w' s' n' bad' cq cz v l :=
  ⟨hr, h.qm, h.own, Kd.R_step h.row (fun k hk hlt => ho.block k hlt (fun e => hk (e ▸ h.rf))), h.rf, h.qf, h.zf, h.bel.trans (ho.below h.r0 h.bel.size), h.hg.only ho (by have := h.r0; have := h.w00; omega),
    h.qc.only h.hq ho h.qr, h.zc.only h.hz ho h.zr, h.hq, h.hz, h.r0, h.q0, h.z0, h.qr, h.zr, h.zq, h.w00⟩
theorem Lp.lt (h : Lp w0 r q z av fb w s n bad cq cz v l) : r < w.heap.size ∧ q < w.heap.size ∧ z < w.heap.size :=
  ⟨h.rd.lt r h.rd.mem, cell_lt (h.qc.c 0 h.hq), cell_lt (h.zc.c 0 h.hz)⟩
/-- A new block: the rows are not in it. -/
theorem Lp.push (h : Lp w0 r q z av fb w s n bad cq cz v l) (a : Array Value) (t : TypeId) : Lp w0 r q z (w.heap.size :: av) (w.heap.size :: fb) (w.alloc (.cells a t)) s n bad cq cz v l := by
  have hb := (Below.refl w.heap.size w).alloc (Nat.le_refl _) (.cells a t)
  have hrow : Kd.R k74 74 w w0.heap.size (fun k => k ∉ w.heap.size :: fb) v l := Kd.R_mono (Kd.R_bound h.row) fun k hk => by
    rw [List.mem_cons]
    rintro (e | e)
    · have := hk.2.2.1
      omega
    · exact hk.1 e
  exact ⟨h.rd.push _, List.mem_cons_of_mem _ h.qm, fun k hk => List.mem_cons_of_mem _ (h.own k hk), Kd.R_below hrow hb, List.mem_cons_of_mem _ h.rf, List.mem_cons_of_mem _ h.qf, List.mem_cons_of_mem _ h.zf, h.bel.trans (hb.mono h.bel.size), h.hg.below hb,
    h.qc.below h.hq hb, h.zc.below h.hz hb, h.hq, h.hz, h.r0, h.q0, h.z0, h.qr, h.zr, h.zq, h.w00⟩
/-- Another block is written. -/
theorem Lp.other {t : Nat} (h : Lp w0 r q z av fb w s n bad cq cz v l) (ht : t ∈ av) (htf : t ∈ fb) (hr : t ≠ r) (hq : t ≠ q) (hz : t ≠ z) (h0 : w0.heap.size ≤ t) (j : Nat) (u : Value) : Lp w0 r q z av fb (w.setCell ⟨t, j, none⟩ u) s n bad cq cz v l := by
  have ho : Only t w (w.setCell ⟨t, j, none⟩ u) := (Only.refl t w).set j u
  exact ⟨h.rd.other ht hr ho, h.qm, h.own, Kd.R_step h.row (fun k hk hlt => ho.block k hlt (fun e => hk (e ▸ htf))), h.rf, h.qf, h.zf, h.bel.setCell h0 u, h.hg.only ho (by have := h.w00; omega),
    h.qc.only h.hq ho hq.symm, h.zc.only h.hz ho hz.symm, h.hq, h.hz, h.r0, h.q0, h.z0, h.qr, h.zr, h.zq, h.w00⟩
/-- The reply's own block is written. -/
theorem Lp.store (h : Lp w0 r q z av fb w s n bad cq cz v l) (j : Nat) (hj : j < cq.length) (u : Value) : Lp w0 r q z av fb (w.setCell ⟨q, j, none⟩ u) s n bad (cq.set j u) cz v l := by
  have ho : Only q w (w.setCell ⟨q, j, none⟩ u) := (Only.refl q w).set j u
  exact ⟨h.rd.other h.qm h.qr ho, h.qm, h.own, Kd.R_step h.row (fun k hk hlt => ho.block k hlt (fun e => hk (e ▸ h.qf))), h.rf, h.qf, h.zf, h.bel.setCell h.q0 u, h.hg.only ho (by have := h.w00; have := h.q0; omega),
    h.qc.set j hj u, h.zc.only h.hz ho h.zq, by rw [List.length_set]; exact h.hq, h.hz, h.r0, h.q0, h.z0, h.qr, h.zr, h.zq, h.w00⟩
/-- The rows have grown. -/
theorem Lp.grown {v1 : Value} {l1 : List S74} (h : Lp w0 r q z av fb w s n bad cq cz v l) (hR : Kd.R k74 74 w' w0.heap.size (fun k => k ∉ fb) v1 l1) (hB : Below w0.heap.size w0 w') (hg : w.grownBy w' v.ownBlock)
    (hat : v1.ownBlock = v.ownBlock ∨ ∃ b, v1.ownBlock = some b ∧ w.heap.size ≤ b) : Lp w0 r q z (v1.ownBlock.toList ++ av) fb w' s n bad cq cz v1 l1 := by
  have hne : ∀ k, k ∈ fb → some k ≠ v.ownBlock := fun k hk e => h.row.1 k e.symm hk
  have hl := h.lt
  have hcell : ∀ b, b ∈ fb → b < w.heap.size → ∀ o, w'.cell? ⟨b, o, none⟩ = w.cell? ⟨b, o, none⟩ := fun b hb hlt o => World.cell?_of_block (w := w) (hg.block b hlt (hne b hb))
  have hfro : ∀ b, b ∈ fb → b < w.heap.size → ∀ o, w'.frozen? ⟨b, o, none⟩ = w.frozen? ⟨b, o, none⟩ := fun b hb hlt o => World.frozen?_of_block (w := w) (hg.block b hlt (hne b hb))
  have hown : ∀ k, v1.ownBlock = some k → k < w'.heap.size := fun k hk => by
    obtain ⟨inner, ho⟩ := Kd.R_own hR
    exact own_lt ho k hk
  have hrd : Rd w' r (v1.ownBlock.toList ++ av) s n bad := by
    refine h.rd.keep hg.size (fun k hlt hk => hg.block k hlt (fun e => ?_)) (List.mem_append_right _ h.rd.mem) (fun a ha => ?_) (fun a ha => ?_)
    · rcases hk with hk | hk
      · subst hk
        exact hne k h.rf e
      · exact hk (h.own k e.symm)
    · rcases List.mem_append.1 ha with ha | ha
      · exact hown a (by simpa using ha)
      · exact Nat.lt_of_lt_of_le (h.rd.lt a ha) hg.size
    · rcases List.mem_append.1 ha with ha | ha
      · have ha : v1.ownBlock = some a := by simpa using ha
        rcases hat with hat | ⟨b, hb, hle⟩
        · exact .inl (h.own a (hat ▸ ha))
        · rw [hb] at ha
          cases ha
          exact .inr hle
      · exact .inl ha
  refine ⟨hrd, List.mem_append_right _ h.qm, fun k hk => List.mem_append_left _ (by simp [hk]), hR, h.rf, h.qf, h.zf, hB, ?_, ⟨fun j hj => (hcell q h.qf hl.2.1 j).trans (h.qc.c j hj), fun o => (hfro q h.qf hl.2.1 o).trans (h.qc.f o)⟩, ⟨fun j hj => (hcell z h.zf hl.2.2 j).trans (h.zc.c j hj), fun o => (hfro z h.zf hl.2.2 o).trans (h.zc.f o)⟩, h.hq, h.hz, h.r0, h.q0, h.z0, h.qr, h.zr, h.zq, h.w00⟩
  have hg0 : 0 < w.heap.size := Nat.lt_of_lt_of_le h.w00 h.bel.size
  have h00 : some 0 ≠ v.ownBlock := fun e => by
    obtain ⟨inner, ho⟩ := Kd.R_own h.row
    have := own_base ho 0 e.symm
    have := h.w00
    omega
  exact (World.cell?_of_block (w := w) (a := ⟨0, 0, none⟩) (hg.block 0 hg0 h00)).trans h.hg
/-- Fewer blocks are forbidden. -/
theorem Lp.less {fb' : List Nat} (h : Lp w0 r q z av fb w s n bad cq cz v l) (hs : ∀ a ∈ fb', a ∈ fb) (rf : r ∈ fb') (qf : q ∈ fb') (zf : z ∈ fb') : Lp w0 r q z av fb' w s n bad cq cz v l :=
  ⟨h.rd, h.qm, h.own, Kd.R_mono h.row (fun k hk hm => hk (hs k hm)), rf, qf, zf, h.bel, h.hg, h.qc, h.zc, h.hq, h.hz, h.r0, h.q0, h.z0, h.qr, h.zr, h.zq, h.w00⟩
end
end Go.Proofs.YtlpcidjmaeicoaaDoor.Reader

/-! RepOut -/
/- What TakeReply hands back. -/
namespace Go.Proofs.YtlpcidjmaeicoaaDoor.Reader
open Go Go.RowKit Go.Proofs.YtlpcidjmaeicoaaDoor.DecM Go.Proofs.YtlpcidjmaeicoaaDoor.Giv Go.Proofs.YtlpcidjmaeicoaaDoor.Err Go.Proofs.YtlpcidjmaeicoaaDoorW.PrintWords Go.Proofs.YtlpcidjmaeicoaaDoorW.PrintLast Go.Proofs.YtlpcidjmaeicoaaDoor.QWi

set_option linter.unusedSimpArgs false
def zeroRep : Array Value := #[.int .i64 0, .int .i64 0, .int .i64 0, .int .i64 0, .string ⟨#[]⟩, .bool false, .slice none 0 0, .bool false]
theorem load_rep (W : World) (b : Nat) (l : List Value) (h : CellsAt W b l) (v0 v1 v2 v3 v4 v5 v6 v7 : Value) (hl : l = [v0, v1, v2, v3, v4, v5, v6, v7]) :
    (loadVar 41 ⟨b, 0, none⟩).run Tryd.prog W = .ok (.agg #[v0, v1, v2, v3, v4, v5, v6, v7]) W := by
  subst hl
  have x0 : W.cell? ⟨b, 0, none⟩ = some v0 := h.c 0 (by simp)
  have x1 : W.cell? ⟨b, 1, none⟩ = some v1 := h.c 1 (by simp)
  have x2 : W.cell? ⟨b, 2, none⟩ = some v2 := h.c 2 (by simp)
  have x3 : W.cell? ⟨b, 3, none⟩ = some v3 := h.c 3 (by simp)
  have x4 : W.cell? ⟨b, 4, none⟩ = some v4 := h.c 4 (by simp)
  have x5 : W.cell? ⟨b, 5, none⟩ = some v5 := h.c 5 (by simp)
  have x6 : W.cell? ⟨b, 6, none⟩ = some v6 := h.c 6 (by simp)
  have x7 : W.cell? ⟨b, 7, none⟩ = some v7 := h.c 7 (by simp)
  clear h
  go_simp
theorem w_nat (i : Nat) (h : i < 9223372036854775807) : wrap64 ((i : Int) + 1) = ((i + 1 : Nat) : Int) := by
  unfold wrap64
  omega
/-- What is handed back. -/
def repOut (P : S41 × Int) (vr : Value) : Value := .tuple #[.agg #[.int .i64 P.1.f0, .int .i64 P.1.f1, .int .i64 P.1.f2, .int .i64 P.1.f3, .string P.1.f4, .bool P.1.f5, vr, .bool P.1.f7], .int .i64 P.2]
end Go.Proofs.YtlpcidjmaeicoaaDoor.Reader

/-! QWix5 -/
namespace Go.Proofs.YtlpcidjmaeicoaaDoor.QWi
open Go.RowKit Go.Proofs.YtlpcidjmaeicoaaDoorW.PrintWords Go.Proofs.YtlpcidjmaeicoaaDoorW.PrintLast Go.Proofs.YtlpcidjmaeicoaaDoorW.PrintMore
attribute [local go_sem] max2_int min2_int max_two min_two max_three min_three max_four min_four   -- for this text's walks alone
set_option linter.unusedVariables false
set_option linter.unusedSimpArgs false

/-! ### wire_Req: function 9 -/
def wire_Req.f (k : Nat) (a0_0 : Int) (a0_1 : Int) (a0_2 : Int) (a0_3 : Int) (a0_4 : ByteArray) (a0_5 : Int) (a0_6 : ByteArray) (a0_7 : ByteArray) (a0_8 : ByteArray) (a0_9 : ByteArray) (a0_10 : Int) : Option (ByteArray × Int) := (wire_MayReq.f k a0_0 a0_1 a0_2 a0_3 a0_4 a0_5 a0_6 a0_7 a0_8 a0_9 a0_10).bind fun t108 => (if t108 = true then ((wire_nums.f (([a0_0, a0_1, a0_2, a0_3] : List Int))).bind fun t112 => ((wire_texts.f (([a0_4] : List ByteArray))).bind fun t116 => (if t112.size + t116.size ≤ 9223372036854775807 then (if a0_0 = 5 then ((wire_nums.f (([a0_5] : List Int))).bind fun t120 => ((wire_texts.f (([a0_6, a0_7, a0_8, a0_9] : List ByteArray))).bind fun t124 => (if t120.size + t124.size ≤ 9223372036854775807 then ((wire_nums.f (([a0_10] : List Int))).bind fun t128 => (if (t120 ++ t124).size + t128.size ≤ 9223372036854775807 then (if (t112 ++ t116).size + ((t120 ++ t124) ++ t128).size ≤ 9223372036854775807 then (some ((t112 ++ t116) ++ ((t120 ++ t124) ++ t128), 0)) else (none)) else (none))) else (none)))) else (some (t112 ++ t116, 0))) else (none)))) else (some ((⟨#[]⟩ : ByteArray), 1)))
def wire_Req.T3 : Bool × List (List Nat × List Nat) := (true, [([], []), ([0], [0]), ([], []), ([2], [2]), ([], []), ([4], [4]), ([], []), ([6], [6]), ([1, 3, 5, 7], [1, 3, 5, 7]), ([8], [8]), ([], []), ([10], [10]), ([11], [11]), ([12, 9], [12]), ([9, 13], [9, 13]), ([14, 13, 0, 1, 2, 3, 4, 5, 6, 7, 8, 9, 10, 11, 12, 13, 14], [14])])
def wire_Req.B3 : List Nat := [0, 1, 0, 4, 0, 16, 0, 64, 255, 511, 0, 1024, 3072, 8191, 16383, 32767]
theorem wire_Req.tab3 : rtab .any (opsOf Tryd.f9 3) = wire_Req.T3 := by kernel_rfl
theorem wire_Req.bits3 : waitsOk wire_Req.T3.2 wire_Req.B3 = true := by kernel_rfl
def wire_Req.T5 : Bool × List (List Nat × List Nat) := (true, [([], []), ([], []), ([1], [1]), ([2], [2]), ([3], [3]), ([4], [4]), ([], []), ([6], [6]), ([7], [7]), ([], []), ([9], [9]), ([10], [10]), ([], []), ([12], [12]), ([13], [13]), ([], []), ([15], [15]), ([16], [16]), ([8, 11, 14, 17], [8, 11, 14, 17]), ([18, 5], [18]), ([5, 19], [5, 19]), ([], []), ([21], [21]), ([22], [22]), ([23], [23]), ([24, 19], [24]), ([20, 25], [20, 25]), ([0, 26], [0, 26]), ([27, 25, 0, 1, 2, 3, 4, 5, 6, 7, 8, 9, 10, 11, 12, 13, 14, 15, 16, 17, 18, 19, 20, 21, 22, 23, 24, 25, 26, 27], [0, 27])])
def wire_Req.B5 : List Nat := [0, 0, 2, 6, 14, 30, 0, 64, 192, 0, 512, 1536, 0, 4096, 12288, 0, 32768, 98304, 262080, 524286, 1048574, 0, 2097152, 6291456, 14680064, 32505854, 67108862, 134217727, 268435455]
theorem wire_Req.tab5 : rtab .any (opsOf Tryd.f9 5) = wire_Req.T5 := by kernel_rfl
theorem wire_Req.bits5 : waitsOk wire_Req.T5.2 wire_Req.B5 = true := by kernel_rfl
set_option maxHeartbeats 8000000 in
set_option maxRecDepth 100000 in
theorem wire_Req.calls (k : Nat) (a0_0 : Int) (a0_1 : Int) (a0_2 : Int) (a0_3 : Int) (a0_4 : ByteArray) (a0_5 : Int) (a0_6 : ByteArray) (a0_7 : ByteArray) (a0_8 : ByteArray) (a0_9 : ByteArray) (a0_10 : Int) (r1 : ByteArray) (r2 : Int) (w : World) (h : wire_Req.f k a0_0 a0_1 a0_2 a0_3 a0_4 a0_5 a0_6 a0_7 a0_8 a0_9 a0_10 = some (r1, r2)) :
    Calls Tryd.prog 9 #[.agg #[.int .i64 a0_0, .int .i64 a0_1, .int .i64 a0_2, .int .i64 a0_3, .string a0_4, .int .i64 a0_5, .string a0_6, .string a0_7, .string a0_8, .string a0_9, .int .i64 a0_10]] w fun e w' => e = .returned (.tuple #[.string r1, .int .i64 r2]) ∧ Below w.heap.size w w' := by
  have hu25 := Tryd.underlying25
  have HB := Aside0.mk (Below.refl w.heap.size w)
  have H : ((wire_MayReq.f k a0_0 a0_1 a0_2 a0_3 a0_4 a0_5 a0_6 a0_7 a0_8 a0_9 a0_10).bind fun t108 => (if t108 = true then ((wire_nums.f (([a0_0, a0_1, a0_2, a0_3] : List Int))).bind fun t112 => ((wire_texts.f (([a0_4] : List ByteArray))).bind fun t116 => (if t112.size + t116.size ≤ 9223372036854775807 then (if a0_0 = 5 then ((wire_nums.f (([a0_5] : List Int))).bind fun t120 => ((wire_texts.f (([a0_6, a0_7, a0_8, a0_9] : List ByteArray))).bind fun t124 => (if t120.size + t124.size ≤ 9223372036854775807 then ((wire_nums.f (([a0_10] : List Int))).bind fun t128 => (if (t120 ++ t124).size + t128.size ≤ 9223372036854775807 then (if (t112 ++ t116).size + ((t120 ++ t124) ++ t128).size ≤ 9223372036854775807 then (some ((t112 ++ t116) ++ ((t120 ++ t124) ++ t128), 0)) else (none)) else (none))) else (none)))) else (some (t112 ++ t116, 0))) else (none)))) else (some ((⟨#[]⟩ : ByteArray), 1)))) = some (r1, r2) := h
  clear h
  replace H := Option.bind_eq_some_iff.mp H
  obtain ⟨t108, A20, H⟩ := H
  replace H : (if t108 = true then ((wire_nums.f (([a0_0, a0_1, a0_2, a0_3] : List Int))).bind fun t112 => ((wire_texts.f (([a0_4] : List ByteArray))).bind fun t116 => (if t112.size + t116.size ≤ 9223372036854775807 then (if a0_0 = 5 then ((wire_nums.f (([a0_5] : List Int))).bind fun t120 => ((wire_texts.f (([a0_6, a0_7, a0_8, a0_9] : List ByteArray))).bind fun t124 => (if t120.size + t124.size ≤ 9223372036854775807 then ((wire_nums.f (([a0_10] : List Int))).bind fun t128 => (if (t120 ++ t124).size + t128.size ≤ 9223372036854775807 then (if (t112 ++ t116).size + ((t120 ++ t124) ++ t128).size ≤ 9223372036854775807 then (some ((t112 ++ t116) ++ ((t120 ++ t124) ++ t128), 0)) else (none)) else (none))) else (none)))) else (some (t112 ++ t116, 0))) else (none)))) else (some ((⟨#[]⟩ : ByteArray), 1))) = some (r1, r2) := H
  have A2 := Aside0.mk A20
  clear A20
  by_cases c3 : t108 = true
  · subst c3
    have H1 : ((wire_nums.f (([a0_0, a0_1, a0_2, a0_3] : List Int))).bind fun t112 => ((wire_texts.f (([a0_4] : List ByteArray))).bind fun t116 => (if t112.size + t116.size ≤ 9223372036854775807 then (if a0_0 = 5 then ((wire_nums.f (([a0_5] : List Int))).bind fun t120 => ((wire_texts.f (([a0_6, a0_7, a0_8, a0_9] : List ByteArray))).bind fun t124 => (if t120.size + t124.size ≤ 9223372036854775807 then ((wire_nums.f (([a0_10] : List Int))).bind fun t128 => (if (t120 ++ t124).size + t128.size ≤ 9223372036854775807 then (if (t112 ++ t116).size + ((t120 ++ t124) ++ t128).size ≤ 9223372036854775807 then (some ((t112 ++ t116) ++ ((t120 ++ t124) ++ t128), 0)) else (none)) else (none))) else (none)))) else (some (t112 ++ t116, 0))) else (none)))) = some (r1, r2) := by rw [if_pos rfl] at H; exact H
    clear H
    have H := H1
    clear H1
    obtain ⟨y109, hy109⟩ : ∃ y_ : List Int, y_ = (([a0_0, a0_1, a0_2, a0_3] : List Int)) := ⟨_, rfl⟩
    replace H : ((wire_nums.f y109).bind fun t112 => ((wire_texts.f (([a0_4] : List ByteArray))).bind fun t116 => (if t112.size + t116.size ≤ 9223372036854775807 then (if a0_0 = 5 then ((wire_nums.f (([a0_5] : List Int))).bind fun t120 => ((wire_texts.f (([a0_6, a0_7, a0_8, a0_9] : List ByteArray))).bind fun t124 => (if t120.size + t124.size ≤ 9223372036854775807 then ((wire_nums.f (([a0_10] : List Int))).bind fun t128 => (if (t120 ++ t124).size + t128.size ≤ 9223372036854775807 then (if (t112 ++ t116).size + ((t120 ++ t124) ++ t128).size ≤ 9223372036854775807 then (some ((t112 ++ t116) ++ ((t120 ++ t124) ++ t128), 0)) else (none)) else (none))) else (none)))) else (some (t112 ++ t116, 0))) else (none)))) = some (r1, r2) := by first | (rw [hy109]; with_reducible exact H) | (have H2_ := (Option.bind_some _ _).symm.trans H; rw [hy109]; with_reducible exact H2_) | (have H2_ := (Option.bind_some _ _).symm.trans H; with_reducible exact H2_) | with_reducible exact H | (rw [hy109]; exact H) | exact H
    have Ny109 := Aside0.mk hy109
    clear hy109
    replace H := Option.bind_eq_some_iff.mp H
    obtain ⟨t112, A40, H⟩ := H
    replace H : ((wire_texts.f (([a0_4] : List ByteArray))).bind fun t116 => (if t112.size + t116.size ≤ 9223372036854775807 then (if a0_0 = 5 then ((wire_nums.f (([a0_5] : List Int))).bind fun t120 => ((wire_texts.f (([a0_6, a0_7, a0_8, a0_9] : List ByteArray))).bind fun t124 => (if t120.size + t124.size ≤ 9223372036854775807 then ((wire_nums.f (([a0_10] : List Int))).bind fun t128 => (if (t120 ++ t124).size + t128.size ≤ 9223372036854775807 then (if (t112 ++ t116).size + ((t120 ++ t124) ++ t128).size ≤ 9223372036854775807 then (some ((t112 ++ t116) ++ ((t120 ++ t124) ++ t128), 0)) else (none)) else (none))) else (none)))) else (some (t112 ++ t116, 0))) else (none))) = some (r1, r2) := H
    have A4 := Aside0.mk A40
    clear A40
    obtain ⟨y113, hy113⟩ : ∃ y_ : List ByteArray, y_ = (([a0_4] : List ByteArray)) := ⟨_, rfl⟩
    replace H : ((wire_texts.f y113).bind fun t116 => (if t112.size + t116.size ≤ 9223372036854775807 then (if a0_0 = 5 then ((wire_nums.f (([a0_5] : List Int))).bind fun t120 => ((wire_texts.f (([a0_6, a0_7, a0_8, a0_9] : List ByteArray))).bind fun t124 => (if t120.size + t124.size ≤ 9223372036854775807 then ((wire_nums.f (([a0_10] : List Int))).bind fun t128 => (if (t120 ++ t124).size + t128.size ≤ 9223372036854775807 then (if (t112 ++ t116).size + ((t120 ++ t124) ++ t128).size ≤ 9223372036854775807 then (some ((t112 ++ t116) ++ ((t120 ++ t124) ++ t128), 0)) else (none)) else (none))) else (none)))) else (some (t112 ++ t116, 0))) else (none))) = some (r1, r2) := by first | (rw [hy113]; with_reducible exact H) | (have H2_ := (Option.bind_some _ _).symm.trans H; rw [hy113]; with_reducible exact H2_) | (have H2_ := (Option.bind_some _ _).symm.trans H; with_reducible exact H2_) | with_reducible exact H | (rw [hy113]; exact H) | exact H
    have Ny113 := Aside0.mk hy113
    clear hy113
    replace H := Option.bind_eq_some_iff.mp H
    obtain ⟨t116, A50, H⟩ := H
    replace H : (if t112.size + t116.size ≤ 9223372036854775807 then (if a0_0 = 5 then ((wire_nums.f (([a0_5] : List Int))).bind fun t120 => ((wire_texts.f (([a0_6, a0_7, a0_8, a0_9] : List ByteArray))).bind fun t124 => (if t120.size + t124.size ≤ 9223372036854775807 then ((wire_nums.f (([a0_10] : List Int))).bind fun t128 => (if (t120 ++ t124).size + t128.size ≤ 9223372036854775807 then (if (t112 ++ t116).size + ((t120 ++ t124) ++ t128).size ≤ 9223372036854775807 then (some ((t112 ++ t116) ++ ((t120 ++ t124) ++ t128), 0)) else (none)) else (none))) else (none)))) else (some (t112 ++ t116, 0))) else (none)) = some (r1, r2) := H
    have A5 := Aside0.mk A50
    clear A50
    by_cases c6 : t112.size + t116.size ≤ 9223372036854775807
    · rw [if_pos c6] at H
      have c6b0 := eq_true c6
      have c6b1 : decide (t112.size + t116.size ≤ 9223372036854775807) = true := decide_eq_true c6
      try have c6b2 : (9223372036854775807 < t112.size + t116.size) = False := eq_false (Nat.not_lt.2 c6)
      by_cases c7 : a0_0 = 5
      · rw [if_pos c7] at H
        have c7b0 : (a0_0 == 5) = true := beq_iff_eq.mpr c7
        have c7b1 : (a0_0 != 5) = false := bne_eq_false_iff_eq.mpr c7
        clear c7
        obtain ⟨y117, hy117⟩ : ∃ y_ : List Int, y_ = (([a0_5] : List Int)) := ⟨_, rfl⟩
        replace H : ((wire_nums.f y117).bind fun t120 => ((wire_texts.f (([a0_6, a0_7, a0_8, a0_9] : List ByteArray))).bind fun t124 => (if t120.size + t124.size ≤ 9223372036854775807 then ((wire_nums.f (([a0_10] : List Int))).bind fun t128 => (if (t120 ++ t124).size + t128.size ≤ 9223372036854775807 then (if (t112 ++ t116).size + ((t120 ++ t124) ++ t128).size ≤ 9223372036854775807 then (some ((t112 ++ t116) ++ ((t120 ++ t124) ++ t128), 0)) else (none)) else (none))) else (none)))) = some (r1, r2) := by first | (rw [hy117]; with_reducible exact H) | (have H2_ := (Option.bind_some _ _).symm.trans H; rw [hy117]; with_reducible exact H2_) | (have H2_ := (Option.bind_some _ _).symm.trans H; with_reducible exact H2_) | with_reducible exact H | (rw [hy117]; exact H) | exact H
        have Ny117 := Aside0.mk hy117
        clear hy117
        replace H := Option.bind_eq_some_iff.mp H
        obtain ⟨t120, A80, H⟩ := H
        replace H : ((wire_texts.f (([a0_6, a0_7, a0_8, a0_9] : List ByteArray))).bind fun t124 => (if t120.size + t124.size ≤ 9223372036854775807 then ((wire_nums.f (([a0_10] : List Int))).bind fun t128 => (if (t120 ++ t124).size + t128.size ≤ 9223372036854775807 then (if (t112 ++ t116).size + ((t120 ++ t124) ++ t128).size ≤ 9223372036854775807 then (some ((t112 ++ t116) ++ ((t120 ++ t124) ++ t128), 0)) else (none)) else (none))) else (none))) = some (r1, r2) := H
        have A8 := Aside0.mk A80
        clear A80
        obtain ⟨y121, hy121⟩ : ∃ y_ : List ByteArray, y_ = (([a0_6, a0_7, a0_8, a0_9] : List ByteArray)) := ⟨_, rfl⟩
        replace H : ((wire_texts.f y121).bind fun t124 => (if t120.size + t124.size ≤ 9223372036854775807 then ((wire_nums.f (([a0_10] : List Int))).bind fun t128 => (if (t120 ++ t124).size + t128.size ≤ 9223372036854775807 then (if (t112 ++ t116).size + ((t120 ++ t124) ++ t128).size ≤ 9223372036854775807 then (some ((t112 ++ t116) ++ ((t120 ++ t124) ++ t128), 0)) else (none)) else (none))) else (none))) = some (r1, r2) := by first | (rw [hy121]; with_reducible exact H) | (have H2_ := (Option.bind_some _ _).symm.trans H; rw [hy121]; with_reducible exact H2_) | (have H2_ := (Option.bind_some _ _).symm.trans H; with_reducible exact H2_) | with_reducible exact H | (rw [hy121]; exact H) | exact H
        have Ny121 := Aside0.mk hy121
        clear hy121
        replace H := Option.bind_eq_some_iff.mp H
        obtain ⟨t124, A90, H⟩ := H
        replace H : (if t120.size + t124.size ≤ 9223372036854775807 then ((wire_nums.f (([a0_10] : List Int))).bind fun t128 => (if (t120 ++ t124).size + t128.size ≤ 9223372036854775807 then (if (t112 ++ t116).size + ((t120 ++ t124) ++ t128).size ≤ 9223372036854775807 then (some ((t112 ++ t116) ++ ((t120 ++ t124) ++ t128), 0)) else (none)) else (none))) else (none)) = some (r1, r2) := H
        have A9 := Aside0.mk A90
        clear A90
        by_cases c10 : t120.size + t124.size ≤ 9223372036854775807
        · rw [if_pos c10] at H
          have c10b0 := eq_true c10
          have c10b1 : decide (t120.size + t124.size ≤ 9223372036854775807) = true := decide_eq_true c10
          try have c10b2 : (9223372036854775807 < t120.size + t124.size) = False := eq_false (Nat.not_lt.2 c10)
          obtain ⟨y125, hy125⟩ : ∃ y_ : List Int, y_ = (([a0_10] : List Int)) := ⟨_, rfl⟩
          replace H : ((wire_nums.f y125).bind fun t128 => (if (t120 ++ t124).size + t128.size ≤ 9223372036854775807 then (if (t112 ++ t116).size + ((t120 ++ t124) ++ t128).size ≤ 9223372036854775807 then (some ((t112 ++ t116) ++ ((t120 ++ t124) ++ t128), 0)) else (none)) else (none))) = some (r1, r2) := by first | (rw [hy125]; with_reducible exact H) | (have H2_ := (Option.bind_some _ _).symm.trans H; rw [hy125]; with_reducible exact H2_) | (have H2_ := (Option.bind_some _ _).symm.trans H; with_reducible exact H2_) | with_reducible exact H | (rw [hy125]; exact H) | exact H
          have Ny125 := Aside0.mk hy125
          clear hy125
          replace H := Option.bind_eq_some_iff.mp H
          obtain ⟨t128, A110, H⟩ := H
          replace H : (if (t120 ++ t124).size + t128.size ≤ 9223372036854775807 then (if (t112 ++ t116).size + ((t120 ++ t124) ++ t128).size ≤ 9223372036854775807 then (some ((t112 ++ t116) ++ ((t120 ++ t124) ++ t128), 0)) else (none)) else (none)) = some (r1, r2) := H
          have A11 := Aside0.mk A110
          clear A110
          by_cases c12 : (t120 ++ t124).size + t128.size ≤ 9223372036854775807
          · rw [if_pos c12] at H
            have c12b0 := eq_true c12
            have c12b1 : decide ((t120 ++ t124).size + t128.size ≤ 9223372036854775807) = true := decide_eq_true c12
            try have c12b2 : (9223372036854775807 < (t120 ++ t124).size + t128.size) = False := eq_false (Nat.not_lt.2 c12)
            try have c12b9 : (9223372036854775807 < t120.size + t124.size + t128.size) = False := by first | (rw [← ByteArray.size_append]; exact c12b2) | (have h9 := c12b2; simp only [ByteArray.size_append] at h9 ⊢; exact h9)
            by_cases c13 : (t112 ++ t116).size + ((t120 ++ t124) ++ t128).size ≤ 9223372036854775807
            · rw [if_pos c13] at H
              have c13b0 := eq_true c13
              have c13b1 : decide ((t112 ++ t116).size + ((t120 ++ t124) ++ t128).size ≤ 9223372036854775807) = true := decide_eq_true c13
              try have c13b2 : (9223372036854775807 < (t112 ++ t116).size + ((t120 ++ t124) ++ t128).size) = False := eq_false (Nat.not_lt.2 c13)
              simp only [Option.some.injEq, Prod.mk.injEq] at H
              obtain ⟨rfl, rfl⟩ := H
              go_enter Tryd.func9, Tryd.ntmps9
              try go_wp2_with (first | ((with_reducible refine gate_dst (N := 1) rfl ?_); refine box_event ?hg (N := 1) ?hd (cs := #[.int .i64 a0_0, .int .i64 a0_1, .int .i64 a0_2, .int .i64 a0_3, .string a0_4, .int .i64 a0_5, .string a0_6, .string a0_7, .string a0_8, .string a0_9, .int .i64 a0_10]) (t := 25) ?hr ?_; (case hd => rfl); (case hg => rfl); (case hr => first | (go_simp; done) | (go_simp; rfl)); intro gb107 hg w14 hbox hb; have n0_ := Aside0.mk (below_step (by repeat (first | (with_reducible first | exact HB.out | apply below_alloc | apply pw_below_drewN | apply below_drew1) | exact HB.out)) hb); have n1_ := Aside0.mk (hbox); have n2_ := Aside0.mk ((by rw [hg]; exact (below_size (by repeat (first | (with_reducible first | exact HB.out | apply below_alloc | apply pw_below_drewN | apply below_drew1) | exact HB.out))) : w.heap.size ≤ gb107)); have n3_ := Aside0.mk ((by rw [hg]; exact (below_size (by repeat (first | (with_reducible first | exact HB.out | apply below_alloc | apply pw_below_drewN | apply below_drew1) | exact HB.out))) : w.heap.size ≤ gb107)); clear HB; have HB := n0_; have BK107 := n1_; have GW107 := n2_; have GE107 := n3_; clear n0_ n1_ n2_ n3_; clear hb hbox hg; have hcz15_0 : w14.cell? ⟨gb107, 0, none⟩ = some (.int .i64 a0_0) := (blk_cell BK107.out 0).trans rfl; have hcz15_1 : w14.cell? ⟨gb107, 1, none⟩ = some (.int .i64 a0_1) := (blk_cell BK107.out 1).trans rfl; have hcz15_2 : w14.cell? ⟨gb107, 2, none⟩ = some (.int .i64 a0_2) := (blk_cell BK107.out 2).trans rfl; have hcz15_3 : w14.cell? ⟨gb107, 3, none⟩ = some (.int .i64 a0_3) := (blk_cell BK107.out 3).trans rfl; have hcz15_4 : w14.cell? ⟨gb107, 4, none⟩ = some (.string a0_4) := (blk_cell BK107.out 4).trans rfl; have hcz15_5 : w14.cell? ⟨gb107, 5, none⟩ = some (.int .i64 a0_5) := (blk_cell BK107.out 5).trans rfl; have hcz15_6 : w14.cell? ⟨gb107, 6, none⟩ = some (.string a0_6) := (blk_cell BK107.out 6).trans rfl; have hcz15_7 : w14.cell? ⟨gb107, 7, none⟩ = some (.string a0_7) := (blk_cell BK107.out 7).trans rfl; have hcz15_8 : w14.cell? ⟨gb107, 8, none⟩ = some (.string a0_8) := (blk_cell BK107.out 8).trans rfl; have hcz15_9 : w14.cell? ⟨gb107, 9, none⟩ = some (.string a0_9) := (blk_cell BK107.out 9).trans rfl; have hcz15_10 : w14.cell? ⟨gb107, 10, none⟩ = some (.int .i64 a0_10) := (blk_cell BK107.out 10).trans rfl; have hfz15_0 := blk_frozen BK107.out 0; have hfz15_1 := blk_frozen BK107.out 1; have hfz15_2 := blk_frozen BK107.out 2; have hfz15_3 := blk_frozen BK107.out 3; have hfz15_4 := blk_frozen BK107.out 4; have hfz15_5 := blk_frozen BK107.out 5; have hfz15_6 := blk_frozen BK107.out 6; have hfz15_7 := blk_frozen BK107.out 7; have hfz15_8 := blk_frozen BK107.out 8; have hfz15_9 := blk_frozen BK107.out 9; have hfz15_10 := blk_frozen BK107.out 10) | ((with_reducible refine gate_callee (f := 13) rfl ?_); refine goesL_ (some 6) rfl rfl Tryd.func13 (by kernel_rfl) rfl #[.agg #[.int .i64 a0_0, .int .i64 a0_1, .int .i64 a0_2, .int .i64 a0_3, .string a0_4, .int .i64 a0_5, .string a0_6, .string a0_7, .string a0_8, .string a0_9, .int .i64 a0_10]] rfl (by (try simp only [List.map_toArray, List.map_cons, List.map_nil]); first | done | rfl | (simp only [List.length_drop, List.length_take]; rfl)) ?_; (with_reducible refine (wire_MayReq.calls k a0_0 a0_1 a0_2 a0_3 a0_4 a0_5 a0_6 a0_7 a0_8 a0_9 a0_10 true _ A2.out).mono ?_); rintro e w16 ⟨rfl, hb⟩; refine ⟨_, rfl, ?_⟩; have n0_ := Aside0.mk (blk_below (g := gb107) (o := .cells #[.int .i64 a0_0, .int .i64 a0_1, .int .i64 a0_2, .int .i64 a0_3, .string a0_4, .int .i64 a0_5, .string a0_6, .string a0_7, .string a0_8, .string a0_9, .int .i64 a0_10] 25 (0, 0)) (by (with_reducible repeat (first | refine blk_drewN ?_ _ | refine blk_drew ?_ | refine blk_alloc ?_ _)); exact BK107.out) hb); have n1_ := Aside0.mk (below_step (by repeat (first | (with_reducible first | exact HB.out | apply below_alloc | apply pw_below_drewN | apply below_drew1 | refine below_set ?_ GE107.out) | exact HB.out)) hb); clear BK107; clear HB; have BK107 := n0_; have HB := n1_; clear n0_ n1_; (try clear hb); (try clear hb2); (try clear hk); (try clear hi)))
              have n0_ := Aside0.mk (blk_drew BK107.out)
              have n1_ := Aside0.mk (below_drew1 HB.out)
              clear BK107
              clear HB
              have BK107 := n0_
              have HB := n1_
              clear n0_ n1_
              refine start_ (n := 16) (S := fun w' => True) (ds := []) #[false, false, false, false, false, false, false, false, false, false, false, false, false, false, false, false] (by kernel_rfl) rfl rfl trivial (fun hHeld => ?_); refine with_tabW wire_Req.tab3 wire_Req.bits3 (fun HT_ HW_ => ?_)
              generalize w16.drew = w17 at BK107 HB hHeld ⊢
              refine pure_ (i := 0) (N := some 8) (v := ?_) (a' := ?_) #[true, false, false, false, false, false, false, false, false, false, false, false, false, false, false, false] rfl rfl (any_of HT_.out (by kernel_rfl)) (fun _ _ _ h => h) (Or.inl ⟨by rfl, ?_⟩) ?_ ?_
              rotate_left
              · intro w'
                go_simp
                with_reducible rfl
              rotate_left
              · simp only [Act.put, List.setIfInBounds_toArray, List.set_cons_zero, List.set_cons_succ, i64_w, i32_w]
                rfl
              refine pure_ (i := 2) (N := some 10) (v := ?_) (a' := ?_) #[true, false, true, false, false, false, false, false, false, false, false, false, false, false, false, false] rfl rfl (any_of HT_.out (by kernel_rfl)) (fun _ _ _ h => h) (Or.inl ⟨by rfl, ?_⟩) ?_ ?_
              rotate_left
              · intro w'
                go_simp
                with_reducible rfl
              rotate_left
              · simp only [Act.put, List.setIfInBounds_toArray, List.set_cons_zero, List.set_cons_succ, i64_w, i32_w]
                rfl
              refine pure_ (i := 4) (N := some 12) (v := ?_) (a' := ?_) #[true, false, true, false, true, false, false, false, false, false, false, false, false, false, false, false] rfl rfl (any_of HT_.out (by kernel_rfl)) (fun _ _ _ h => h) (Or.inl ⟨by rfl, ?_⟩) ?_ ?_
              rotate_left
              · intro w'
                go_simp
                with_reducible rfl
              rotate_left
              · simp only [Act.put, List.setIfInBounds_toArray, List.set_cons_zero, List.set_cons_succ, i64_w, i32_w]
                rfl
              refine pure_ (i := 6) (N := some 14) (v := ?_) (a' := ?_) #[true, false, true, false, true, false, true, false, false, false, false, false, false, false, false, false] rfl rfl (any_of HT_.out (by kernel_rfl)) (fun _ _ _ h => h) (Or.inl ⟨by rfl, ?_⟩) ?_ ?_
              rotate_left
              · intro w'
                go_simp
                with_reducible rfl
              rotate_left
              · simp only [Act.put, List.setIfInBounds_toArray, List.set_cons_zero, List.set_cons_succ, i64_w, i32_w]
                rfl
              refine pure_ (i := 10) (N := some 18) (v := ?_) (a' := ?_) #[true, false, true, false, true, false, true, false, false, false, true, false, false, false, false, false] rfl rfl (any_of HT_.out (by kernel_rfl)) (fun _ _ _ h => h) (Or.inl ⟨by rfl, ?_⟩) ?_ ?_
              rotate_left
              · intro w'
                go_simp
                with_reducible rfl
              rotate_left
              · simp only [Act.put, List.setIfInBounds_toArray, List.set_cons_zero, List.set_cons_succ, i64_w, i32_w]
                rfl
              refine inv_at [1, 3, 5, 7, 8, 9, 11, 12, 13, 14, 15] (fun a0_ b a w' => ∃ (v110 : Value) (v114 : Value), a = putSel a0_ b [(1, 9, .int .i64 a0_0), (3, 11, .int .i64 a0_1), (5, 13, .int .i64 a0_2), (7, 15, .int .i64 a0_3), (8, 16, v110), (9, 17, .string t112), (11, 19, .string a0_4), (12, 20, v114), (13, 21, .string t116), (14, 22, .string (t112 ++ t116)), (15, 4, .string (t112 ++ t116))] ∧ (w'.heap[gb107]? = some (.cells #[.int .i64 a0_0, .int .i64 a0_1, .int .i64 a0_2, .int .i64 a0_3, .string a0_4, .int .i64 a0_5, .string a0_6, .string a0_7, .string a0_8, .string a0_9, .int .i64 a0_10] 25 (0, 0))) ∧ (Below w.heap.size w w') ∧ (b 8 = true → Kd.R (Kd.int .i64) 3 w' w.heap.size (fun _ => True) v110 y109) ∧ (b 12 = true → Kd.R Kd.string 9 w' w.heap.size (fun _ => True) v114 y113)) HT_.out HW_.out (by kernel_rfl) (by kernel_rfl) ?_ ?_ ?_
              · exact ⟨.bool false, .bool false, by simp only [putSel, Bool.false_eq_true, if_false], BK107.out, HB.out, fun h_ => absurd h_ (by decide), fun h_ => absurd h_ (by decide)⟩
              · skip
                clear BK107 HB
                refine steps_cons ?_ ?_
                · rintro b a w' ⟨v110, v114, ha, Q_BK107, Q_HB, Q_HO111, Q_HO115⟩ hb_ hon hoff
                  refine ⟨_, rfl, fun K hK => ?_⟩
                  have e8 : a.tmps[8]? = some (.pointer (some ⟨gb107, 0, none⟩)) := by rw [ha]; exact (putSel_off rfl).trans rfl
                  replace ha := Aside0.mk ha
                  have BK107 := Aside0.mk Q_BK107
                  have HB := Aside0.mk Q_HB
                  have hc0_ : w'.cell? ⟨gb107, 0, none⟩ = some (.int .i64 a0_0) := (blk_cell BK107.out 0).trans rfl
                  have hc1_ : w'.cell? ⟨gb107, 1, none⟩ = some (.int .i64 a0_1) := (blk_cell BK107.out 1).trans rfl
                  have hc2_ : w'.cell? ⟨gb107, 2, none⟩ = some (.int .i64 a0_2) := (blk_cell BK107.out 2).trans rfl
                  have hc3_ : w'.cell? ⟨gb107, 3, none⟩ = some (.int .i64 a0_3) := (blk_cell BK107.out 3).trans rfl
                  have hc4_ : w'.cell? ⟨gb107, 4, none⟩ = some (.string a0_4) := (blk_cell BK107.out 4).trans rfl
                  have hc5_ : w'.cell? ⟨gb107, 5, none⟩ = some (.int .i64 a0_5) := (blk_cell BK107.out 5).trans rfl
                  have hc6_ : w'.cell? ⟨gb107, 6, none⟩ = some (.string a0_6) := (blk_cell BK107.out 6).trans rfl
                  have hc7_ : w'.cell? ⟨gb107, 7, none⟩ = some (.string a0_7) := (blk_cell BK107.out 7).trans rfl
                  have hc8_ : w'.cell? ⟨gb107, 8, none⟩ = some (.string a0_8) := (blk_cell BK107.out 8).trans rfl
                  have hc9_ : w'.cell? ⟨gb107, 9, none⟩ = some (.string a0_9) := (blk_cell BK107.out 9).trans rfl
                  have hc10_ : w'.cell? ⟨gb107, 10, none⟩ = some (.int .i64 a0_10) := (blk_cell BK107.out 10).trans rfl
                  refine value_ (w1 := w') (v := .int .i64 a0_0) (by rfl) rfl ?_ ?_
                  · go_simp
                    (try simp only [i64_w])
                    try rfl
                    try (simp only [ByteArray.size_append] at *; omega)
                  refine hK.out _ _ ⟨v110, v114, (by rw [ha.out]; exact putSel_upk 0 hb_ rfl rfl rfl), Q_BK107, Q_HB, fun h0_ => absurd ((hoff 8 (by kernel_rfl)).symm.trans h0_) (by decide), Q_HO115⟩
                refine steps_cons ?_ ?_
                · rintro b a w' ⟨v110, v114, ha, Q_BK107, Q_HB, Q_HO111, Q_HO115⟩ hb_ hon hoff
                  refine ⟨_, rfl, fun K hK => ?_⟩
                  have e10 : a.tmps[10]? = some (.pointer (some ⟨gb107, 1, none⟩)) := by rw [ha]; exact (putSel_off rfl).trans rfl
                  replace ha := Aside0.mk ha
                  have BK107 := Aside0.mk Q_BK107
                  have HB := Aside0.mk Q_HB
                  have hc0_ : w'.cell? ⟨gb107, 0, none⟩ = some (.int .i64 a0_0) := (blk_cell BK107.out 0).trans rfl
                  have hc1_ : w'.cell? ⟨gb107, 1, none⟩ = some (.int .i64 a0_1) := (blk_cell BK107.out 1).trans rfl
                  have hc2_ : w'.cell? ⟨gb107, 2, none⟩ = some (.int .i64 a0_2) := (blk_cell BK107.out 2).trans rfl
                  have hc3_ : w'.cell? ⟨gb107, 3, none⟩ = some (.int .i64 a0_3) := (blk_cell BK107.out 3).trans rfl
                  have hc4_ : w'.cell? ⟨gb107, 4, none⟩ = some (.string a0_4) := (blk_cell BK107.out 4).trans rfl
                  have hc5_ : w'.cell? ⟨gb107, 5, none⟩ = some (.int .i64 a0_5) := (blk_cell BK107.out 5).trans rfl
                  have hc6_ : w'.cell? ⟨gb107, 6, none⟩ = some (.string a0_6) := (blk_cell BK107.out 6).trans rfl
                  have hc7_ : w'.cell? ⟨gb107, 7, none⟩ = some (.string a0_7) := (blk_cell BK107.out 7).trans rfl
                  have hc8_ : w'.cell? ⟨gb107, 8, none⟩ = some (.string a0_8) := (blk_cell BK107.out 8).trans rfl
                  have hc9_ : w'.cell? ⟨gb107, 9, none⟩ = some (.string a0_9) := (blk_cell BK107.out 9).trans rfl
                  have hc10_ : w'.cell? ⟨gb107, 10, none⟩ = some (.int .i64 a0_10) := (blk_cell BK107.out 10).trans rfl
                  refine value_ (w1 := w') (v := .int .i64 a0_1) (by rfl) rfl ?_ ?_
                  · go_simp
                    (try simp only [i64_w])
                    try rfl
                    try (simp only [ByteArray.size_append] at *; omega)
                  refine hK.out _ _ ⟨v110, v114, (by rw [ha.out]; exact putSel_upk 1 hb_ rfl rfl rfl), Q_BK107, Q_HB, fun h0_ => absurd ((hoff 8 (by kernel_rfl)).symm.trans h0_) (by decide), Q_HO115⟩
                refine steps_cons ?_ ?_
                · rintro b a w' ⟨v110, v114, ha, Q_BK107, Q_HB, Q_HO111, Q_HO115⟩ hb_ hon hoff
                  refine ⟨_, rfl, fun K hK => ?_⟩
                  have e12 : a.tmps[12]? = some (.pointer (some ⟨gb107, 2, none⟩)) := by rw [ha]; exact (putSel_off rfl).trans rfl
                  replace ha := Aside0.mk ha
                  have BK107 := Aside0.mk Q_BK107
                  have HB := Aside0.mk Q_HB
                  have hc0_ : w'.cell? ⟨gb107, 0, none⟩ = some (.int .i64 a0_0) := (blk_cell BK107.out 0).trans rfl
                  have hc1_ : w'.cell? ⟨gb107, 1, none⟩ = some (.int .i64 a0_1) := (blk_cell BK107.out 1).trans rfl
                  have hc2_ : w'.cell? ⟨gb107, 2, none⟩ = some (.int .i64 a0_2) := (blk_cell BK107.out 2).trans rfl
                  have hc3_ : w'.cell? ⟨gb107, 3, none⟩ = some (.int .i64 a0_3) := (blk_cell BK107.out 3).trans rfl
                  have hc4_ : w'.cell? ⟨gb107, 4, none⟩ = some (.string a0_4) := (blk_cell BK107.out 4).trans rfl
                  have hc5_ : w'.cell? ⟨gb107, 5, none⟩ = some (.int .i64 a0_5) := (blk_cell BK107.out 5).trans rfl
                  have hc6_ : w'.cell? ⟨gb107, 6, none⟩ = some (.string a0_6) := (blk_cell BK107.out 6).trans rfl
                  have hc7_ : w'.cell? ⟨gb107, 7, none⟩ = some (.string a0_7) := (blk_cell BK107.out 7).trans rfl
                  have hc8_ : w'.cell? ⟨gb107, 8, none⟩ = some (.string a0_8) := (blk_cell BK107.out 8).trans rfl
                  have hc9_ : w'.cell? ⟨gb107, 9, none⟩ = some (.string a0_9) := (blk_cell BK107.out 9).trans rfl
                  have hc10_ : w'.cell? ⟨gb107, 10, none⟩ = some (.int .i64 a0_10) := (blk_cell BK107.out 10).trans rfl
                  refine value_ (w1 := w') (v := .int .i64 a0_2) (by rfl) rfl ?_ ?_
                  · go_simp
                    (try simp only [i64_w])
                    try rfl
                    try (simp only [ByteArray.size_append] at *; omega)
                  refine hK.out _ _ ⟨v110, v114, (by rw [ha.out]; exact putSel_upk 2 hb_ rfl rfl rfl), Q_BK107, Q_HB, fun h0_ => absurd ((hoff 8 (by kernel_rfl)).symm.trans h0_) (by decide), Q_HO115⟩
                refine steps_cons ?_ ?_
                · rintro b a w' ⟨v110, v114, ha, Q_BK107, Q_HB, Q_HO111, Q_HO115⟩ hb_ hon hoff
                  refine ⟨_, rfl, fun K hK => ?_⟩
                  have e14 : a.tmps[14]? = some (.pointer (some ⟨gb107, 3, none⟩)) := by rw [ha]; exact (putSel_off rfl).trans rfl
                  replace ha := Aside0.mk ha
                  have BK107 := Aside0.mk Q_BK107
                  have HB := Aside0.mk Q_HB
                  have hc0_ : w'.cell? ⟨gb107, 0, none⟩ = some (.int .i64 a0_0) := (blk_cell BK107.out 0).trans rfl
                  have hc1_ : w'.cell? ⟨gb107, 1, none⟩ = some (.int .i64 a0_1) := (blk_cell BK107.out 1).trans rfl
                  have hc2_ : w'.cell? ⟨gb107, 2, none⟩ = some (.int .i64 a0_2) := (blk_cell BK107.out 2).trans rfl
                  have hc3_ : w'.cell? ⟨gb107, 3, none⟩ = some (.int .i64 a0_3) := (blk_cell BK107.out 3).trans rfl
                  have hc4_ : w'.cell? ⟨gb107, 4, none⟩ = some (.string a0_4) := (blk_cell BK107.out 4).trans rfl
                  have hc5_ : w'.cell? ⟨gb107, 5, none⟩ = some (.int .i64 a0_5) := (blk_cell BK107.out 5).trans rfl
                  have hc6_ : w'.cell? ⟨gb107, 6, none⟩ = some (.string a0_6) := (blk_cell BK107.out 6).trans rfl
                  have hc7_ : w'.cell? ⟨gb107, 7, none⟩ = some (.string a0_7) := (blk_cell BK107.out 7).trans rfl
                  have hc8_ : w'.cell? ⟨gb107, 8, none⟩ = some (.string a0_8) := (blk_cell BK107.out 8).trans rfl
                  have hc9_ : w'.cell? ⟨gb107, 9, none⟩ = some (.string a0_9) := (blk_cell BK107.out 9).trans rfl
                  have hc10_ : w'.cell? ⟨gb107, 10, none⟩ = some (.int .i64 a0_10) := (blk_cell BK107.out 10).trans rfl
                  refine value_ (w1 := w') (v := .int .i64 a0_3) (by rfl) rfl ?_ ?_
                  · go_simp
                    (try simp only [i64_w])
                    try rfl
                    try (simp only [ByteArray.size_append] at *; omega)
                  refine hK.out _ _ ⟨v110, v114, (by rw [ha.out]; exact putSel_upk 3 hb_ rfl rfl rfl), Q_BK107, Q_HB, fun h0_ => absurd ((hoff 8 (by kernel_rfl)).symm.trans h0_) (by decide), Q_HO115⟩
                refine steps_cons ?_ ?_
                · rintro b a w' ⟨v110, v114, ha, Q_BK107, Q_HB, Q_HO111, Q_HO115⟩ hb_ hon hoff
                  refine ⟨_, rfl, fun K hK => ?_⟩
                  have e9 : a.tmps[9]? = some (.int .i64 a0_0) := by rw [ha]; exact putSel_on (e := (1, 9, .int .i64 a0_0)) 0 rfl rfl (hon 1 (by kernel_rfl)) rfl
                  have e11 : a.tmps[11]? = some (.int .i64 a0_1) := by rw [ha]; exact putSel_on (e := (3, 11, .int .i64 a0_1)) 1 rfl rfl (hon 3 (by kernel_rfl)) rfl
                  have e13 : a.tmps[13]? = some (.int .i64 a0_2) := by rw [ha]; exact putSel_on (e := (5, 13, .int .i64 a0_2)) 2 rfl rfl (hon 5 (by kernel_rfl)) rfl
                  have e15 : a.tmps[15]? = some (.int .i64 a0_3) := by rw [ha]; exact putSel_on (e := (7, 15, .int .i64 a0_3)) 3 rfl rfl (hon 7 (by kernel_rfl)) rfl
                  replace ha := Aside0.mk ha
                  have BK107 := Aside0.mk Q_BK107
                  have HB := Aside0.mk Q_HB
                  refine Kd.R_lit_step (Kd.int .i64) _ 3 ?hg (N := 16) ?hd (xs := ([a0_0, a0_1, a0_2, a0_3] : List Int)) (inner := [.int .i64 a0_0, .int .i64 a0_1, .int .i64 a0_2, .int .i64 a0_3]) (ok := fun _ => True) (okp := fun _ => True) ?hr ?hp (fun _ hk => hk) trivial (Below.refl _ _) (Nat.le_refl _) (by simp) ?_; (case hd => rfl); (case hg => rfl); (case hr => first | (go_simp; done) | (go_simp; rfl)); (case hp => exact (Reps.one (show Kd.M (Kd.int .i64) _ _ _ a0_0 [.int .i64 a0_0] from rfl) (Reps.one (show Kd.M (Kd.int .i64) _ _ _ a0_1 [.int .i64 a0_1] from rfl) (Reps.one (show Kd.M (Kd.int .i64) _ _ _ a0_2 [.int .i64 a0_2] from rfl) (Reps.one (show Kd.M (Kd.int .i64) _ _ _ a0_3 [.int .i64 a0_3] from rfl) (Reps.none _ _))))))
                  intro v110 w18 ho19 hb hg_ hnew_
                  clear hg_ hnew_
                  (first | rw [← Ny109.out] at ho19 | (simp only [Int.reduceToNat] at ho19; rw [← Ny109.out] at ho19))
                  have n0_ := Aside0.mk (Kd.R_lower ho19 (below_size (by repeat (first | (with_reducible first | exact HB.out | apply below_alloc | apply pw_below_drewN | apply below_drew1 | refine below_set ?_ GE107.out) | exact HB.out))))
                  have n1_ := Aside0.mk (blk_below (g := gb107) (o := .cells #[.int .i64 a0_0, .int .i64 a0_1, .int .i64 a0_2, .int .i64 a0_3, .string a0_4, .int .i64 a0_5, .string a0_6, .string a0_7, .string a0_8, .string a0_9, .int .i64 a0_10] 25 (0, 0)) (by (with_reducible repeat (first | refine blk_drewN ?_ _ | refine blk_drew ?_ | refine blk_alloc ?_ _)); exact BK107.out) hb)
                  have n2_ := Aside0.mk (below_step (by repeat (first | (with_reducible first | exact HB.out | apply below_alloc | apply pw_below_drewN | apply below_drew1 | refine below_set ?_ GE107.out) | exact HB.out)) hb)
                  have z_HO115 := fun (h0_ : b 12 = true) => (show Kd.R Kd.string 9 w18 w.heap.size (fun _ => True) v114 y113 from by first | exact (Kd.R_below (by (with_reducible repeat (first | apply Kd.R_alloc | apply Kd.R_drewN | apply Kd.R_drew)); exact (Q_HO115 h0_)) hb) | exact Kd.R_mono (Kd.R_below (by (with_reducible repeat (first | apply Kd.R_alloc | apply Kd.R_drewN | apply Kd.R_drew)); exact (Q_HO115 h0_)) hb) (fun _ h_ => by first | trivial | exact h_ | exact h_.1))
                  clear BK107
                  clear HB
                  have HO111 := n0_
                  have BK107 := n1_
                  have HB := n2_
                  clear n0_ n1_ n2_
                  clear hb ho19
                  refine hK.out _ _ ⟨v110, v114, (by rw [ha.out]; exact putSel_upk 4 hb_ rfl rfl rfl), (by (with_reducible repeat (first | refine blk_drewN ?_ _ | refine blk_drew ?_ | refine blk_alloc ?_ _)); exact BK107.out), (by repeat (first | (with_reducible first | exact HB.out | apply below_alloc | apply pw_below_drewN | apply below_drew1 | refine below_set ?_ GE107.out) | exact HB.out)), fun _ => (by (with_reducible repeat (first | apply Kd.R_alloc | apply Kd.R_drewN | apply Kd.R_drew)); exact HO111.out), z_HO115⟩
                refine steps_cons ?_ ?_
                · rintro b a w' ⟨v110, v114, ha, Q_BK107, Q_HB, Q_HO111, Q_HO115⟩ hb_ hon hoff
                  refine ⟨_, rfl, fun K hK => ?_⟩
                  have e16 : a.tmps[16]? = some (v110) := by rw [ha]; exact putSel_on (e := (8, 16, v110)) 4 rfl rfl (hon 8 (by kernel_rfl)) rfl
                  replace ha := Aside0.mk ha
                  have BK107 := Aside0.mk Q_BK107
                  have HB := Aside0.mk Q_HB
                  have HO111 := Aside0.mk (Q_HO111 (hon 8 (by kernel_rfl)))
                  obtain ⟨Ao21, co21, eo21⟩ := Kd.R_slice HO111.out
                  (first | subst eo21 | (injection eo21 with f1_ f2_ f3_; have f4_ := f1_.symm; have f5_ := f3_.symm; clear f1_ f2_ f3_; subst f4_; subst f5_))
                  refine goes_ Tryd.func21 (by kernel_rfl) rfl #[.slice Ao21 y109.length co21] (by rfl) rfl rfl (by first | (simp only [List.map_toArray, List.map_cons, List.map_nil, Act.eval, Array.getD_eq_getD_getElem?, Option.getD_some, e16]; done) | (simp only [List.map_toArray, List.map_cons, List.map_nil, Act.eval, Array.getD_eq_getD_getElem?, Option.getD_some, e16]; rfl)) ?_
                  with_reducible refine (wire_nums.calls _ _ y109 t112 _ ?side1 ?side2 A4.out).mono ?_
                  (case side1 => repeat (first | exact (Kd.R_reads' HO111.out).2.2 | (with_reducible refine Kd.C_alloc ?_ _) | (with_reducible refine Kd.C_drewN ?_ _) | (with_reducible refine Kd.C_drew ?_)))
                  (case side2 => exact (Kd.R_reads' HO111.out).2.1)
                  rintro e w22 ⟨rfl, hb⟩
                  refine ⟨_, rfl, ?_⟩
                  have n0_ := Aside0.mk (Kd.R_below (by (with_reducible repeat (first | apply Kd.R_alloc | apply Kd.R_drewN | apply Kd.R_drew)); exact HO111.out) hb)
                  have n1_ := Aside0.mk (blk_below (g := gb107) (o := .cells #[.int .i64 a0_0, .int .i64 a0_1, .int .i64 a0_2, .int .i64 a0_3, .string a0_4, .int .i64 a0_5, .string a0_6, .string a0_7, .string a0_8, .string a0_9, .int .i64 a0_10] 25 (0, 0)) (by (with_reducible repeat (first | refine blk_drewN ?_ _ | refine blk_drew ?_ | refine blk_alloc ?_ _)); exact BK107.out) hb)
                  have n2_ := Aside0.mk (below_step (by repeat (first | (with_reducible first | exact HB.out | apply below_alloc | apply pw_below_drewN | apply below_drew1 | refine below_set ?_ GE107.out) | exact HB.out)) hb)
                  have z_HO115 := fun (h0_ : b 12 = true) => (show Kd.R Kd.string 9 w22 w.heap.size (fun _ => True) v114 y113 from by first | exact (Kd.R_below (by (with_reducible repeat (first | apply Kd.R_alloc | apply Kd.R_drewN | apply Kd.R_drew)); exact (Q_HO115 h0_)) hb) | exact Kd.R_mono (Kd.R_below (by (with_reducible repeat (first | apply Kd.R_alloc | apply Kd.R_drewN | apply Kd.R_drew)); exact (Q_HO115 h0_)) hb) (fun _ h_ => by first | trivial | exact h_ | exact h_.1))
                  clear HO111
                  clear BK107
                  clear HB
                  have HO111 := n0_
                  have BK107 := n1_
                  have HB := n2_
                  clear n0_ n1_ n2_
                  (try clear hb)
                  (try clear hb2)
                  (try clear hk)
                  (try clear hi)
                  refine hK.out _ _ ⟨.slice Ao21 y109.length co21, v114, (by rw [ha.out]; exact putSel_upk 5 hb_ rfl rfl rfl), (by (with_reducible repeat (first | refine blk_drewN ?_ _ | refine blk_drew ?_ | refine blk_alloc ?_ _)); exact BK107.out), (by repeat (first | (with_reducible first | exact HB.out | apply below_alloc | apply pw_below_drewN | apply below_drew1 | refine below_set ?_ GE107.out) | exact HB.out)), fun _ => (by (with_reducible repeat (first | apply Kd.R_alloc | apply Kd.R_drewN | apply Kd.R_drew)); exact HO111.out), z_HO115⟩
                refine steps_cons ?_ ?_
                · rintro b a w' ⟨v110, v114, ha, Q_BK107, Q_HB, Q_HO111, Q_HO115⟩ hb_ hon hoff
                  refine ⟨_, rfl, fun K hK => ?_⟩
                  have e18 : a.tmps[18]? = some (.pointer (some ⟨gb107, 4, none⟩)) := by rw [ha]; exact (putSel_off rfl).trans rfl
                  replace ha := Aside0.mk ha
                  have BK107 := Aside0.mk Q_BK107
                  have HB := Aside0.mk Q_HB
                  have hc0_ : w'.cell? ⟨gb107, 0, none⟩ = some (.int .i64 a0_0) := (blk_cell BK107.out 0).trans rfl
                  have hc1_ : w'.cell? ⟨gb107, 1, none⟩ = some (.int .i64 a0_1) := (blk_cell BK107.out 1).trans rfl
                  have hc2_ : w'.cell? ⟨gb107, 2, none⟩ = some (.int .i64 a0_2) := (blk_cell BK107.out 2).trans rfl
                  have hc3_ : w'.cell? ⟨gb107, 3, none⟩ = some (.int .i64 a0_3) := (blk_cell BK107.out 3).trans rfl
                  have hc4_ : w'.cell? ⟨gb107, 4, none⟩ = some (.string a0_4) := (blk_cell BK107.out 4).trans rfl
                  have hc5_ : w'.cell? ⟨gb107, 5, none⟩ = some (.int .i64 a0_5) := (blk_cell BK107.out 5).trans rfl
                  have hc6_ : w'.cell? ⟨gb107, 6, none⟩ = some (.string a0_6) := (blk_cell BK107.out 6).trans rfl
                  have hc7_ : w'.cell? ⟨gb107, 7, none⟩ = some (.string a0_7) := (blk_cell BK107.out 7).trans rfl
                  have hc8_ : w'.cell? ⟨gb107, 8, none⟩ = some (.string a0_8) := (blk_cell BK107.out 8).trans rfl
                  have hc9_ : w'.cell? ⟨gb107, 9, none⟩ = some (.string a0_9) := (blk_cell BK107.out 9).trans rfl
                  have hc10_ : w'.cell? ⟨gb107, 10, none⟩ = some (.int .i64 a0_10) := (blk_cell BK107.out 10).trans rfl
                  refine value_ (w1 := w') (v := .string a0_4) (by rfl) rfl ?_ ?_
                  · go_simp
                    (try simp only [i64_w])
                    try rfl
                    try (simp only [ByteArray.size_append] at *; omega)
                  refine hK.out _ _ ⟨v110, v114, (by rw [ha.out]; exact putSel_upk 6 hb_ rfl rfl rfl), Q_BK107, Q_HB, Q_HO111, fun h0_ => absurd ((hoff 12 (by kernel_rfl)).symm.trans h0_) (by decide)⟩
                refine steps_cons ?_ ?_
                · rintro b a w' ⟨v110, v114, ha, Q_BK107, Q_HB, Q_HO111, Q_HO115⟩ hb_ hon hoff
                  refine ⟨_, rfl, fun K hK => ?_⟩
                  have e19 : a.tmps[19]? = some (.string a0_4) := by rw [ha]; exact putSel_on (e := (11, 19, .string a0_4)) 6 rfl rfl (hon 11 (by kernel_rfl)) rfl
                  replace ha := Aside0.mk ha
                  have BK107 := Aside0.mk Q_BK107
                  have HB := Aside0.mk Q_HB
                  refine Kd.R_lit_step Kd.string _ 9 ?hg (N := 20) ?hd (xs := ([a0_4] : List ByteArray)) (inner := [.string a0_4]) (ok := fun _ => True) (okp := fun _ => True) ?hr ?hp (fun _ hk => hk) trivial (Below.refl _ _) (Nat.le_refl _) (by simp) ?_; (case hd => rfl); (case hg => rfl); (case hr => first | (go_simp; done) | (go_simp; rfl)); (case hp => exact (Reps.one (show Kd.M Kd.string _ _ _ a0_4 [.string a0_4] from rfl) (Reps.none _ _)))
                  intro v114 w18 ho19 hb hg_ hnew_
                  clear hg_ hnew_
                  (first | rw [← Ny113.out] at ho19 | (simp only [Int.reduceToNat] at ho19; rw [← Ny113.out] at ho19))
                  have n0_ := Aside0.mk (Kd.R_lower ho19 (below_size (by repeat (first | (with_reducible first | exact HB.out | apply below_alloc | apply pw_below_drewN | apply below_drew1 | refine below_set ?_ GE107.out) | exact HB.out))))
                  have n1_ := Aside0.mk (blk_below (g := gb107) (o := .cells #[.int .i64 a0_0, .int .i64 a0_1, .int .i64 a0_2, .int .i64 a0_3, .string a0_4, .int .i64 a0_5, .string a0_6, .string a0_7, .string a0_8, .string a0_9, .int .i64 a0_10] 25 (0, 0)) (by (with_reducible repeat (first | refine blk_drewN ?_ _ | refine blk_drew ?_ | refine blk_alloc ?_ _)); exact BK107.out) hb)
                  have n2_ := Aside0.mk (below_step (by repeat (first | (with_reducible first | exact HB.out | apply below_alloc | apply pw_below_drewN | apply below_drew1 | refine below_set ?_ GE107.out) | exact HB.out)) hb)
                  have z_HO111 := fun (h0_ : b 8 = true) => (show Kd.R (Kd.int .i64) 3 w18 w.heap.size (fun _ => True) v110 y109 from by first | exact (Kd.R_below (by (with_reducible repeat (first | apply Kd.R_alloc | apply Kd.R_drewN | apply Kd.R_drew)); exact (Q_HO111 h0_)) hb) | exact Kd.R_mono (Kd.R_below (by (with_reducible repeat (first | apply Kd.R_alloc | apply Kd.R_drewN | apply Kd.R_drew)); exact (Q_HO111 h0_)) hb) (fun _ h_ => by first | trivial | exact h_ | exact h_.1))
                  clear BK107
                  clear HB
                  have HO115 := n0_
                  have BK107 := n1_
                  have HB := n2_
                  clear n0_ n1_ n2_
                  clear hb ho19
                  refine hK.out _ _ ⟨v110, v114, (by rw [ha.out]; exact putSel_upk 7 hb_ rfl rfl rfl), (by (with_reducible repeat (first | refine blk_drewN ?_ _ | refine blk_drew ?_ | refine blk_alloc ?_ _)); exact BK107.out), (by repeat (first | (with_reducible first | exact HB.out | apply below_alloc | apply pw_below_drewN | apply below_drew1 | refine below_set ?_ GE107.out) | exact HB.out)), z_HO111, fun _ => (by (with_reducible repeat (first | apply Kd.R_alloc | apply Kd.R_drewN | apply Kd.R_drew)); exact HO115.out)⟩
                refine steps_cons ?_ ?_
                · rintro b a w' ⟨v110, v114, ha, Q_BK107, Q_HB, Q_HO111, Q_HO115⟩ hb_ hon hoff
                  refine ⟨_, rfl, fun K hK => ?_⟩
                  have e20 : a.tmps[20]? = some (v114) := by rw [ha]; exact putSel_on (e := (12, 20, v114)) 7 rfl rfl (hon 12 (by kernel_rfl)) rfl
                  replace ha := Aside0.mk ha
                  have BK107 := Aside0.mk Q_BK107
                  have HB := Aside0.mk Q_HB
                  have HO111 := Aside0.mk (Q_HO111 (hon 8 (by kernel_rfl)))
                  have HO115 := Aside0.mk (Q_HO115 (hon 12 (by kernel_rfl)))
                  obtain ⟨Ao25, co25, eo25⟩ := Kd.R_slice HO115.out
                  (first | subst eo25 | (injection eo25 with f1_ f2_ f3_; have f4_ := f1_.symm; have f5_ := f3_.symm; clear f1_ f2_ f3_; subst f4_; subst f5_))
                  refine goes_ Tryd.func22 (by kernel_rfl) rfl #[.slice Ao25 y113.length co25] (by rfl) rfl rfl (by first | (simp only [List.map_toArray, List.map_cons, List.map_nil, Act.eval, Array.getD_eq_getD_getElem?, Option.getD_some, e20]; done) | (simp only [List.map_toArray, List.map_cons, List.map_nil, Act.eval, Array.getD_eq_getD_getElem?, Option.getD_some, e20]; rfl)) ?_
                  with_reducible refine (wire_texts.calls _ _ y113 t116 _ ?side1 ?side2 A5.out).mono ?_
                  (case side1 => repeat (first | exact (Kd.R_reads' HO115.out).2.2 | (with_reducible refine Kd.C_alloc ?_ _) | (with_reducible refine Kd.C_drewN ?_ _) | (with_reducible refine Kd.C_drew ?_)))
                  (case side2 => exact (Kd.R_reads' HO115.out).2.1)
                  rintro e w26 ⟨rfl, hb⟩
                  refine ⟨_, rfl, ?_⟩
                  have n0_ := Aside0.mk (Kd.R_below (by (with_reducible repeat (first | apply Kd.R_alloc | apply Kd.R_drewN | apply Kd.R_drew)); exact HO111.out) hb)
                  have n1_ := Aside0.mk (Kd.R_below (by (with_reducible repeat (first | apply Kd.R_alloc | apply Kd.R_drewN | apply Kd.R_drew)); exact HO115.out) hb)
                  have n2_ := Aside0.mk (blk_below (g := gb107) (o := .cells #[.int .i64 a0_0, .int .i64 a0_1, .int .i64 a0_2, .int .i64 a0_3, .string a0_4, .int .i64 a0_5, .string a0_6, .string a0_7, .string a0_8, .string a0_9, .int .i64 a0_10] 25 (0, 0)) (by (with_reducible repeat (first | refine blk_drewN ?_ _ | refine blk_drew ?_ | refine blk_alloc ?_ _)); exact BK107.out) hb)
                  have n3_ := Aside0.mk (below_step (by repeat (first | (with_reducible first | exact HB.out | apply below_alloc | apply pw_below_drewN | apply below_drew1 | refine below_set ?_ GE107.out) | exact HB.out)) hb)
                  clear HO111
                  clear HO115
                  clear BK107
                  clear HB
                  have HO111 := n0_
                  have HO115 := n1_
                  have BK107 := n2_
                  have HB := n3_
                  clear n0_ n1_ n2_ n3_
                  (try clear hb)
                  (try clear hb2)
                  (try clear hk)
                  (try clear hi)
                  refine hK.out _ _ ⟨v110, .slice Ao25 y113.length co25, (by rw [ha.out]; exact putSel_upk 8 hb_ rfl rfl rfl), (by (with_reducible repeat (first | refine blk_drewN ?_ _ | refine blk_drew ?_ | refine blk_alloc ?_ _)); exact BK107.out), (by repeat (first | (with_reducible first | exact HB.out | apply below_alloc | apply pw_below_drewN | apply below_drew1 | refine below_set ?_ GE107.out) | exact HB.out)), fun _ => (by (with_reducible repeat (first | apply Kd.R_alloc | apply Kd.R_drewN | apply Kd.R_drew)); exact HO111.out), fun _ => (by (with_reducible repeat (first | apply Kd.R_alloc | apply Kd.R_drewN | apply Kd.R_drew)); exact HO115.out)⟩
                refine steps_cons ?_ ?_
                · rintro b a w' ⟨v110, v114, ha, Q_BK107, Q_HB, Q_HO111, Q_HO115⟩ hb_ hon hoff
                  refine ⟨_, rfl, fun K hK => ?_⟩
                  have e17 : a.tmps[17]? = some (.string t112) := by rw [ha]; exact putSel_on (e := (9, 17, .string t112)) 5 rfl rfl (hon 9 (by kernel_rfl)) rfl
                  have e21 : a.tmps[21]? = some (.string t116) := by rw [ha]; exact putSel_on (e := (13, 21, .string t116)) 8 rfl rfl (hon 13 (by kernel_rfl)) rfl
                  replace ha := Aside0.mk ha
                  have BK107 := Aside0.mk Q_BK107
                  have HB := Aside0.mk Q_HB
                  have HO111 := Aside0.mk (Q_HO111 (hon 8 (by kernel_rfl)))
                  have HO115 := Aside0.mk (Q_HO115 (hon 12 (by kernel_rfl)))
                  refine value_ (w1 := w') (v := .string (t112 ++ t116)) (by rfl) rfl ?_ ?_
                  · go_simp
                    (try simp only [i64_w])
                    try rfl
                    try (simp only [ByteArray.size_append] at *; omega)
                  refine hK.out _ _ ⟨v110, v114, (by rw [ha.out]; exact putSel_upk 9 hb_ rfl rfl rfl), Q_BK107, Q_HB, Q_HO111, Q_HO115⟩
                refine steps_cons ?_ ?_
                · rintro b a w' ⟨v110, v114, ha, Q_BK107, Q_HB, Q_HO111, Q_HO115⟩ hb_ hon hoff
                  refine ⟨_, rfl, fun K hK => ?_⟩
                  have e22 : a.tmps[22]? = some (.string (t112 ++ t116)) := by rw [ha]; exact putSel_on (e := (14, 22, .string (t112 ++ t116))) 9 rfl rfl (hon 14 (by kernel_rfl)) rfl
                  replace ha := Aside0.mk ha
                  have BK107 := Aside0.mk Q_BK107
                  have HB := Aside0.mk Q_HB
                  have HO111 := Aside0.mk (Q_HO111 (hon 8 (by kernel_rfl)))
                  have HO115 := Aside0.mk (Q_HO115 (hon 12 (by kernel_rfl)))
                  refine value_ (w1 := w') (v := .string (t112 ++ t116)) (by rfl) rfl ?_ ?_
                  · go_simp
                    (try simp only [i64_w])
                    try rfl
                    try (simp only [ByteArray.size_append] at *; omega)
                  refine hK.out _ _ ⟨v110, v114, (by rw [ha.out]; exact putSel_upk 10 hb_ rfl rfl rfl), Q_BK107, Q_HB, Q_HO111, Q_HO115⟩
                exact steps_nil
              rintro b a w26 hall ⟨v110, v114, ha, Q_BK107, Q_HB, Q_HO111, Q_HO115⟩
              clear BK107 HB
              have hb1_ := hall 1 (by kernel_rfl)
              have hb3_ := hall 3 (by kernel_rfl)
              have hb5_ := hall 5 (by kernel_rfl)
              have hb7_ := hall 7 (by kernel_rfl)
              have hb8_ := hall 8 (by kernel_rfl)
              have hb9_ := hall 9 (by kernel_rfl)
              have hb11_ := hall 11 (by kernel_rfl)
              have hb12_ := hall 12 (by kernel_rfl)
              have hb13_ := hall 13 (by kernel_rfl)
              have hb14_ := hall 14 (by kernel_rfl)
              have hb15_ := hall 15 (by kernel_rfl)
              subst ha
              simp only [putSel, hb1_, hb3_, hb5_, hb7_, hb8_, hb9_, hb11_, hb12_, hb13_, hb14_, hb15_, if_true, Act.put, List.setIfInBounds_toArray, List.set_cons_zero, List.set_cons_succ]
              have BK107 := Aside0.mk Q_BK107
              clear Q_BK107
              have HB := Aside0.mk Q_HB
              clear Q_HB
              have HO111 := Aside0.mk (Q_HO111 hb8_)
              clear Q_HO111
              have HO115 := Aside0.mk (Q_HO115 hb12_)
              clear Q_HO115
              clear hall hb1_ hb3_ hb5_ hb7_ hb8_ hb9_ hb11_ hb12_ hb13_ hb14_ hb15_
              have hcz27_0 : w26.cell? ⟨gb107, 0, none⟩ = some (.int .i64 a0_0) := (blk_cell BK107.out 0).trans rfl
              have hcz27_1 : w26.cell? ⟨gb107, 1, none⟩ = some (.int .i64 a0_1) := (blk_cell BK107.out 1).trans rfl
              have hcz27_2 : w26.cell? ⟨gb107, 2, none⟩ = some (.int .i64 a0_2) := (blk_cell BK107.out 2).trans rfl
              have hcz27_3 : w26.cell? ⟨gb107, 3, none⟩ = some (.int .i64 a0_3) := (blk_cell BK107.out 3).trans rfl
              have hcz27_4 : w26.cell? ⟨gb107, 4, none⟩ = some (.string a0_4) := (blk_cell BK107.out 4).trans rfl
              have hcz27_5 : w26.cell? ⟨gb107, 5, none⟩ = some (.int .i64 a0_5) := (blk_cell BK107.out 5).trans rfl
              have hcz27_6 : w26.cell? ⟨gb107, 6, none⟩ = some (.string a0_6) := (blk_cell BK107.out 6).trans rfl
              have hcz27_7 : w26.cell? ⟨gb107, 7, none⟩ = some (.string a0_7) := (blk_cell BK107.out 7).trans rfl
              have hcz27_8 : w26.cell? ⟨gb107, 8, none⟩ = some (.string a0_8) := (blk_cell BK107.out 8).trans rfl
              have hcz27_9 : w26.cell? ⟨gb107, 9, none⟩ = some (.string a0_9) := (blk_cell BK107.out 9).trans rfl
              have hcz27_10 : w26.cell? ⟨gb107, 10, none⟩ = some (.int .i64 a0_10) := (blk_cell BK107.out 10).trans rfl
              have hfz27_0 := blk_frozen BK107.out 0
              have hfz27_1 := blk_frozen BK107.out 1
              have hfz27_2 := blk_frozen BK107.out 2
              have hfz27_3 := blk_frozen BK107.out 3
              have hfz27_4 := blk_frozen BK107.out 4
              have hfz27_5 := blk_frozen BK107.out 5
              have hfz27_6 := blk_frozen BK107.out 6
              have hfz27_7 := blk_frozen BK107.out 7
              have hfz27_8 := blk_frozen BK107.out 8
              have hfz27_9 := blk_frozen BK107.out 9
              have hfz27_10 := blk_frozen BK107.out 10
              try go_wp2
              have n0_ := Aside0.mk (Kd.R_drew HO111.out)
              have n1_ := Aside0.mk (Kd.R_drew HO115.out)
              have n2_ := Aside0.mk (blk_drew BK107.out)
              have n3_ := Aside0.mk (below_drew1 HB.out)
              clear HO111
              clear HO115
              clear BK107
              clear HB
              have HO111 := n0_
              have HO115 := n1_
              have BK107 := n2_
              have HB := n3_
              clear n0_ n1_ n2_ n3_
              refine start_ (n := 29) (S := fun w' => True) (ds := []) #[false, false, false, false, false, false, false, false, false, false, false, false, false, false, false, false, false, false, false, false, false, false, false, false, false, false, false, false, false] (by kernel_rfl) rfl rfl trivial (fun hHeld => ?_); refine with_tabW wire_Req.tab5 wire_Req.bits5 (fun HT_ HW_ => ?_)
              generalize w26.drew = w28 at HO111 HO115 BK107 HB hHeld ⊢
              refine pure_ (i := 0) (N := some 26) (v := ?_) (a' := ?_) #[true, false, false, false, false, false, false, false, false, false, false, false, false, false, false, false, false, false, false, false, false, false, false, false, false, false, false, false, false] rfl rfl (any_of HT_.out (by kernel_rfl)) (fun _ _ _ h => h) (Or.inl ⟨by rfl, ?_⟩) ?_ ?_
              rotate_left
              · intro w'
                go_simp
                with_reducible rfl
              rotate_left
              · simp only [Act.put, List.setIfInBounds_toArray, List.set_cons_zero, List.set_cons_succ, i64_w, i32_w]
                rfl
              refine pure_ (i := 1) (N := some 27) (v := ?_) (a' := ?_) #[true, true, false, false, false, false, false, false, false, false, false, false, false, false, false, false, false, false, false, false, false, false, false, false, false, false, false, false, false] rfl rfl (any_of HT_.out (by kernel_rfl)) (fun _ _ _ h => h) (Or.inl ⟨by rfl, ?_⟩) ?_ ?_
              rotate_left
              · intro w'
                go_simp
                with_reducible rfl
              rotate_left
              · simp only [Act.put, List.setIfInBounds_toArray, List.set_cons_zero, List.set_cons_succ, i64_w, i32_w]
                rfl
              refine pure_ (i := 2) (N := some 28) (v := ?_) (a' := ?_) #[true, true, true, false, false, false, false, false, false, false, false, false, false, false, false, false, false, false, false, false, false, false, false, false, false, false, false, false, false] rfl rfl (any_of HT_.out (by kernel_rfl)) (fun _ _ _ h => h) (Or.inl ⟨by rfl, ?_⟩) ?_ ?_
              rotate_left
              · intro w'
                go_simp
                with_reducible rfl
              rotate_left
              · simp only [Act.put, List.setIfInBounds_toArray, List.set_cons_zero, List.set_cons_succ, i64_w, i32_w]
                rfl
              refine pure_ (i := 6) (N := some 32) (v := ?_) (a' := ?_) #[true, true, true, false, false, false, true, false, false, false, false, false, false, false, false, false, false, false, false, false, false, false, false, false, false, false, false, false, false] rfl rfl (any_of HT_.out (by kernel_rfl)) (fun _ _ _ h => h) (Or.inl ⟨by rfl, ?_⟩) ?_ ?_
              rotate_left
              · intro w'
                go_simp
                with_reducible rfl
              rotate_left
              · simp only [Act.put, List.setIfInBounds_toArray, List.set_cons_zero, List.set_cons_succ, i64_w, i32_w]
                rfl
              refine pure_ (i := 7) (N := some 33) (v := ?_) (a' := ?_) #[true, true, true, false, false, false, true, true, false, false, false, false, false, false, false, false, false, false, false, false, false, false, false, false, false, false, false, false, false] rfl rfl (any_of HT_.out (by kernel_rfl)) (fun _ _ _ h => h) (Or.inl ⟨by rfl, ?_⟩) ?_ ?_
              rotate_left
              · intro w'
                go_simp
                with_reducible rfl
              rotate_left
              · simp only [Act.put, List.setIfInBounds_toArray, List.set_cons_zero, List.set_cons_succ, i64_w, i32_w]
                rfl
              refine pure_ (i := 9) (N := some 35) (v := ?_) (a' := ?_) #[true, true, true, false, false, false, true, true, false, true, false, false, false, false, false, false, false, false, false, false, false, false, false, false, false, false, false, false, false] rfl rfl (any_of HT_.out (by kernel_rfl)) (fun _ _ _ h => h) (Or.inl ⟨by rfl, ?_⟩) ?_ ?_
              rotate_left
              · intro w'
                go_simp
                with_reducible rfl
              rotate_left
              · simp only [Act.put, List.setIfInBounds_toArray, List.set_cons_zero, List.set_cons_succ, i64_w, i32_w]
                rfl
              refine pure_ (i := 10) (N := some 36) (v := ?_) (a' := ?_) #[true, true, true, false, false, false, true, true, false, true, true, false, false, false, false, false, false, false, false, false, false, false, false, false, false, false, false, false, false] rfl rfl (any_of HT_.out (by kernel_rfl)) (fun _ _ _ h => h) (Or.inl ⟨by rfl, ?_⟩) ?_ ?_
              rotate_left
              · intro w'
                go_simp
                with_reducible rfl
              rotate_left
              · simp only [Act.put, List.setIfInBounds_toArray, List.set_cons_zero, List.set_cons_succ, i64_w, i32_w]
                rfl
              refine pure_ (i := 12) (N := some 38) (v := ?_) (a' := ?_) #[true, true, true, false, false, false, true, true, false, true, true, false, true, false, false, false, false, false, false, false, false, false, false, false, false, false, false, false, false] rfl rfl (any_of HT_.out (by kernel_rfl)) (fun _ _ _ h => h) (Or.inl ⟨by rfl, ?_⟩) ?_ ?_
              rotate_left
              · intro w'
                go_simp
                with_reducible rfl
              rotate_left
              · simp only [Act.put, List.setIfInBounds_toArray, List.set_cons_zero, List.set_cons_succ, i64_w, i32_w]
                rfl
              refine pure_ (i := 13) (N := some 39) (v := ?_) (a' := ?_) #[true, true, true, false, false, false, true, true, false, true, true, false, true, true, false, false, false, false, false, false, false, false, false, false, false, false, false, false, false] rfl rfl (any_of HT_.out (by kernel_rfl)) (fun _ _ _ h => h) (Or.inl ⟨by rfl, ?_⟩) ?_ ?_
              rotate_left
              · intro w'
                go_simp
                with_reducible rfl
              rotate_left
              · simp only [Act.put, List.setIfInBounds_toArray, List.set_cons_zero, List.set_cons_succ, i64_w, i32_w]
                rfl
              refine pure_ (i := 15) (N := some 41) (v := ?_) (a' := ?_) #[true, true, true, false, false, false, true, true, false, true, true, false, true, true, false, true, false, false, false, false, false, false, false, false, false, false, false, false, false] rfl rfl (any_of HT_.out (by kernel_rfl)) (fun _ _ _ h => h) (Or.inl ⟨by rfl, ?_⟩) ?_ ?_
              rotate_left
              · intro w'
                go_simp
                with_reducible rfl
              rotate_left
              · simp only [Act.put, List.setIfInBounds_toArray, List.set_cons_zero, List.set_cons_succ, i64_w, i32_w]
                rfl
              refine pure_ (i := 16) (N := some 42) (v := ?_) (a' := ?_) #[true, true, true, false, false, false, true, true, false, true, true, false, true, true, false, true, true, false, false, false, false, false, false, false, false, false, false, false, false] rfl rfl (any_of HT_.out (by kernel_rfl)) (fun _ _ _ h => h) (Or.inl ⟨by rfl, ?_⟩) ?_ ?_
              rotate_left
              · intro w'
                go_simp
                with_reducible rfl
              rotate_left
              · simp only [Act.put, List.setIfInBounds_toArray, List.set_cons_zero, List.set_cons_succ, i64_w, i32_w]
                rfl
              refine pure_ (i := 21) (N := some 47) (v := ?_) (a' := ?_) #[true, true, true, false, false, false, true, true, false, true, true, false, true, true, false, true, true, false, false, false, false, true, false, false, false, false, false, false, false] rfl rfl (any_of HT_.out (by kernel_rfl)) (fun _ _ _ h => h) (Or.inl ⟨by rfl, ?_⟩) ?_ ?_
              rotate_left
              · intro w'
                go_simp
                with_reducible rfl
              rotate_left
              · simp only [Act.put, List.setIfInBounds_toArray, List.set_cons_zero, List.set_cons_succ, i64_w, i32_w]
                rfl
              refine pure_ (i := 22) (N := some 48) (v := ?_) (a' := ?_) #[true, true, true, false, false, false, true, true, false, true, true, false, true, true, false, true, true, false, false, false, false, true, true, false, false, false, false, false, false] rfl rfl (any_of HT_.out (by kernel_rfl)) (fun _ _ _ h => h) (Or.inl ⟨by rfl, ?_⟩) ?_ ?_
              rotate_left
              · intro w'
                go_simp
                with_reducible rfl
              rotate_left
              · simp only [Act.put, List.setIfInBounds_toArray, List.set_cons_zero, List.set_cons_succ, i64_w, i32_w]
                rfl
              refine inv_at [3, 4, 5, 8, 11, 14, 17, 18, 19, 20, 23, 24, 25, 26, 27, 28] (fun a0_ b a w' => ∃ (v118 : Value) (v122 : Value) (v126 : Value), a = putSel a0_ b [(3, 29, .int .i64 a0_5), (4, 30, v118), (5, 31, .string t120), (8, 34, .string a0_6), (11, 37, .string a0_7), (14, 40, .string a0_8), (17, 43, .string a0_9), (18, 44, v122), (19, 45, .string t124), (20, 46, .string (t120 ++ t124)), (23, 49, .int .i64 a0_10), (24, 50, v126), (25, 51, .string t128), (26, 52, .string ((t120 ++ t124) ++ t128)), (27, 53, .string ((t112 ++ t116) ++ ((t120 ++ t124) ++ t128))), (28, 4, .string ((t112 ++ t116) ++ ((t120 ++ t124) ++ t128)))] ∧ (Kd.R (Kd.int .i64) 3 w' w.heap.size (fun _ => True) v110 y109) ∧ (Kd.R Kd.string 9 w' w.heap.size (fun _ => True) v114 y113) ∧ (w'.heap[gb107]? = some (.cells #[.int .i64 a0_0, .int .i64 a0_1, .int .i64 a0_2, .int .i64 a0_3, .string a0_4, .int .i64 a0_5, .string a0_6, .string a0_7, .string a0_8, .string a0_9, .int .i64 a0_10] 25 (0, 0))) ∧ (Below w.heap.size w w') ∧ (b 4 = true → Kd.R (Kd.int .i64) 3 w' w.heap.size (fun k_ => some k_ ≠ (v110 : Value).ownBlock) v118 y117) ∧ (b 18 = true → Kd.R Kd.string 9 w' w.heap.size (fun k_ => some k_ ≠ (v114 : Value).ownBlock) v122 y121) ∧ (b 24 = true → Kd.R (Kd.int .i64) 3 w' w.heap.size (fun k_ => some k_ ≠ (v110 : Value).ownBlock) v126 y125)) HT_.out HW_.out (by kernel_rfl) (by kernel_rfl) ?_ ?_ ?_
              · exact ⟨.bool false, .bool false, .bool false, by simp only [putSel, Bool.false_eq_true, if_false], HO111.out, HO115.out, BK107.out, HB.out, fun h_ => absurd h_ (by decide), fun h_ => absurd h_ (by decide), fun h_ => absurd h_ (by decide)⟩
              · skip
                clear BK107 HB HO111 HO115
                refine steps_cons ?_ ?_
                · rintro b a w' ⟨v118, v122, v126, ha, Q_HO111, Q_HO115, Q_BK107, Q_HB, Q_HO119, Q_HO123, Q_HO127⟩ hb_ hon hoff
                  refine ⟨_, rfl, fun K hK => ?_⟩
                  have e28 : a.tmps[28]? = some (.pointer (some ⟨gb107, 5, none⟩)) := by rw [ha]; exact (putSel_off rfl).trans rfl
                  replace ha := Aside0.mk ha
                  have HO111 := Aside0.mk Q_HO111
                  have HO115 := Aside0.mk Q_HO115
                  have BK107 := Aside0.mk Q_BK107
                  have HB := Aside0.mk Q_HB
                  have hc0_ : w'.cell? ⟨gb107, 0, none⟩ = some (.int .i64 a0_0) := (blk_cell BK107.out 0).trans rfl
                  have hc1_ : w'.cell? ⟨gb107, 1, none⟩ = some (.int .i64 a0_1) := (blk_cell BK107.out 1).trans rfl
                  have hc2_ : w'.cell? ⟨gb107, 2, none⟩ = some (.int .i64 a0_2) := (blk_cell BK107.out 2).trans rfl
                  have hc3_ : w'.cell? ⟨gb107, 3, none⟩ = some (.int .i64 a0_3) := (blk_cell BK107.out 3).trans rfl
                  have hc4_ : w'.cell? ⟨gb107, 4, none⟩ = some (.string a0_4) := (blk_cell BK107.out 4).trans rfl
                  have hc5_ : w'.cell? ⟨gb107, 5, none⟩ = some (.int .i64 a0_5) := (blk_cell BK107.out 5).trans rfl
                  have hc6_ : w'.cell? ⟨gb107, 6, none⟩ = some (.string a0_6) := (blk_cell BK107.out 6).trans rfl
                  have hc7_ : w'.cell? ⟨gb107, 7, none⟩ = some (.string a0_7) := (blk_cell BK107.out 7).trans rfl
                  have hc8_ : w'.cell? ⟨gb107, 8, none⟩ = some (.string a0_8) := (blk_cell BK107.out 8).trans rfl
                  have hc9_ : w'.cell? ⟨gb107, 9, none⟩ = some (.string a0_9) := (blk_cell BK107.out 9).trans rfl
                  have hc10_ : w'.cell? ⟨gb107, 10, none⟩ = some (.int .i64 a0_10) := (blk_cell BK107.out 10).trans rfl
                  refine value_ (w1 := w') (v := .int .i64 a0_5) (by rfl) rfl ?_ ?_
                  · go_simp
                    (try simp only [i64_w])
                    try rfl
                    try (simp only [ByteArray.size_append] at *; omega)
                  refine hK.out _ _ ⟨v118, v122, v126, (by rw [ha.out]; exact putSel_upk 0 hb_ rfl rfl rfl), Q_HO111, Q_HO115, Q_BK107, Q_HB, fun h0_ => absurd ((hoff 4 (by kernel_rfl)).symm.trans h0_) (by decide), Q_HO123, Q_HO127⟩
                refine steps_cons ?_ ?_
                · rintro b a w' ⟨v118, v122, v126, ha, Q_HO111, Q_HO115, Q_BK107, Q_HB, Q_HO119, Q_HO123, Q_HO127⟩ hb_ hon hoff
                  refine ⟨_, rfl, fun K hK => ?_⟩
                  have e29 : a.tmps[29]? = some (.int .i64 a0_5) := by rw [ha]; exact putSel_on (e := (3, 29, .int .i64 a0_5)) 0 rfl rfl (hon 3 (by kernel_rfl)) rfl
                  replace ha := Aside0.mk ha
                  have HO111 := Aside0.mk Q_HO111
                  have HO115 := Aside0.mk Q_HO115
                  have BK107 := Aside0.mk Q_BK107
                  have HB := Aside0.mk Q_HB
                  refine Kd.R_lit_step (Kd.int .i64) _ 3 ?hg (N := 30) ?hd (xs := ([a0_5] : List Int)) (inner := [.int .i64 a0_5]) (ok := fun _ => True) (okp := fun _ => True) ?hr ?hp (fun _ hk => hk) trivial (Below.refl _ _) (Nat.le_refl _) (by simp) ?_; (case hd => rfl); (case hg => rfl); (case hr => first | (go_simp; done) | (go_simp; rfl)); (case hp => exact (Reps.one (show Kd.M (Kd.int .i64) _ _ _ a0_5 [.int .i64 a0_5] from rfl) (Reps.none _ _)))
                  intro v118 w29 ho30 hb hg_ hnew_
                  clear hg_ hnew_
                  (first | rw [← Ny117.out] at ho30 | (simp only [Int.reduceToNat] at ho30; rw [← Ny117.out] at ho30))
                  have n0_ := Aside0.mk (Kd.R_elder' (by (with_reducible repeat (first | apply Kd.R_alloc | apply Kd.R_drewN | apply Kd.R_drew)); exact HO111.out) (Kd.R_base ho30) hb)
                  have n1_ := Aside0.mk (Kd.R_below (by (with_reducible repeat (first | apply Kd.R_alloc | apply Kd.R_drewN | apply Kd.R_drew)); exact HO115.out) hb)
                  have n2_ := Aside0.mk (Kd.R_lower (Kd.R_new' ho30 (Kd.R_lt (by (with_reducible repeat (first | apply Kd.R_alloc | apply Kd.R_drewN | apply Kd.R_drew)); exact HO111.out))) (below_size (by repeat (first | (with_reducible first | exact HB.out | apply below_alloc | apply pw_below_drewN | apply below_drew1 | refine below_set ?_ GE107.out) | exact HB.out))))
                  have n3_ := Aside0.mk (blk_below (g := gb107) (o := .cells #[.int .i64 a0_0, .int .i64 a0_1, .int .i64 a0_2, .int .i64 a0_3, .string a0_4, .int .i64 a0_5, .string a0_6, .string a0_7, .string a0_8, .string a0_9, .int .i64 a0_10] 25 (0, 0)) (by (with_reducible repeat (first | refine blk_drewN ?_ _ | refine blk_drew ?_ | refine blk_alloc ?_ _)); exact BK107.out) hb)
                  have n4_ := Aside0.mk (below_step (by repeat (first | (with_reducible first | exact HB.out | apply below_alloc | apply pw_below_drewN | apply below_drew1 | refine below_set ?_ GE107.out) | exact HB.out)) hb)
                  have z_HO123 := fun (h0_ : b 18 = true) => (show Kd.R Kd.string 9 w29 w.heap.size (fun k_ => some k_ ≠ (v114 : Value).ownBlock) v122 y121 from by first | exact (Kd.R_below (by (with_reducible repeat (first | apply Kd.R_alloc | apply Kd.R_drewN | apply Kd.R_drew)); exact (Q_HO123 h0_)) hb) | exact Kd.R_mono (Kd.R_below (by (with_reducible repeat (first | apply Kd.R_alloc | apply Kd.R_drewN | apply Kd.R_drew)); exact (Q_HO123 h0_)) hb) (fun _ h_ => by first | trivial | exact h_ | exact h_.1))
                  have z_HO127 := fun (h0_ : b 24 = true) => (show Kd.R (Kd.int .i64) 3 w29 w.heap.size (fun k_ => some k_ ≠ (v110 : Value).ownBlock) v126 y125 from by first | exact (Kd.R_elder' (by (with_reducible repeat (first | apply Kd.R_alloc | apply Kd.R_drewN | apply Kd.R_drew)); exact (Q_HO127 h0_)) (Kd.R_base ho30) hb) | exact Kd.R_mono (Kd.R_elder' (by (with_reducible repeat (first | apply Kd.R_alloc | apply Kd.R_drewN | apply Kd.R_drew)); exact (Q_HO127 h0_)) (Kd.R_base ho30) hb) (fun _ h_ => by first | trivial | exact h_ | exact h_.1))
                  clear HO111
                  clear HO115
                  clear BK107
                  clear HB
                  have HO111 := n0_
                  have HO115 := n1_
                  have HO119 := n2_
                  have BK107 := n3_
                  have HB := n4_
                  clear n0_ n1_ n2_ n3_ n4_
                  clear hb ho30
                  refine hK.out _ _ ⟨v118, v122, v126, (by rw [ha.out]; exact putSel_upk 1 hb_ rfl rfl rfl), (by (with_reducible repeat (first | apply Kd.R_alloc | apply Kd.R_drewN | apply Kd.R_drew)); exact Kd.R_mono HO111.out (fun _ hk => by first | exact hk.2 | trivial)), (by (with_reducible repeat (first | apply Kd.R_alloc | apply Kd.R_drewN | apply Kd.R_drew)); exact HO115.out), (by (with_reducible repeat (first | refine blk_drewN ?_ _ | refine blk_drew ?_ | refine blk_alloc ?_ _)); exact BK107.out), (by repeat (first | (with_reducible first | exact HB.out | apply below_alloc | apply pw_below_drewN | apply below_drew1 | refine below_set ?_ GE107.out) | exact HB.out)), fun _ => (by (with_reducible repeat (first | apply Kd.R_alloc | apply Kd.R_drewN | apply Kd.R_drew)); exact Kd.R_mono HO119.out (fun _ hk => by first | exact hk.2 | trivial)), z_HO123, z_HO127⟩
                refine steps_cons ?_ ?_
                · rintro b a w' ⟨v118, v122, v126, ha, Q_HO111, Q_HO115, Q_BK107, Q_HB, Q_HO119, Q_HO123, Q_HO127⟩ hb_ hon hoff
                  refine ⟨_, rfl, fun K hK => ?_⟩
                  have e30 : a.tmps[30]? = some (v118) := by rw [ha]; exact putSel_on (e := (4, 30, v118)) 1 rfl rfl (hon 4 (by kernel_rfl)) rfl
                  replace ha := Aside0.mk ha
                  have HO111 := Aside0.mk Q_HO111
                  have HO115 := Aside0.mk Q_HO115
                  have BK107 := Aside0.mk Q_BK107
                  have HB := Aside0.mk Q_HB
                  have HO119 := Aside0.mk (Q_HO119 (hon 4 (by kernel_rfl)))
                  obtain ⟨Ao32, co32, eo32⟩ := Kd.R_slice HO119.out
                  (first | subst eo32 | (injection eo32 with f1_ f2_ f3_; have f4_ := f1_.symm; have f5_ := f3_.symm; clear f1_ f2_ f3_; subst f4_; subst f5_))
                  refine goes_ Tryd.func21 (by kernel_rfl) rfl #[.slice Ao32 y117.length co32] (by rfl) rfl rfl (by first | (simp only [List.map_toArray, List.map_cons, List.map_nil, Act.eval, Array.getD_eq_getD_getElem?, Option.getD_some, e30]; done) | (simp only [List.map_toArray, List.map_cons, List.map_nil, Act.eval, Array.getD_eq_getD_getElem?, Option.getD_some, e30]; rfl)) ?_
                  with_reducible refine (wire_nums.calls _ _ y117 t120 _ ?side1 ?side2 A8.out).mono ?_
                  (case side1 => repeat (first | exact (Kd.R_reads' HO119.out).2.2 | (with_reducible refine Kd.C_alloc ?_ _) | (with_reducible refine Kd.C_drewN ?_ _) | (with_reducible refine Kd.C_drew ?_)))
                  (case side2 => exact (Kd.R_reads' HO119.out).2.1)
                  rintro e w33 ⟨rfl, hb⟩
                  refine ⟨_, rfl, ?_⟩
                  have n0_ := Aside0.mk (Kd.R_below (by (with_reducible repeat (first | apply Kd.R_alloc | apply Kd.R_drewN | apply Kd.R_drew)); exact HO111.out) hb)
                  have n1_ := Aside0.mk (Kd.R_below (by (with_reducible repeat (first | apply Kd.R_alloc | apply Kd.R_drewN | apply Kd.R_drew)); exact HO115.out) hb)
                  have n2_ := Aside0.mk (Kd.R_below (by (with_reducible repeat (first | apply Kd.R_alloc | apply Kd.R_drewN | apply Kd.R_drew)); exact HO119.out) hb)
                  have n3_ := Aside0.mk (blk_below (g := gb107) (o := .cells #[.int .i64 a0_0, .int .i64 a0_1, .int .i64 a0_2, .int .i64 a0_3, .string a0_4, .int .i64 a0_5, .string a0_6, .string a0_7, .string a0_8, .string a0_9, .int .i64 a0_10] 25 (0, 0)) (by (with_reducible repeat (first | refine blk_drewN ?_ _ | refine blk_drew ?_ | refine blk_alloc ?_ _)); exact BK107.out) hb)
                  have n4_ := Aside0.mk (below_step (by repeat (first | (with_reducible first | exact HB.out | apply below_alloc | apply pw_below_drewN | apply below_drew1 | refine below_set ?_ GE107.out) | exact HB.out)) hb)
                  have z_HO123 := fun (h0_ : b 18 = true) => (show Kd.R Kd.string 9 w33 w.heap.size (fun k_ => some k_ ≠ (v114 : Value).ownBlock) v122 y121 from by first | exact (Kd.R_below (by (with_reducible repeat (first | apply Kd.R_alloc | apply Kd.R_drewN | apply Kd.R_drew)); exact (Q_HO123 h0_)) hb) | exact Kd.R_mono (Kd.R_below (by (with_reducible repeat (first | apply Kd.R_alloc | apply Kd.R_drewN | apply Kd.R_drew)); exact (Q_HO123 h0_)) hb) (fun _ h_ => by first | trivial | exact h_ | exact h_.1))
                  have z_HO127 := fun (h0_ : b 24 = true) => (show Kd.R (Kd.int .i64) 3 w33 w.heap.size (fun k_ => some k_ ≠ (v110 : Value).ownBlock) v126 y125 from by first | exact (Kd.R_below (by (with_reducible repeat (first | apply Kd.R_alloc | apply Kd.R_drewN | apply Kd.R_drew)); exact (Q_HO127 h0_)) hb) | exact Kd.R_mono (Kd.R_below (by (with_reducible repeat (first | apply Kd.R_alloc | apply Kd.R_drewN | apply Kd.R_drew)); exact (Q_HO127 h0_)) hb) (fun _ h_ => by first | trivial | exact h_ | exact h_.1))
                  clear HO111
                  clear HO115
                  clear HO119
                  clear BK107
                  clear HB
                  have HO111 := n0_
                  have HO115 := n1_
                  have HO119 := n2_
                  have BK107 := n3_
                  have HB := n4_
                  clear n0_ n1_ n2_ n3_ n4_
                  (try clear hb)
                  (try clear hb2)
                  (try clear hk)
                  (try clear hi)
                  refine hK.out _ _ ⟨.slice Ao32 y117.length co32, v122, v126, (by rw [ha.out]; exact putSel_upk 2 hb_ rfl rfl rfl), (by (with_reducible repeat (first | apply Kd.R_alloc | apply Kd.R_drewN | apply Kd.R_drew)); exact HO111.out), (by (with_reducible repeat (first | apply Kd.R_alloc | apply Kd.R_drewN | apply Kd.R_drew)); exact HO115.out), (by (with_reducible repeat (first | refine blk_drewN ?_ _ | refine blk_drew ?_ | refine blk_alloc ?_ _)); exact BK107.out), (by repeat (first | (with_reducible first | exact HB.out | apply below_alloc | apply pw_below_drewN | apply below_drew1 | refine below_set ?_ GE107.out) | exact HB.out)), fun _ => (by (with_reducible repeat (first | apply Kd.R_alloc | apply Kd.R_drewN | apply Kd.R_drew)); exact HO119.out), z_HO123, z_HO127⟩
                refine steps_cons ?_ ?_
                · rintro b a w' ⟨v118, v122, v126, ha, Q_HO111, Q_HO115, Q_BK107, Q_HB, Q_HO119, Q_HO123, Q_HO127⟩ hb_ hon hoff
                  refine ⟨_, rfl, fun K hK => ?_⟩
                  have e33 : a.tmps[33]? = some (.pointer (some ⟨gb107, 6, none⟩)) := by rw [ha]; exact (putSel_off rfl).trans rfl
                  replace ha := Aside0.mk ha
                  have HO111 := Aside0.mk Q_HO111
                  have HO115 := Aside0.mk Q_HO115
                  have BK107 := Aside0.mk Q_BK107
                  have HB := Aside0.mk Q_HB
                  have hc0_ : w'.cell? ⟨gb107, 0, none⟩ = some (.int .i64 a0_0) := (blk_cell BK107.out 0).trans rfl
                  have hc1_ : w'.cell? ⟨gb107, 1, none⟩ = some (.int .i64 a0_1) := (blk_cell BK107.out 1).trans rfl
                  have hc2_ : w'.cell? ⟨gb107, 2, none⟩ = some (.int .i64 a0_2) := (blk_cell BK107.out 2).trans rfl
                  have hc3_ : w'.cell? ⟨gb107, 3, none⟩ = some (.int .i64 a0_3) := (blk_cell BK107.out 3).trans rfl
                  have hc4_ : w'.cell? ⟨gb107, 4, none⟩ = some (.string a0_4) := (blk_cell BK107.out 4).trans rfl
                  have hc5_ : w'.cell? ⟨gb107, 5, none⟩ = some (.int .i64 a0_5) := (blk_cell BK107.out 5).trans rfl
                  have hc6_ : w'.cell? ⟨gb107, 6, none⟩ = some (.string a0_6) := (blk_cell BK107.out 6).trans rfl
                  have hc7_ : w'.cell? ⟨gb107, 7, none⟩ = some (.string a0_7) := (blk_cell BK107.out 7).trans rfl
                  have hc8_ : w'.cell? ⟨gb107, 8, none⟩ = some (.string a0_8) := (blk_cell BK107.out 8).trans rfl
                  have hc9_ : w'.cell? ⟨gb107, 9, none⟩ = some (.string a0_9) := (blk_cell BK107.out 9).trans rfl
                  have hc10_ : w'.cell? ⟨gb107, 10, none⟩ = some (.int .i64 a0_10) := (blk_cell BK107.out 10).trans rfl
                  refine value_ (w1 := w') (v := .string a0_6) (by rfl) rfl ?_ ?_
                  · go_simp
                    (try simp only [i64_w])
                    try rfl
                    try (simp only [ByteArray.size_append] at *; omega)
                  refine hK.out _ _ ⟨v118, v122, v126, (by rw [ha.out]; exact putSel_upk 3 hb_ rfl rfl rfl), Q_HO111, Q_HO115, Q_BK107, Q_HB, Q_HO119, fun h0_ => absurd ((hoff 18 (by kernel_rfl)).symm.trans h0_) (by decide), Q_HO127⟩
                refine steps_cons ?_ ?_
                · rintro b a w' ⟨v118, v122, v126, ha, Q_HO111, Q_HO115, Q_BK107, Q_HB, Q_HO119, Q_HO123, Q_HO127⟩ hb_ hon hoff
                  refine ⟨_, rfl, fun K hK => ?_⟩
                  have e36 : a.tmps[36]? = some (.pointer (some ⟨gb107, 7, none⟩)) := by rw [ha]; exact (putSel_off rfl).trans rfl
                  replace ha := Aside0.mk ha
                  have HO111 := Aside0.mk Q_HO111
                  have HO115 := Aside0.mk Q_HO115
                  have BK107 := Aside0.mk Q_BK107
                  have HB := Aside0.mk Q_HB
                  have hc0_ : w'.cell? ⟨gb107, 0, none⟩ = some (.int .i64 a0_0) := (blk_cell BK107.out 0).trans rfl
                  have hc1_ : w'.cell? ⟨gb107, 1, none⟩ = some (.int .i64 a0_1) := (blk_cell BK107.out 1).trans rfl
                  have hc2_ : w'.cell? ⟨gb107, 2, none⟩ = some (.int .i64 a0_2) := (blk_cell BK107.out 2).trans rfl
                  have hc3_ : w'.cell? ⟨gb107, 3, none⟩ = some (.int .i64 a0_3) := (blk_cell BK107.out 3).trans rfl
                  have hc4_ : w'.cell? ⟨gb107, 4, none⟩ = some (.string a0_4) := (blk_cell BK107.out 4).trans rfl
                  have hc5_ : w'.cell? ⟨gb107, 5, none⟩ = some (.int .i64 a0_5) := (blk_cell BK107.out 5).trans rfl
                  have hc6_ : w'.cell? ⟨gb107, 6, none⟩ = some (.string a0_6) := (blk_cell BK107.out 6).trans rfl
                  have hc7_ : w'.cell? ⟨gb107, 7, none⟩ = some (.string a0_7) := (blk_cell BK107.out 7).trans rfl
                  have hc8_ : w'.cell? ⟨gb107, 8, none⟩ = some (.string a0_8) := (blk_cell BK107.out 8).trans rfl
                  have hc9_ : w'.cell? ⟨gb107, 9, none⟩ = some (.string a0_9) := (blk_cell BK107.out 9).trans rfl
                  have hc10_ : w'.cell? ⟨gb107, 10, none⟩ = some (.int .i64 a0_10) := (blk_cell BK107.out 10).trans rfl
                  refine value_ (w1 := w') (v := .string a0_7) (by rfl) rfl ?_ ?_
                  · go_simp
                    (try simp only [i64_w])
                    try rfl
                    try (simp only [ByteArray.size_append] at *; omega)
                  refine hK.out _ _ ⟨v118, v122, v126, (by rw [ha.out]; exact putSel_upk 4 hb_ rfl rfl rfl), Q_HO111, Q_HO115, Q_BK107, Q_HB, Q_HO119, fun h0_ => absurd ((hoff 18 (by kernel_rfl)).symm.trans h0_) (by decide), Q_HO127⟩
                refine steps_cons ?_ ?_
                · rintro b a w' ⟨v118, v122, v126, ha, Q_HO111, Q_HO115, Q_BK107, Q_HB, Q_HO119, Q_HO123, Q_HO127⟩ hb_ hon hoff
                  refine ⟨_, rfl, fun K hK => ?_⟩
                  have e39 : a.tmps[39]? = some (.pointer (some ⟨gb107, 8, none⟩)) := by rw [ha]; exact (putSel_off rfl).trans rfl
                  replace ha := Aside0.mk ha
                  have HO111 := Aside0.mk Q_HO111
                  have HO115 := Aside0.mk Q_HO115
                  have BK107 := Aside0.mk Q_BK107
                  have HB := Aside0.mk Q_HB
                  have hc0_ : w'.cell? ⟨gb107, 0, none⟩ = some (.int .i64 a0_0) := (blk_cell BK107.out 0).trans rfl
                  have hc1_ : w'.cell? ⟨gb107, 1, none⟩ = some (.int .i64 a0_1) := (blk_cell BK107.out 1).trans rfl
                  have hc2_ : w'.cell? ⟨gb107, 2, none⟩ = some (.int .i64 a0_2) := (blk_cell BK107.out 2).trans rfl
                  have hc3_ : w'.cell? ⟨gb107, 3, none⟩ = some (.int .i64 a0_3) := (blk_cell BK107.out 3).trans rfl
                  have hc4_ : w'.cell? ⟨gb107, 4, none⟩ = some (.string a0_4) := (blk_cell BK107.out 4).trans rfl
                  have hc5_ : w'.cell? ⟨gb107, 5, none⟩ = some (.int .i64 a0_5) := (blk_cell BK107.out 5).trans rfl
                  have hc6_ : w'.cell? ⟨gb107, 6, none⟩ = some (.string a0_6) := (blk_cell BK107.out 6).trans rfl
                  have hc7_ : w'.cell? ⟨gb107, 7, none⟩ = some (.string a0_7) := (blk_cell BK107.out 7).trans rfl
                  have hc8_ : w'.cell? ⟨gb107, 8, none⟩ = some (.string a0_8) := (blk_cell BK107.out 8).trans rfl
                  have hc9_ : w'.cell? ⟨gb107, 9, none⟩ = some (.string a0_9) := (blk_cell BK107.out 9).trans rfl
                  have hc10_ : w'.cell? ⟨gb107, 10, none⟩ = some (.int .i64 a0_10) := (blk_cell BK107.out 10).trans rfl
                  refine value_ (w1 := w') (v := .string a0_8) (by rfl) rfl ?_ ?_
                  · go_simp
                    (try simp only [i64_w])
                    try rfl
                    try (simp only [ByteArray.size_append] at *; omega)
                  refine hK.out _ _ ⟨v118, v122, v126, (by rw [ha.out]; exact putSel_upk 5 hb_ rfl rfl rfl), Q_HO111, Q_HO115, Q_BK107, Q_HB, Q_HO119, fun h0_ => absurd ((hoff 18 (by kernel_rfl)).symm.trans h0_) (by decide), Q_HO127⟩
                refine steps_cons ?_ ?_
                · rintro b a w' ⟨v118, v122, v126, ha, Q_HO111, Q_HO115, Q_BK107, Q_HB, Q_HO119, Q_HO123, Q_HO127⟩ hb_ hon hoff
                  refine ⟨_, rfl, fun K hK => ?_⟩
                  have e42 : a.tmps[42]? = some (.pointer (some ⟨gb107, 9, none⟩)) := by rw [ha]; exact (putSel_off rfl).trans rfl
                  replace ha := Aside0.mk ha
                  have HO111 := Aside0.mk Q_HO111
                  have HO115 := Aside0.mk Q_HO115
                  have BK107 := Aside0.mk Q_BK107
                  have HB := Aside0.mk Q_HB
                  have hc0_ : w'.cell? ⟨gb107, 0, none⟩ = some (.int .i64 a0_0) := (blk_cell BK107.out 0).trans rfl
                  have hc1_ : w'.cell? ⟨gb107, 1, none⟩ = some (.int .i64 a0_1) := (blk_cell BK107.out 1).trans rfl
                  have hc2_ : w'.cell? ⟨gb107, 2, none⟩ = some (.int .i64 a0_2) := (blk_cell BK107.out 2).trans rfl
                  have hc3_ : w'.cell? ⟨gb107, 3, none⟩ = some (.int .i64 a0_3) := (blk_cell BK107.out 3).trans rfl
                  have hc4_ : w'.cell? ⟨gb107, 4, none⟩ = some (.string a0_4) := (blk_cell BK107.out 4).trans rfl
                  have hc5_ : w'.cell? ⟨gb107, 5, none⟩ = some (.int .i64 a0_5) := (blk_cell BK107.out 5).trans rfl
                  have hc6_ : w'.cell? ⟨gb107, 6, none⟩ = some (.string a0_6) := (blk_cell BK107.out 6).trans rfl
                  have hc7_ : w'.cell? ⟨gb107, 7, none⟩ = some (.string a0_7) := (blk_cell BK107.out 7).trans rfl
                  have hc8_ : w'.cell? ⟨gb107, 8, none⟩ = some (.string a0_8) := (blk_cell BK107.out 8).trans rfl
                  have hc9_ : w'.cell? ⟨gb107, 9, none⟩ = some (.string a0_9) := (blk_cell BK107.out 9).trans rfl
                  have hc10_ : w'.cell? ⟨gb107, 10, none⟩ = some (.int .i64 a0_10) := (blk_cell BK107.out 10).trans rfl
                  refine value_ (w1 := w') (v := .string a0_9) (by rfl) rfl ?_ ?_
                  · go_simp
                    (try simp only [i64_w])
                    try rfl
                    try (simp only [ByteArray.size_append] at *; omega)
                  refine hK.out _ _ ⟨v118, v122, v126, (by rw [ha.out]; exact putSel_upk 6 hb_ rfl rfl rfl), Q_HO111, Q_HO115, Q_BK107, Q_HB, Q_HO119, fun h0_ => absurd ((hoff 18 (by kernel_rfl)).symm.trans h0_) (by decide), Q_HO127⟩
                refine steps_cons ?_ ?_
                · rintro b a w' ⟨v118, v122, v126, ha, Q_HO111, Q_HO115, Q_BK107, Q_HB, Q_HO119, Q_HO123, Q_HO127⟩ hb_ hon hoff
                  refine ⟨_, rfl, fun K hK => ?_⟩
                  have e34 : a.tmps[34]? = some (.string a0_6) := by rw [ha]; exact putSel_on (e := (8, 34, .string a0_6)) 3 rfl rfl (hon 8 (by kernel_rfl)) rfl
                  have e37 : a.tmps[37]? = some (.string a0_7) := by rw [ha]; exact putSel_on (e := (11, 37, .string a0_7)) 4 rfl rfl (hon 11 (by kernel_rfl)) rfl
                  have e40 : a.tmps[40]? = some (.string a0_8) := by rw [ha]; exact putSel_on (e := (14, 40, .string a0_8)) 5 rfl rfl (hon 14 (by kernel_rfl)) rfl
                  have e43 : a.tmps[43]? = some (.string a0_9) := by rw [ha]; exact putSel_on (e := (17, 43, .string a0_9)) 6 rfl rfl (hon 17 (by kernel_rfl)) rfl
                  replace ha := Aside0.mk ha
                  have HO111 := Aside0.mk Q_HO111
                  have HO115 := Aside0.mk Q_HO115
                  have BK107 := Aside0.mk Q_BK107
                  have HB := Aside0.mk Q_HB
                  refine Kd.R_lit_step Kd.string _ 9 ?hg (N := 44) ?hd (xs := ([a0_6, a0_7, a0_8, a0_9] : List ByteArray)) (inner := [.string a0_6, .string a0_7, .string a0_8, .string a0_9]) (ok := fun _ => True) (okp := fun _ => True) ?hr ?hp (fun _ hk => hk) trivial (Below.refl _ _) (Nat.le_refl _) (by simp) ?_; (case hd => rfl); (case hg => rfl); (case hr => first | (go_simp; done) | (go_simp; rfl)); (case hp => exact (Reps.one (show Kd.M Kd.string _ _ _ a0_6 [.string a0_6] from rfl) (Reps.one (show Kd.M Kd.string _ _ _ a0_7 [.string a0_7] from rfl) (Reps.one (show Kd.M Kd.string _ _ _ a0_8 [.string a0_8] from rfl) (Reps.one (show Kd.M Kd.string _ _ _ a0_9 [.string a0_9] from rfl) (Reps.none _ _))))))
                  intro v122 w29 ho30 hb hg_ hnew_
                  clear hg_ hnew_
                  (first | rw [← Ny121.out] at ho30 | (simp only [Int.reduceToNat] at ho30; rw [← Ny121.out] at ho30))
                  have n0_ := Aside0.mk (Kd.R_below (by (with_reducible repeat (first | apply Kd.R_alloc | apply Kd.R_drewN | apply Kd.R_drew)); exact HO111.out) hb)
                  have n1_ := Aside0.mk (Kd.R_elder' (by (with_reducible repeat (first | apply Kd.R_alloc | apply Kd.R_drewN | apply Kd.R_drew)); exact HO115.out) (Kd.R_base ho30) hb)
                  have n2_ := Aside0.mk (Kd.R_lower (Kd.R_new' ho30 (Kd.R_lt (by (with_reducible repeat (first | apply Kd.R_alloc | apply Kd.R_drewN | apply Kd.R_drew)); exact HO115.out))) (below_size (by repeat (first | (with_reducible first | exact HB.out | apply below_alloc | apply pw_below_drewN | apply below_drew1 | refine below_set ?_ GE107.out) | exact HB.out))))
                  have n3_ := Aside0.mk (blk_below (g := gb107) (o := .cells #[.int .i64 a0_0, .int .i64 a0_1, .int .i64 a0_2, .int .i64 a0_3, .string a0_4, .int .i64 a0_5, .string a0_6, .string a0_7, .string a0_8, .string a0_9, .int .i64 a0_10] 25 (0, 0)) (by (with_reducible repeat (first | refine blk_drewN ?_ _ | refine blk_drew ?_ | refine blk_alloc ?_ _)); exact BK107.out) hb)
                  have n4_ := Aside0.mk (below_step (by repeat (first | (with_reducible first | exact HB.out | apply below_alloc | apply pw_below_drewN | apply below_drew1 | refine below_set ?_ GE107.out) | exact HB.out)) hb)
                  have z_HO119 := fun (h0_ : b 4 = true) => (show Kd.R (Kd.int .i64) 3 w29 w.heap.size (fun k_ => some k_ ≠ (v110 : Value).ownBlock) v118 y117 from by first | exact (Kd.R_below (by (with_reducible repeat (first | apply Kd.R_alloc | apply Kd.R_drewN | apply Kd.R_drew)); exact (Q_HO119 h0_)) hb) | exact Kd.R_mono (Kd.R_below (by (with_reducible repeat (first | apply Kd.R_alloc | apply Kd.R_drewN | apply Kd.R_drew)); exact (Q_HO119 h0_)) hb) (fun _ h_ => by first | trivial | exact h_ | exact h_.1))
                  have z_HO127 := fun (h0_ : b 24 = true) => (show Kd.R (Kd.int .i64) 3 w29 w.heap.size (fun k_ => some k_ ≠ (v110 : Value).ownBlock) v126 y125 from by first | exact (Kd.R_below (by (with_reducible repeat (first | apply Kd.R_alloc | apply Kd.R_drewN | apply Kd.R_drew)); exact (Q_HO127 h0_)) hb) | exact Kd.R_mono (Kd.R_below (by (with_reducible repeat (first | apply Kd.R_alloc | apply Kd.R_drewN | apply Kd.R_drew)); exact (Q_HO127 h0_)) hb) (fun _ h_ => by first | trivial | exact h_ | exact h_.1))
                  clear HO111
                  clear HO115
                  clear BK107
                  clear HB
                  have HO111 := n0_
                  have HO115 := n1_
                  have HO123 := n2_
                  have BK107 := n3_
                  have HB := n4_
                  clear n0_ n1_ n2_ n3_ n4_
                  clear hb ho30
                  refine hK.out _ _ ⟨v118, v122, v126, (by rw [ha.out]; exact putSel_upk 7 hb_ rfl rfl rfl), (by (with_reducible repeat (first | apply Kd.R_alloc | apply Kd.R_drewN | apply Kd.R_drew)); exact HO111.out), (by (with_reducible repeat (first | apply Kd.R_alloc | apply Kd.R_drewN | apply Kd.R_drew)); exact Kd.R_mono HO115.out (fun _ hk => by first | exact hk.2 | trivial)), (by (with_reducible repeat (first | refine blk_drewN ?_ _ | refine blk_drew ?_ | refine blk_alloc ?_ _)); exact BK107.out), (by repeat (first | (with_reducible first | exact HB.out | apply below_alloc | apply pw_below_drewN | apply below_drew1 | refine below_set ?_ GE107.out) | exact HB.out)), z_HO119, fun _ => (by (with_reducible repeat (first | apply Kd.R_alloc | apply Kd.R_drewN | apply Kd.R_drew)); exact Kd.R_mono HO123.out (fun _ hk => by first | exact hk.2 | trivial)), z_HO127⟩
                refine steps_cons ?_ ?_
                · rintro b a w' ⟨v118, v122, v126, ha, Q_HO111, Q_HO115, Q_BK107, Q_HB, Q_HO119, Q_HO123, Q_HO127⟩ hb_ hon hoff
                  refine ⟨_, rfl, fun K hK => ?_⟩
                  have e44 : a.tmps[44]? = some (v122) := by rw [ha]; exact putSel_on (e := (18, 44, v122)) 7 rfl rfl (hon 18 (by kernel_rfl)) rfl
                  replace ha := Aside0.mk ha
                  have HO111 := Aside0.mk Q_HO111
                  have HO115 := Aside0.mk Q_HO115
                  have BK107 := Aside0.mk Q_BK107
                  have HB := Aside0.mk Q_HB
                  have HO119 := Aside0.mk (Q_HO119 (hon 4 (by kernel_rfl)))
                  have HO123 := Aside0.mk (Q_HO123 (hon 18 (by kernel_rfl)))
                  obtain ⟨Ao36, co36, eo36⟩ := Kd.R_slice HO123.out
                  (first | subst eo36 | (injection eo36 with f1_ f2_ f3_; have f4_ := f1_.symm; have f5_ := f3_.symm; clear f1_ f2_ f3_; subst f4_; subst f5_))
                  refine goes_ Tryd.func22 (by kernel_rfl) rfl #[.slice Ao36 y121.length co36] (by rfl) rfl rfl (by first | (simp only [List.map_toArray, List.map_cons, List.map_nil, Act.eval, Array.getD_eq_getD_getElem?, Option.getD_some, e44]; done) | (simp only [List.map_toArray, List.map_cons, List.map_nil, Act.eval, Array.getD_eq_getD_getElem?, Option.getD_some, e44]; rfl)) ?_
                  with_reducible refine (wire_texts.calls _ _ y121 t124 _ ?side1 ?side2 A9.out).mono ?_
                  (case side1 => repeat (first | exact (Kd.R_reads' HO123.out).2.2 | (with_reducible refine Kd.C_alloc ?_ _) | (with_reducible refine Kd.C_drewN ?_ _) | (with_reducible refine Kd.C_drew ?_)))
                  (case side2 => exact (Kd.R_reads' HO123.out).2.1)
                  rintro e w37 ⟨rfl, hb⟩
                  refine ⟨_, rfl, ?_⟩
                  have n0_ := Aside0.mk (Kd.R_below (by (with_reducible repeat (first | apply Kd.R_alloc | apply Kd.R_drewN | apply Kd.R_drew)); exact HO111.out) hb)
                  have n1_ := Aside0.mk (Kd.R_below (by (with_reducible repeat (first | apply Kd.R_alloc | apply Kd.R_drewN | apply Kd.R_drew)); exact HO115.out) hb)
                  have n2_ := Aside0.mk (Kd.R_below (by (with_reducible repeat (first | apply Kd.R_alloc | apply Kd.R_drewN | apply Kd.R_drew)); exact HO119.out) hb)
                  have n3_ := Aside0.mk (Kd.R_below (by (with_reducible repeat (first | apply Kd.R_alloc | apply Kd.R_drewN | apply Kd.R_drew)); exact HO123.out) hb)
                  have n4_ := Aside0.mk (blk_below (g := gb107) (o := .cells #[.int .i64 a0_0, .int .i64 a0_1, .int .i64 a0_2, .int .i64 a0_3, .string a0_4, .int .i64 a0_5, .string a0_6, .string a0_7, .string a0_8, .string a0_9, .int .i64 a0_10] 25 (0, 0)) (by (with_reducible repeat (first | refine blk_drewN ?_ _ | refine blk_drew ?_ | refine blk_alloc ?_ _)); exact BK107.out) hb)
                  have n5_ := Aside0.mk (below_step (by repeat (first | (with_reducible first | exact HB.out | apply below_alloc | apply pw_below_drewN | apply below_drew1 | refine below_set ?_ GE107.out) | exact HB.out)) hb)
                  have z_HO127 := fun (h0_ : b 24 = true) => (show Kd.R (Kd.int .i64) 3 w37 w.heap.size (fun k_ => some k_ ≠ (v110 : Value).ownBlock) v126 y125 from by first | exact (Kd.R_below (by (with_reducible repeat (first | apply Kd.R_alloc | apply Kd.R_drewN | apply Kd.R_drew)); exact (Q_HO127 h0_)) hb) | exact Kd.R_mono (Kd.R_below (by (with_reducible repeat (first | apply Kd.R_alloc | apply Kd.R_drewN | apply Kd.R_drew)); exact (Q_HO127 h0_)) hb) (fun _ h_ => by first | trivial | exact h_ | exact h_.1))
                  clear HO111
                  clear HO115
                  clear HO119
                  clear HO123
                  clear BK107
                  clear HB
                  have HO111 := n0_
                  have HO115 := n1_
                  have HO119 := n2_
                  have HO123 := n3_
                  have BK107 := n4_
                  have HB := n5_
                  clear n0_ n1_ n2_ n3_ n4_ n5_
                  (try clear hb)
                  (try clear hb2)
                  (try clear hk)
                  (try clear hi)
                  refine hK.out _ _ ⟨v118, .slice Ao36 y121.length co36, v126, (by rw [ha.out]; exact putSel_upk 8 hb_ rfl rfl rfl), (by (with_reducible repeat (first | apply Kd.R_alloc | apply Kd.R_drewN | apply Kd.R_drew)); exact HO111.out), (by (with_reducible repeat (first | apply Kd.R_alloc | apply Kd.R_drewN | apply Kd.R_drew)); exact HO115.out), (by (with_reducible repeat (first | refine blk_drewN ?_ _ | refine blk_drew ?_ | refine blk_alloc ?_ _)); exact BK107.out), (by repeat (first | (with_reducible first | exact HB.out | apply below_alloc | apply pw_below_drewN | apply below_drew1 | refine below_set ?_ GE107.out) | exact HB.out)), fun _ => (by (with_reducible repeat (first | apply Kd.R_alloc | apply Kd.R_drewN | apply Kd.R_drew)); exact HO119.out), fun _ => (by (with_reducible repeat (first | apply Kd.R_alloc | apply Kd.R_drewN | apply Kd.R_drew)); exact HO123.out), z_HO127⟩
                refine steps_cons ?_ ?_
                · rintro b a w' ⟨v118, v122, v126, ha, Q_HO111, Q_HO115, Q_BK107, Q_HB, Q_HO119, Q_HO123, Q_HO127⟩ hb_ hon hoff
                  refine ⟨_, rfl, fun K hK => ?_⟩
                  have e31 : a.tmps[31]? = some (.string t120) := by rw [ha]; exact putSel_on (e := (5, 31, .string t120)) 2 rfl rfl (hon 5 (by kernel_rfl)) rfl
                  have e45 : a.tmps[45]? = some (.string t124) := by rw [ha]; exact putSel_on (e := (19, 45, .string t124)) 8 rfl rfl (hon 19 (by kernel_rfl)) rfl
                  replace ha := Aside0.mk ha
                  have HO111 := Aside0.mk Q_HO111
                  have HO115 := Aside0.mk Q_HO115
                  have BK107 := Aside0.mk Q_BK107
                  have HB := Aside0.mk Q_HB
                  have HO119 := Aside0.mk (Q_HO119 (hon 4 (by kernel_rfl)))
                  have HO123 := Aside0.mk (Q_HO123 (hon 18 (by kernel_rfl)))
                  refine value_ (w1 := w') (v := .string (t120 ++ t124)) (by rfl) rfl ?_ ?_
                  · go_simp
                    (try simp only [i64_w])
                    try rfl
                    try (simp only [ByteArray.size_append] at *; omega)
                  refine hK.out _ _ ⟨v118, v122, v126, (by rw [ha.out]; exact putSel_upk 9 hb_ rfl rfl rfl), Q_HO111, Q_HO115, Q_BK107, Q_HB, Q_HO119, Q_HO123, Q_HO127⟩
                refine steps_cons ?_ ?_
                · rintro b a w' ⟨v118, v122, v126, ha, Q_HO111, Q_HO115, Q_BK107, Q_HB, Q_HO119, Q_HO123, Q_HO127⟩ hb_ hon hoff
                  refine ⟨_, rfl, fun K hK => ?_⟩
                  have e48 : a.tmps[48]? = some (.pointer (some ⟨gb107, 10, none⟩)) := by rw [ha]; exact (putSel_off rfl).trans rfl
                  replace ha := Aside0.mk ha
                  have HO111 := Aside0.mk Q_HO111
                  have HO115 := Aside0.mk Q_HO115
                  have BK107 := Aside0.mk Q_BK107
                  have HB := Aside0.mk Q_HB
                  have hc0_ : w'.cell? ⟨gb107, 0, none⟩ = some (.int .i64 a0_0) := (blk_cell BK107.out 0).trans rfl
                  have hc1_ : w'.cell? ⟨gb107, 1, none⟩ = some (.int .i64 a0_1) := (blk_cell BK107.out 1).trans rfl
                  have hc2_ : w'.cell? ⟨gb107, 2, none⟩ = some (.int .i64 a0_2) := (blk_cell BK107.out 2).trans rfl
                  have hc3_ : w'.cell? ⟨gb107, 3, none⟩ = some (.int .i64 a0_3) := (blk_cell BK107.out 3).trans rfl
                  have hc4_ : w'.cell? ⟨gb107, 4, none⟩ = some (.string a0_4) := (blk_cell BK107.out 4).trans rfl
                  have hc5_ : w'.cell? ⟨gb107, 5, none⟩ = some (.int .i64 a0_5) := (blk_cell BK107.out 5).trans rfl
                  have hc6_ : w'.cell? ⟨gb107, 6, none⟩ = some (.string a0_6) := (blk_cell BK107.out 6).trans rfl
                  have hc7_ : w'.cell? ⟨gb107, 7, none⟩ = some (.string a0_7) := (blk_cell BK107.out 7).trans rfl
                  have hc8_ : w'.cell? ⟨gb107, 8, none⟩ = some (.string a0_8) := (blk_cell BK107.out 8).trans rfl
                  have hc9_ : w'.cell? ⟨gb107, 9, none⟩ = some (.string a0_9) := (blk_cell BK107.out 9).trans rfl
                  have hc10_ : w'.cell? ⟨gb107, 10, none⟩ = some (.int .i64 a0_10) := (blk_cell BK107.out 10).trans rfl
                  refine value_ (w1 := w') (v := .int .i64 a0_10) (by rfl) rfl ?_ ?_
                  · go_simp
                    (try simp only [i64_w])
                    try rfl
                    try (simp only [ByteArray.size_append] at *; omega)
                  refine hK.out _ _ ⟨v118, v122, v126, (by rw [ha.out]; exact putSel_upk 10 hb_ rfl rfl rfl), Q_HO111, Q_HO115, Q_BK107, Q_HB, Q_HO119, Q_HO123, fun h0_ => absurd ((hoff 24 (by kernel_rfl)).symm.trans h0_) (by decide)⟩
                refine steps_cons ?_ ?_
                · rintro b a w' ⟨v118, v122, v126, ha, Q_HO111, Q_HO115, Q_BK107, Q_HB, Q_HO119, Q_HO123, Q_HO127⟩ hb_ hon hoff
                  refine ⟨_, rfl, fun K hK => ?_⟩
                  have e49 : a.tmps[49]? = some (.int .i64 a0_10) := by rw [ha]; exact putSel_on (e := (23, 49, .int .i64 a0_10)) 10 rfl rfl (hon 23 (by kernel_rfl)) rfl
                  replace ha := Aside0.mk ha
                  have HO111 := Aside0.mk Q_HO111
                  have HO115 := Aside0.mk Q_HO115
                  have BK107 := Aside0.mk Q_BK107
                  have HB := Aside0.mk Q_HB
                  refine Kd.R_lit_step (Kd.int .i64) _ 3 ?hg (N := 50) ?hd (xs := ([a0_10] : List Int)) (inner := [.int .i64 a0_10]) (ok := fun _ => True) (okp := fun _ => True) ?hr ?hp (fun _ hk => hk) trivial (Below.refl _ _) (Nat.le_refl _) (by simp) ?_; (case hd => rfl); (case hg => rfl); (case hr => first | (go_simp; done) | (go_simp; rfl)); (case hp => exact (Reps.one (show Kd.M (Kd.int .i64) _ _ _ a0_10 [.int .i64 a0_10] from rfl) (Reps.none _ _)))
                  intro v126 w29 ho30 hb hg_ hnew_
                  clear hg_ hnew_
                  (first | rw [← Ny125.out] at ho30 | (simp only [Int.reduceToNat] at ho30; rw [← Ny125.out] at ho30))
                  have n0_ := Aside0.mk (Kd.R_elder' (by (with_reducible repeat (first | apply Kd.R_alloc | apply Kd.R_drewN | apply Kd.R_drew)); exact HO111.out) (Kd.R_base ho30) hb)
                  have n1_ := Aside0.mk (Kd.R_below (by (with_reducible repeat (first | apply Kd.R_alloc | apply Kd.R_drewN | apply Kd.R_drew)); exact HO115.out) hb)
                  have n2_ := Aside0.mk (Kd.R_lower (Kd.R_new' ho30 (Kd.R_lt (by (with_reducible repeat (first | apply Kd.R_alloc | apply Kd.R_drewN | apply Kd.R_drew)); exact HO111.out))) (below_size (by repeat (first | (with_reducible first | exact HB.out | apply below_alloc | apply pw_below_drewN | apply below_drew1 | refine below_set ?_ GE107.out) | exact HB.out))))
                  have n3_ := Aside0.mk (blk_below (g := gb107) (o := .cells #[.int .i64 a0_0, .int .i64 a0_1, .int .i64 a0_2, .int .i64 a0_3, .string a0_4, .int .i64 a0_5, .string a0_6, .string a0_7, .string a0_8, .string a0_9, .int .i64 a0_10] 25 (0, 0)) (by (with_reducible repeat (first | refine blk_drewN ?_ _ | refine blk_drew ?_ | refine blk_alloc ?_ _)); exact BK107.out) hb)
                  have n4_ := Aside0.mk (below_step (by repeat (first | (with_reducible first | exact HB.out | apply below_alloc | apply pw_below_drewN | apply below_drew1 | refine below_set ?_ GE107.out) | exact HB.out)) hb)
                  have z_HO119 := fun (h0_ : b 4 = true) => (show Kd.R (Kd.int .i64) 3 w29 w.heap.size (fun k_ => some k_ ≠ (v110 : Value).ownBlock) v118 y117 from by first | exact (Kd.R_elder' (by (with_reducible repeat (first | apply Kd.R_alloc | apply Kd.R_drewN | apply Kd.R_drew)); exact (Q_HO119 h0_)) (Kd.R_base ho30) hb) | exact Kd.R_mono (Kd.R_elder' (by (with_reducible repeat (first | apply Kd.R_alloc | apply Kd.R_drewN | apply Kd.R_drew)); exact (Q_HO119 h0_)) (Kd.R_base ho30) hb) (fun _ h_ => by first | trivial | exact h_ | exact h_.1))
                  have z_HO123 := fun (h0_ : b 18 = true) => (show Kd.R Kd.string 9 w29 w.heap.size (fun k_ => some k_ ≠ (v114 : Value).ownBlock) v122 y121 from by first | exact (Kd.R_below (by (with_reducible repeat (first | apply Kd.R_alloc | apply Kd.R_drewN | apply Kd.R_drew)); exact (Q_HO123 h0_)) hb) | exact Kd.R_mono (Kd.R_below (by (with_reducible repeat (first | apply Kd.R_alloc | apply Kd.R_drewN | apply Kd.R_drew)); exact (Q_HO123 h0_)) hb) (fun _ h_ => by first | trivial | exact h_ | exact h_.1))
                  clear HO111
                  clear HO115
                  clear BK107
                  clear HB
                  have HO111 := n0_
                  have HO115 := n1_
                  have HO127 := n2_
                  have BK107 := n3_
                  have HB := n4_
                  clear n0_ n1_ n2_ n3_ n4_
                  clear hb ho30
                  refine hK.out _ _ ⟨v118, v122, v126, (by rw [ha.out]; exact putSel_upk 11 hb_ rfl rfl rfl), (by (with_reducible repeat (first | apply Kd.R_alloc | apply Kd.R_drewN | apply Kd.R_drew)); exact Kd.R_mono HO111.out (fun _ hk => by first | exact hk.2 | trivial)), (by (with_reducible repeat (first | apply Kd.R_alloc | apply Kd.R_drewN | apply Kd.R_drew)); exact HO115.out), (by (with_reducible repeat (first | refine blk_drewN ?_ _ | refine blk_drew ?_ | refine blk_alloc ?_ _)); exact BK107.out), (by repeat (first | (with_reducible first | exact HB.out | apply below_alloc | apply pw_below_drewN | apply below_drew1 | refine below_set ?_ GE107.out) | exact HB.out)), z_HO119, z_HO123, fun _ => (by (with_reducible repeat (first | apply Kd.R_alloc | apply Kd.R_drewN | apply Kd.R_drew)); exact Kd.R_mono HO127.out (fun _ hk => by first | exact hk.2 | trivial))⟩
                refine steps_cons ?_ ?_
                · rintro b a w' ⟨v118, v122, v126, ha, Q_HO111, Q_HO115, Q_BK107, Q_HB, Q_HO119, Q_HO123, Q_HO127⟩ hb_ hon hoff
                  refine ⟨_, rfl, fun K hK => ?_⟩
                  have e50 : a.tmps[50]? = some (v126) := by rw [ha]; exact putSel_on (e := (24, 50, v126)) 11 rfl rfl (hon 24 (by kernel_rfl)) rfl
                  replace ha := Aside0.mk ha
                  have HO111 := Aside0.mk Q_HO111
                  have HO115 := Aside0.mk Q_HO115
                  have BK107 := Aside0.mk Q_BK107
                  have HB := Aside0.mk Q_HB
                  have HO119 := Aside0.mk (Q_HO119 (hon 4 (by kernel_rfl)))
                  have HO123 := Aside0.mk (Q_HO123 (hon 18 (by kernel_rfl)))
                  have HO127 := Aside0.mk (Q_HO127 (hon 24 (by kernel_rfl)))
                  obtain ⟨Ao40, co40, eo40⟩ := Kd.R_slice HO127.out
                  (first | subst eo40 | (injection eo40 with f1_ f2_ f3_; have f4_ := f1_.symm; have f5_ := f3_.symm; clear f1_ f2_ f3_; subst f4_; subst f5_))
                  refine goes_ Tryd.func21 (by kernel_rfl) rfl #[.slice Ao40 y125.length co40] (by rfl) rfl rfl (by first | (simp only [List.map_toArray, List.map_cons, List.map_nil, Act.eval, Array.getD_eq_getD_getElem?, Option.getD_some, e50]; done) | (simp only [List.map_toArray, List.map_cons, List.map_nil, Act.eval, Array.getD_eq_getD_getElem?, Option.getD_some, e50]; rfl)) ?_
                  with_reducible refine (wire_nums.calls _ _ y125 t128 _ ?side1 ?side2 A11.out).mono ?_
                  (case side1 => repeat (first | exact (Kd.R_reads' HO127.out).2.2 | (with_reducible refine Kd.C_alloc ?_ _) | (with_reducible refine Kd.C_drewN ?_ _) | (with_reducible refine Kd.C_drew ?_)))
                  (case side2 => exact (Kd.R_reads' HO127.out).2.1)
                  rintro e w41 ⟨rfl, hb⟩
                  refine ⟨_, rfl, ?_⟩
                  have n0_ := Aside0.mk (Kd.R_below (by (with_reducible repeat (first | apply Kd.R_alloc | apply Kd.R_drewN | apply Kd.R_drew)); exact HO111.out) hb)
                  have n1_ := Aside0.mk (Kd.R_below (by (with_reducible repeat (first | apply Kd.R_alloc | apply Kd.R_drewN | apply Kd.R_drew)); exact HO115.out) hb)
                  have n2_ := Aside0.mk (Kd.R_below (by (with_reducible repeat (first | apply Kd.R_alloc | apply Kd.R_drewN | apply Kd.R_drew)); exact HO119.out) hb)
                  have n3_ := Aside0.mk (Kd.R_below (by (with_reducible repeat (first | apply Kd.R_alloc | apply Kd.R_drewN | apply Kd.R_drew)); exact HO123.out) hb)
                  have n4_ := Aside0.mk (Kd.R_below (by (with_reducible repeat (first | apply Kd.R_alloc | apply Kd.R_drewN | apply Kd.R_drew)); exact HO127.out) hb)
                  have n5_ := Aside0.mk (blk_below (g := gb107) (o := .cells #[.int .i64 a0_0, .int .i64 a0_1, .int .i64 a0_2, .int .i64 a0_3, .string a0_4, .int .i64 a0_5, .string a0_6, .string a0_7, .string a0_8, .string a0_9, .int .i64 a0_10] 25 (0, 0)) (by (with_reducible repeat (first | refine blk_drewN ?_ _ | refine blk_drew ?_ | refine blk_alloc ?_ _)); exact BK107.out) hb)
                  have n6_ := Aside0.mk (below_step (by repeat (first | (with_reducible first | exact HB.out | apply below_alloc | apply pw_below_drewN | apply below_drew1 | refine below_set ?_ GE107.out) | exact HB.out)) hb)
                  clear HO111
                  clear HO115
                  clear HO119
                  clear HO123
                  clear HO127
                  clear BK107
                  clear HB
                  have HO111 := n0_
                  have HO115 := n1_
                  have HO119 := n2_
                  have HO123 := n3_
                  have HO127 := n4_
                  have BK107 := n5_
                  have HB := n6_
                  clear n0_ n1_ n2_ n3_ n4_ n5_ n6_
                  (try clear hb)
                  (try clear hb2)
                  (try clear hk)
                  (try clear hi)
                  refine hK.out _ _ ⟨v118, v122, .slice Ao40 y125.length co40, (by rw [ha.out]; exact putSel_upk 12 hb_ rfl rfl rfl), (by (with_reducible repeat (first | apply Kd.R_alloc | apply Kd.R_drewN | apply Kd.R_drew)); exact HO111.out), (by (with_reducible repeat (first | apply Kd.R_alloc | apply Kd.R_drewN | apply Kd.R_drew)); exact HO115.out), (by (with_reducible repeat (first | refine blk_drewN ?_ _ | refine blk_drew ?_ | refine blk_alloc ?_ _)); exact BK107.out), (by repeat (first | (with_reducible first | exact HB.out | apply below_alloc | apply pw_below_drewN | apply below_drew1 | refine below_set ?_ GE107.out) | exact HB.out)), fun _ => (by (with_reducible repeat (first | apply Kd.R_alloc | apply Kd.R_drewN | apply Kd.R_drew)); exact HO119.out), fun _ => (by (with_reducible repeat (first | apply Kd.R_alloc | apply Kd.R_drewN | apply Kd.R_drew)); exact HO123.out), fun _ => (by (with_reducible repeat (first | apply Kd.R_alloc | apply Kd.R_drewN | apply Kd.R_drew)); exact HO127.out)⟩
                refine steps_cons ?_ ?_
                · rintro b a w' ⟨v118, v122, v126, ha, Q_HO111, Q_HO115, Q_BK107, Q_HB, Q_HO119, Q_HO123, Q_HO127⟩ hb_ hon hoff
                  refine ⟨_, rfl, fun K hK => ?_⟩
                  have e46 : a.tmps[46]? = some (.string (t120 ++ t124)) := by rw [ha]; exact putSel_on (e := (20, 46, .string (t120 ++ t124))) 9 rfl rfl (hon 20 (by kernel_rfl)) rfl
                  have e51 : a.tmps[51]? = some (.string t128) := by rw [ha]; exact putSel_on (e := (25, 51, .string t128)) 12 rfl rfl (hon 25 (by kernel_rfl)) rfl
                  replace ha := Aside0.mk ha
                  have HO111 := Aside0.mk Q_HO111
                  have HO115 := Aside0.mk Q_HO115
                  have BK107 := Aside0.mk Q_BK107
                  have HB := Aside0.mk Q_HB
                  have HO119 := Aside0.mk (Q_HO119 (hon 4 (by kernel_rfl)))
                  have HO123 := Aside0.mk (Q_HO123 (hon 18 (by kernel_rfl)))
                  have HO127 := Aside0.mk (Q_HO127 (hon 24 (by kernel_rfl)))
                  refine value_ (w1 := w') (v := .string ((t120 ++ t124) ++ t128)) (by rfl) rfl ?_ ?_
                  · go_simp
                    (try simp only [i64_w])
                    try rfl
                    try (simp only [ByteArray.size_append] at *; omega)
                  refine hK.out _ _ ⟨v118, v122, v126, (by rw [ha.out]; exact putSel_upk 13 hb_ rfl rfl rfl), Q_HO111, Q_HO115, Q_BK107, Q_HB, Q_HO119, Q_HO123, Q_HO127⟩
                refine steps_cons ?_ ?_
                · rintro b a w' ⟨v118, v122, v126, ha, Q_HO111, Q_HO115, Q_BK107, Q_HB, Q_HO119, Q_HO123, Q_HO127⟩ hb_ hon hoff
                  refine ⟨_, rfl, fun K hK => ?_⟩
                  have e26 : a.tmps[26]? = some (.string (t112 ++ t116)) := by rw [ha]; exact (putSel_off rfl).trans rfl
                  have e52 : a.tmps[52]? = some (.string ((t120 ++ t124) ++ t128)) := by rw [ha]; exact putSel_on (e := (26, 52, .string ((t120 ++ t124) ++ t128))) 13 rfl rfl (hon 26 (by kernel_rfl)) rfl
                  replace ha := Aside0.mk ha
                  have HO111 := Aside0.mk Q_HO111
                  have HO115 := Aside0.mk Q_HO115
                  have BK107 := Aside0.mk Q_BK107
                  have HB := Aside0.mk Q_HB
                  have HO119 := Aside0.mk (Q_HO119 (hon 4 (by kernel_rfl)))
                  have HO123 := Aside0.mk (Q_HO123 (hon 18 (by kernel_rfl)))
                  have HO127 := Aside0.mk (Q_HO127 (hon 24 (by kernel_rfl)))
                  refine value_ (w1 := w') (v := .string ((t112 ++ t116) ++ ((t120 ++ t124) ++ t128))) (by rfl) rfl ?_ ?_
                  · go_simp
                    (try simp only [i64_w])
                    try rfl
                    try (simp only [ByteArray.size_append] at *; omega)
                  refine hK.out _ _ ⟨v118, v122, v126, (by rw [ha.out]; exact putSel_upk 14 hb_ rfl rfl rfl), Q_HO111, Q_HO115, Q_BK107, Q_HB, Q_HO119, Q_HO123, Q_HO127⟩
                refine steps_cons ?_ ?_
                · rintro b a w' ⟨v118, v122, v126, ha, Q_HO111, Q_HO115, Q_BK107, Q_HB, Q_HO119, Q_HO123, Q_HO127⟩ hb_ hon hoff
                  refine ⟨_, rfl, fun K hK => ?_⟩
                  have e53 : a.tmps[53]? = some (.string ((t112 ++ t116) ++ ((t120 ++ t124) ++ t128))) := by rw [ha]; exact putSel_on (e := (27, 53, .string ((t112 ++ t116) ++ ((t120 ++ t124) ++ t128)))) 14 rfl rfl (hon 27 (by kernel_rfl)) rfl
                  replace ha := Aside0.mk ha
                  have HO111 := Aside0.mk Q_HO111
                  have HO115 := Aside0.mk Q_HO115
                  have BK107 := Aside0.mk Q_BK107
                  have HB := Aside0.mk Q_HB
                  have HO119 := Aside0.mk (Q_HO119 (hon 4 (by kernel_rfl)))
                  have HO123 := Aside0.mk (Q_HO123 (hon 18 (by kernel_rfl)))
                  have HO127 := Aside0.mk (Q_HO127 (hon 24 (by kernel_rfl)))
                  refine value_ (w1 := w') (v := .string ((t112 ++ t116) ++ ((t120 ++ t124) ++ t128))) (by rfl) rfl ?_ ?_
                  · go_simp
                    (try simp only [i64_w])
                    try rfl
                    try (simp only [ByteArray.size_append] at *; omega)
                  refine hK.out _ _ ⟨v118, v122, v126, (by rw [ha.out]; exact putSel_upk 15 hb_ rfl rfl rfl), Q_HO111, Q_HO115, Q_BK107, Q_HB, Q_HO119, Q_HO123, Q_HO127⟩
                exact steps_nil
              rintro b a w41 hall ⟨v118, v122, v126, ha, Q_HO111, Q_HO115, Q_BK107, Q_HB, Q_HO119, Q_HO123, Q_HO127⟩
              clear BK107 HB HO111 HO115
              have hb3_ := hall 3 (by kernel_rfl)
              have hb4_ := hall 4 (by kernel_rfl)
              have hb5_ := hall 5 (by kernel_rfl)
              have hb8_ := hall 8 (by kernel_rfl)
              have hb11_ := hall 11 (by kernel_rfl)
              have hb14_ := hall 14 (by kernel_rfl)
              have hb17_ := hall 17 (by kernel_rfl)
              have hb18_ := hall 18 (by kernel_rfl)
              have hb19_ := hall 19 (by kernel_rfl)
              have hb20_ := hall 20 (by kernel_rfl)
              have hb23_ := hall 23 (by kernel_rfl)
              have hb24_ := hall 24 (by kernel_rfl)
              have hb25_ := hall 25 (by kernel_rfl)
              have hb26_ := hall 26 (by kernel_rfl)
              have hb27_ := hall 27 (by kernel_rfl)
              have hb28_ := hall 28 (by kernel_rfl)
              subst ha
              simp only [putSel, hb3_, hb4_, hb5_, hb8_, hb11_, hb14_, hb17_, hb18_, hb19_, hb20_, hb23_, hb24_, hb25_, hb26_, hb27_, hb28_, if_true, Act.put, List.setIfInBounds_toArray, List.set_cons_zero, List.set_cons_succ]
              have HO111 := Aside0.mk Q_HO111
              clear Q_HO111
              have HO115 := Aside0.mk Q_HO115
              clear Q_HO115
              have BK107 := Aside0.mk Q_BK107
              clear Q_BK107
              have HB := Aside0.mk Q_HB
              clear Q_HB
              have HO119 := Aside0.mk (Q_HO119 hb4_)
              clear Q_HO119
              have HO123 := Aside0.mk (Q_HO123 hb18_)
              clear Q_HO123
              have HO127 := Aside0.mk (Q_HO127 hb24_)
              clear Q_HO127
              clear hall hb3_ hb4_ hb5_ hb8_ hb11_ hb14_ hb17_ hb18_ hb19_ hb20_ hb23_ hb24_ hb25_ hb26_ hb27_ hb28_
              try go_wp2
              go_ret2
              exact ⟨by first | rfl | (simp [errW_none, errW_some] <;> rfl) | (simp [*, errW_none, errW_some] <;> rfl), by repeat (first | (with_reducible first | exact HB.out | apply below_alloc | apply pw_below_drewN | apply below_drew1 | refine below_set ?_ GE107.out) | exact HB.out)⟩
            · rw [if_neg c13] at H
              exact absurd H (by simp)
          · rw [if_neg c12] at H
            exact absurd H (by simp)
        · rw [if_neg c10] at H
          exact absurd H (by simp)
      · rw [if_neg c7] at H
        have c7b0 : (a0_0 == 5) = false := beq_eq_false_iff_ne.mpr c7
        have c7b1 : (a0_0 != 5) = true := bne_iff_ne.mpr c7
        simp only [Option.some.injEq, Prod.mk.injEq] at H
        obtain ⟨rfl, rfl⟩ := H
        go_enter Tryd.func9, Tryd.ntmps9
        try go_wp2_with (first | ((with_reducible refine gate_dst (N := 1) rfl ?_); refine box_event ?hg (N := 1) ?hd (cs := #[.int .i64 a0_0, .int .i64 a0_1, .int .i64 a0_2, .int .i64 a0_3, .string a0_4, .int .i64 a0_5, .string a0_6, .string a0_7, .string a0_8, .string a0_9, .int .i64 a0_10]) (t := 25) ?hr ?_; (case hd => rfl); (case hg => rfl); (case hr => first | (go_simp; done) | (go_simp; rfl)); intro gb107 hg w42 hbox hb; have n0_ := Aside0.mk (below_step (by repeat (first | (with_reducible first | exact HB.out | apply below_alloc | apply pw_below_drewN | apply below_drew1) | exact HB.out)) hb); have n1_ := Aside0.mk (hbox); have n2_ := Aside0.mk ((by rw [hg]; exact (below_size (by repeat (first | (with_reducible first | exact HB.out | apply below_alloc | apply pw_below_drewN | apply below_drew1) | exact HB.out))) : w.heap.size ≤ gb107)); have n3_ := Aside0.mk ((by rw [hg]; exact (below_size (by repeat (first | (with_reducible first | exact HB.out | apply below_alloc | apply pw_below_drewN | apply below_drew1) | exact HB.out))) : w.heap.size ≤ gb107)); clear HB; have HB := n0_; have BK107 := n1_; have GW107 := n2_; have GE107 := n3_; clear n0_ n1_ n2_ n3_; clear hb hbox hg; have hcz43_0 : w42.cell? ⟨gb107, 0, none⟩ = some (.int .i64 a0_0) := (blk_cell BK107.out 0).trans rfl; have hcz43_1 : w42.cell? ⟨gb107, 1, none⟩ = some (.int .i64 a0_1) := (blk_cell BK107.out 1).trans rfl; have hcz43_2 : w42.cell? ⟨gb107, 2, none⟩ = some (.int .i64 a0_2) := (blk_cell BK107.out 2).trans rfl; have hcz43_3 : w42.cell? ⟨gb107, 3, none⟩ = some (.int .i64 a0_3) := (blk_cell BK107.out 3).trans rfl; have hcz43_4 : w42.cell? ⟨gb107, 4, none⟩ = some (.string a0_4) := (blk_cell BK107.out 4).trans rfl; have hcz43_5 : w42.cell? ⟨gb107, 5, none⟩ = some (.int .i64 a0_5) := (blk_cell BK107.out 5).trans rfl; have hcz43_6 : w42.cell? ⟨gb107, 6, none⟩ = some (.string a0_6) := (blk_cell BK107.out 6).trans rfl; have hcz43_7 : w42.cell? ⟨gb107, 7, none⟩ = some (.string a0_7) := (blk_cell BK107.out 7).trans rfl; have hcz43_8 : w42.cell? ⟨gb107, 8, none⟩ = some (.string a0_8) := (blk_cell BK107.out 8).trans rfl; have hcz43_9 : w42.cell? ⟨gb107, 9, none⟩ = some (.string a0_9) := (blk_cell BK107.out 9).trans rfl; have hcz43_10 : w42.cell? ⟨gb107, 10, none⟩ = some (.int .i64 a0_10) := (blk_cell BK107.out 10).trans rfl; have hfz43_0 := blk_frozen BK107.out 0; have hfz43_1 := blk_frozen BK107.out 1; have hfz43_2 := blk_frozen BK107.out 2; have hfz43_3 := blk_frozen BK107.out 3; have hfz43_4 := blk_frozen BK107.out 4; have hfz43_5 := blk_frozen BK107.out 5; have hfz43_6 := blk_frozen BK107.out 6; have hfz43_7 := blk_frozen BK107.out 7; have hfz43_8 := blk_frozen BK107.out 8; have hfz43_9 := blk_frozen BK107.out 9; have hfz43_10 := blk_frozen BK107.out 10) | ((with_reducible refine gate_callee (f := 13) rfl ?_); refine goesL_ (some 6) rfl rfl Tryd.func13 (by kernel_rfl) rfl #[.agg #[.int .i64 a0_0, .int .i64 a0_1, .int .i64 a0_2, .int .i64 a0_3, .string a0_4, .int .i64 a0_5, .string a0_6, .string a0_7, .string a0_8, .string a0_9, .int .i64 a0_10]] rfl (by (try simp only [List.map_toArray, List.map_cons, List.map_nil]); first | done | rfl | (simp only [List.length_drop, List.length_take]; rfl)) ?_; (with_reducible refine (wire_MayReq.calls k a0_0 a0_1 a0_2 a0_3 a0_4 a0_5 a0_6 a0_7 a0_8 a0_9 a0_10 true _ A2.out).mono ?_); rintro e w44 ⟨rfl, hb⟩; refine ⟨_, rfl, ?_⟩; have n0_ := Aside0.mk (blk_below (g := gb107) (o := .cells #[.int .i64 a0_0, .int .i64 a0_1, .int .i64 a0_2, .int .i64 a0_3, .string a0_4, .int .i64 a0_5, .string a0_6, .string a0_7, .string a0_8, .string a0_9, .int .i64 a0_10] 25 (0, 0)) (by (with_reducible repeat (first | refine blk_drewN ?_ _ | refine blk_drew ?_ | refine blk_alloc ?_ _)); exact BK107.out) hb); have n1_ := Aside0.mk (below_step (by repeat (first | (with_reducible first | exact HB.out | apply below_alloc | apply pw_below_drewN | apply below_drew1 | refine below_set ?_ GE107.out) | exact HB.out)) hb); clear BK107; clear HB; have BK107 := n0_; have HB := n1_; clear n0_ n1_; (try clear hb); (try clear hb2); (try clear hk); (try clear hi)))
        have n0_ := Aside0.mk (blk_drew BK107.out)
        have n1_ := Aside0.mk (below_drew1 HB.out)
        clear BK107
        clear HB
        have BK107 := n0_
        have HB := n1_
        clear n0_ n1_
        refine start_ (n := 16) (S := fun w' => True) (ds := []) #[false, false, false, false, false, false, false, false, false, false, false, false, false, false, false, false] (by kernel_rfl) rfl rfl trivial (fun hHeld => ?_); refine with_tabW wire_Req.tab3 wire_Req.bits3 (fun HT_ HW_ => ?_)
        generalize w44.drew = w45 at BK107 HB hHeld ⊢
        refine pure_ (i := 0) (N := some 8) (v := ?_) (a' := ?_) #[true, false, false, false, false, false, false, false, false, false, false, false, false, false, false, false] rfl rfl (any_of HT_.out (by kernel_rfl)) (fun _ _ _ h => h) (Or.inl ⟨by rfl, ?_⟩) ?_ ?_
        rotate_left
        · intro w'
          go_simp
          with_reducible rfl
        rotate_left
        · simp only [Act.put, List.setIfInBounds_toArray, List.set_cons_zero, List.set_cons_succ, i64_w, i32_w]
          rfl
        refine pure_ (i := 2) (N := some 10) (v := ?_) (a' := ?_) #[true, false, true, false, false, false, false, false, false, false, false, false, false, false, false, false] rfl rfl (any_of HT_.out (by kernel_rfl)) (fun _ _ _ h => h) (Or.inl ⟨by rfl, ?_⟩) ?_ ?_
        rotate_left
        · intro w'
          go_simp
          with_reducible rfl
        rotate_left
        · simp only [Act.put, List.setIfInBounds_toArray, List.set_cons_zero, List.set_cons_succ, i64_w, i32_w]
          rfl
        refine pure_ (i := 4) (N := some 12) (v := ?_) (a' := ?_) #[true, false, true, false, true, false, false, false, false, false, false, false, false, false, false, false] rfl rfl (any_of HT_.out (by kernel_rfl)) (fun _ _ _ h => h) (Or.inl ⟨by rfl, ?_⟩) ?_ ?_
        rotate_left
        · intro w'
          go_simp
          with_reducible rfl
        rotate_left
        · simp only [Act.put, List.setIfInBounds_toArray, List.set_cons_zero, List.set_cons_succ, i64_w, i32_w]
          rfl
        refine pure_ (i := 6) (N := some 14) (v := ?_) (a' := ?_) #[true, false, true, false, true, false, true, false, false, false, false, false, false, false, false, false] rfl rfl (any_of HT_.out (by kernel_rfl)) (fun _ _ _ h => h) (Or.inl ⟨by rfl, ?_⟩) ?_ ?_
        rotate_left
        · intro w'
          go_simp
          with_reducible rfl
        rotate_left
        · simp only [Act.put, List.setIfInBounds_toArray, List.set_cons_zero, List.set_cons_succ, i64_w, i32_w]
          rfl
        refine pure_ (i := 10) (N := some 18) (v := ?_) (a' := ?_) #[true, false, true, false, true, false, true, false, false, false, true, false, false, false, false, false] rfl rfl (any_of HT_.out (by kernel_rfl)) (fun _ _ _ h => h) (Or.inl ⟨by rfl, ?_⟩) ?_ ?_
        rotate_left
        · intro w'
          go_simp
          with_reducible rfl
        rotate_left
        · simp only [Act.put, List.setIfInBounds_toArray, List.set_cons_zero, List.set_cons_succ, i64_w, i32_w]
          rfl
        refine inv_at [1, 3, 5, 7, 8, 9, 11, 12, 13, 14, 15] (fun a0_ b a w' => ∃ (v110 : Value) (v114 : Value), a = putSel a0_ b [(1, 9, .int .i64 a0_0), (3, 11, .int .i64 a0_1), (5, 13, .int .i64 a0_2), (7, 15, .int .i64 a0_3), (8, 16, v110), (9, 17, .string t112), (11, 19, .string a0_4), (12, 20, v114), (13, 21, .string t116), (14, 22, .string (t112 ++ t116)), (15, 4, .string (t112 ++ t116))] ∧ (w'.heap[gb107]? = some (.cells #[.int .i64 a0_0, .int .i64 a0_1, .int .i64 a0_2, .int .i64 a0_3, .string a0_4, .int .i64 a0_5, .string a0_6, .string a0_7, .string a0_8, .string a0_9, .int .i64 a0_10] 25 (0, 0))) ∧ (Below w.heap.size w w') ∧ (b 8 = true → Kd.R (Kd.int .i64) 3 w' w.heap.size (fun _ => True) v110 y109) ∧ (b 12 = true → Kd.R Kd.string 9 w' w.heap.size (fun _ => True) v114 y113)) HT_.out HW_.out (by kernel_rfl) (by kernel_rfl) ?_ ?_ ?_
        · exact ⟨.bool false, .bool false, by simp only [putSel, Bool.false_eq_true, if_false], BK107.out, HB.out, fun h_ => absurd h_ (by decide), fun h_ => absurd h_ (by decide)⟩
        · skip
          clear BK107 HB
          refine steps_cons ?_ ?_
          · rintro b a w' ⟨v110, v114, ha, Q_BK107, Q_HB, Q_HO111, Q_HO115⟩ hb_ hon hoff
            refine ⟨_, rfl, fun K hK => ?_⟩
            have e8 : a.tmps[8]? = some (.pointer (some ⟨gb107, 0, none⟩)) := by rw [ha]; exact (putSel_off rfl).trans rfl
            replace ha := Aside0.mk ha
            have BK107 := Aside0.mk Q_BK107
            have HB := Aside0.mk Q_HB
            have hc0_ : w'.cell? ⟨gb107, 0, none⟩ = some (.int .i64 a0_0) := (blk_cell BK107.out 0).trans rfl
            have hc1_ : w'.cell? ⟨gb107, 1, none⟩ = some (.int .i64 a0_1) := (blk_cell BK107.out 1).trans rfl
            have hc2_ : w'.cell? ⟨gb107, 2, none⟩ = some (.int .i64 a0_2) := (blk_cell BK107.out 2).trans rfl
            have hc3_ : w'.cell? ⟨gb107, 3, none⟩ = some (.int .i64 a0_3) := (blk_cell BK107.out 3).trans rfl
            have hc4_ : w'.cell? ⟨gb107, 4, none⟩ = some (.string a0_4) := (blk_cell BK107.out 4).trans rfl
            have hc5_ : w'.cell? ⟨gb107, 5, none⟩ = some (.int .i64 a0_5) := (blk_cell BK107.out 5).trans rfl
            have hc6_ : w'.cell? ⟨gb107, 6, none⟩ = some (.string a0_6) := (blk_cell BK107.out 6).trans rfl
            have hc7_ : w'.cell? ⟨gb107, 7, none⟩ = some (.string a0_7) := (blk_cell BK107.out 7).trans rfl
            have hc8_ : w'.cell? ⟨gb107, 8, none⟩ = some (.string a0_8) := (blk_cell BK107.out 8).trans rfl
            have hc9_ : w'.cell? ⟨gb107, 9, none⟩ = some (.string a0_9) := (blk_cell BK107.out 9).trans rfl
            have hc10_ : w'.cell? ⟨gb107, 10, none⟩ = some (.int .i64 a0_10) := (blk_cell BK107.out 10).trans rfl
            refine value_ (w1 := w') (v := .int .i64 a0_0) (by rfl) rfl ?_ ?_
            · go_simp
              (try simp only [i64_w])
              try rfl
              try (simp only [ByteArray.size_append] at *; omega)
            refine hK.out _ _ ⟨v110, v114, (by rw [ha.out]; exact putSel_upk 0 hb_ rfl rfl rfl), Q_BK107, Q_HB, fun h0_ => absurd ((hoff 8 (by kernel_rfl)).symm.trans h0_) (by decide), Q_HO115⟩
          refine steps_cons ?_ ?_
          · rintro b a w' ⟨v110, v114, ha, Q_BK107, Q_HB, Q_HO111, Q_HO115⟩ hb_ hon hoff
            refine ⟨_, rfl, fun K hK => ?_⟩
            have e10 : a.tmps[10]? = some (.pointer (some ⟨gb107, 1, none⟩)) := by rw [ha]; exact (putSel_off rfl).trans rfl
            replace ha := Aside0.mk ha
            have BK107 := Aside0.mk Q_BK107
            have HB := Aside0.mk Q_HB
            have hc0_ : w'.cell? ⟨gb107, 0, none⟩ = some (.int .i64 a0_0) := (blk_cell BK107.out 0).trans rfl
            have hc1_ : w'.cell? ⟨gb107, 1, none⟩ = some (.int .i64 a0_1) := (blk_cell BK107.out 1).trans rfl
            have hc2_ : w'.cell? ⟨gb107, 2, none⟩ = some (.int .i64 a0_2) := (blk_cell BK107.out 2).trans rfl
            have hc3_ : w'.cell? ⟨gb107, 3, none⟩ = some (.int .i64 a0_3) := (blk_cell BK107.out 3).trans rfl
            have hc4_ : w'.cell? ⟨gb107, 4, none⟩ = some (.string a0_4) := (blk_cell BK107.out 4).trans rfl
            have hc5_ : w'.cell? ⟨gb107, 5, none⟩ = some (.int .i64 a0_5) := (blk_cell BK107.out 5).trans rfl
            have hc6_ : w'.cell? ⟨gb107, 6, none⟩ = some (.string a0_6) := (blk_cell BK107.out 6).trans rfl
            have hc7_ : w'.cell? ⟨gb107, 7, none⟩ = some (.string a0_7) := (blk_cell BK107.out 7).trans rfl
            have hc8_ : w'.cell? ⟨gb107, 8, none⟩ = some (.string a0_8) := (blk_cell BK107.out 8).trans rfl
            have hc9_ : w'.cell? ⟨gb107, 9, none⟩ = some (.string a0_9) := (blk_cell BK107.out 9).trans rfl
            have hc10_ : w'.cell? ⟨gb107, 10, none⟩ = some (.int .i64 a0_10) := (blk_cell BK107.out 10).trans rfl
            refine value_ (w1 := w') (v := .int .i64 a0_1) (by rfl) rfl ?_ ?_
            · go_simp
              (try simp only [i64_w])
              try rfl
              try (simp only [ByteArray.size_append] at *; omega)
            refine hK.out _ _ ⟨v110, v114, (by rw [ha.out]; exact putSel_upk 1 hb_ rfl rfl rfl), Q_BK107, Q_HB, fun h0_ => absurd ((hoff 8 (by kernel_rfl)).symm.trans h0_) (by decide), Q_HO115⟩
          refine steps_cons ?_ ?_
          · rintro b a w' ⟨v110, v114, ha, Q_BK107, Q_HB, Q_HO111, Q_HO115⟩ hb_ hon hoff
            refine ⟨_, rfl, fun K hK => ?_⟩
            have e12 : a.tmps[12]? = some (.pointer (some ⟨gb107, 2, none⟩)) := by rw [ha]; exact (putSel_off rfl).trans rfl
            replace ha := Aside0.mk ha
            have BK107 := Aside0.mk Q_BK107
            have HB := Aside0.mk Q_HB
            have hc0_ : w'.cell? ⟨gb107, 0, none⟩ = some (.int .i64 a0_0) := (blk_cell BK107.out 0).trans rfl
            have hc1_ : w'.cell? ⟨gb107, 1, none⟩ = some (.int .i64 a0_1) := (blk_cell BK107.out 1).trans rfl
            have hc2_ : w'.cell? ⟨gb107, 2, none⟩ = some (.int .i64 a0_2) := (blk_cell BK107.out 2).trans rfl
            have hc3_ : w'.cell? ⟨gb107, 3, none⟩ = some (.int .i64 a0_3) := (blk_cell BK107.out 3).trans rfl
            have hc4_ : w'.cell? ⟨gb107, 4, none⟩ = some (.string a0_4) := (blk_cell BK107.out 4).trans rfl
            have hc5_ : w'.cell? ⟨gb107, 5, none⟩ = some (.int .i64 a0_5) := (blk_cell BK107.out 5).trans rfl
            have hc6_ : w'.cell? ⟨gb107, 6, none⟩ = some (.string a0_6) := (blk_cell BK107.out 6).trans rfl
            have hc7_ : w'.cell? ⟨gb107, 7, none⟩ = some (.string a0_7) := (blk_cell BK107.out 7).trans rfl
            have hc8_ : w'.cell? ⟨gb107, 8, none⟩ = some (.string a0_8) := (blk_cell BK107.out 8).trans rfl
            have hc9_ : w'.cell? ⟨gb107, 9, none⟩ = some (.string a0_9) := (blk_cell BK107.out 9).trans rfl
            have hc10_ : w'.cell? ⟨gb107, 10, none⟩ = some (.int .i64 a0_10) := (blk_cell BK107.out 10).trans rfl
            refine value_ (w1 := w') (v := .int .i64 a0_2) (by rfl) rfl ?_ ?_
            · go_simp
              (try simp only [i64_w])
              try rfl
              try (simp only [ByteArray.size_append] at *; omega)
            refine hK.out _ _ ⟨v110, v114, (by rw [ha.out]; exact putSel_upk 2 hb_ rfl rfl rfl), Q_BK107, Q_HB, fun h0_ => absurd ((hoff 8 (by kernel_rfl)).symm.trans h0_) (by decide), Q_HO115⟩
          refine steps_cons ?_ ?_
          · rintro b a w' ⟨v110, v114, ha, Q_BK107, Q_HB, Q_HO111, Q_HO115⟩ hb_ hon hoff
            refine ⟨_, rfl, fun K hK => ?_⟩
            have e14 : a.tmps[14]? = some (.pointer (some ⟨gb107, 3, none⟩)) := by rw [ha]; exact (putSel_off rfl).trans rfl
            replace ha := Aside0.mk ha
            have BK107 := Aside0.mk Q_BK107
            have HB := Aside0.mk Q_HB
            have hc0_ : w'.cell? ⟨gb107, 0, none⟩ = some (.int .i64 a0_0) := (blk_cell BK107.out 0).trans rfl
            have hc1_ : w'.cell? ⟨gb107, 1, none⟩ = some (.int .i64 a0_1) := (blk_cell BK107.out 1).trans rfl
            have hc2_ : w'.cell? ⟨gb107, 2, none⟩ = some (.int .i64 a0_2) := (blk_cell BK107.out 2).trans rfl
            have hc3_ : w'.cell? ⟨gb107, 3, none⟩ = some (.int .i64 a0_3) := (blk_cell BK107.out 3).trans rfl
            have hc4_ : w'.cell? ⟨gb107, 4, none⟩ = some (.string a0_4) := (blk_cell BK107.out 4).trans rfl
            have hc5_ : w'.cell? ⟨gb107, 5, none⟩ = some (.int .i64 a0_5) := (blk_cell BK107.out 5).trans rfl
            have hc6_ : w'.cell? ⟨gb107, 6, none⟩ = some (.string a0_6) := (blk_cell BK107.out 6).trans rfl
            have hc7_ : w'.cell? ⟨gb107, 7, none⟩ = some (.string a0_7) := (blk_cell BK107.out 7).trans rfl
            have hc8_ : w'.cell? ⟨gb107, 8, none⟩ = some (.string a0_8) := (blk_cell BK107.out 8).trans rfl
            have hc9_ : w'.cell? ⟨gb107, 9, none⟩ = some (.string a0_9) := (blk_cell BK107.out 9).trans rfl
            have hc10_ : w'.cell? ⟨gb107, 10, none⟩ = some (.int .i64 a0_10) := (blk_cell BK107.out 10).trans rfl
            refine value_ (w1 := w') (v := .int .i64 a0_3) (by rfl) rfl ?_ ?_
            · go_simp
              (try simp only [i64_w])
              try rfl
              try (simp only [ByteArray.size_append] at *; omega)
            refine hK.out _ _ ⟨v110, v114, (by rw [ha.out]; exact putSel_upk 3 hb_ rfl rfl rfl), Q_BK107, Q_HB, fun h0_ => absurd ((hoff 8 (by kernel_rfl)).symm.trans h0_) (by decide), Q_HO115⟩
          refine steps_cons ?_ ?_
          · rintro b a w' ⟨v110, v114, ha, Q_BK107, Q_HB, Q_HO111, Q_HO115⟩ hb_ hon hoff
            refine ⟨_, rfl, fun K hK => ?_⟩
            have e9 : a.tmps[9]? = some (.int .i64 a0_0) := by rw [ha]; exact putSel_on (e := (1, 9, .int .i64 a0_0)) 0 rfl rfl (hon 1 (by kernel_rfl)) rfl
            have e11 : a.tmps[11]? = some (.int .i64 a0_1) := by rw [ha]; exact putSel_on (e := (3, 11, .int .i64 a0_1)) 1 rfl rfl (hon 3 (by kernel_rfl)) rfl
            have e13 : a.tmps[13]? = some (.int .i64 a0_2) := by rw [ha]; exact putSel_on (e := (5, 13, .int .i64 a0_2)) 2 rfl rfl (hon 5 (by kernel_rfl)) rfl
            have e15 : a.tmps[15]? = some (.int .i64 a0_3) := by rw [ha]; exact putSel_on (e := (7, 15, .int .i64 a0_3)) 3 rfl rfl (hon 7 (by kernel_rfl)) rfl
            replace ha := Aside0.mk ha
            have BK107 := Aside0.mk Q_BK107
            have HB := Aside0.mk Q_HB
            refine Kd.R_lit_step (Kd.int .i64) _ 3 ?hg (N := 16) ?hd (xs := ([a0_0, a0_1, a0_2, a0_3] : List Int)) (inner := [.int .i64 a0_0, .int .i64 a0_1, .int .i64 a0_2, .int .i64 a0_3]) (ok := fun _ => True) (okp := fun _ => True) ?hr ?hp (fun _ hk => hk) trivial (Below.refl _ _) (Nat.le_refl _) (by simp) ?_; (case hd => rfl); (case hg => rfl); (case hr => first | (go_simp; done) | (go_simp; rfl)); (case hp => exact (Reps.one (show Kd.M (Kd.int .i64) _ _ _ a0_0 [.int .i64 a0_0] from rfl) (Reps.one (show Kd.M (Kd.int .i64) _ _ _ a0_1 [.int .i64 a0_1] from rfl) (Reps.one (show Kd.M (Kd.int .i64) _ _ _ a0_2 [.int .i64 a0_2] from rfl) (Reps.one (show Kd.M (Kd.int .i64) _ _ _ a0_3 [.int .i64 a0_3] from rfl) (Reps.none _ _))))))
            intro v110 w46 ho47 hb hg_ hnew_
            clear hg_ hnew_
            (first | rw [← Ny109.out] at ho47 | (simp only [Int.reduceToNat] at ho47; rw [← Ny109.out] at ho47))
            have n0_ := Aside0.mk (Kd.R_lower ho47 (below_size (by repeat (first | (with_reducible first | exact HB.out | apply below_alloc | apply pw_below_drewN | apply below_drew1 | refine below_set ?_ GE107.out) | exact HB.out))))
            have n1_ := Aside0.mk (blk_below (g := gb107) (o := .cells #[.int .i64 a0_0, .int .i64 a0_1, .int .i64 a0_2, .int .i64 a0_3, .string a0_4, .int .i64 a0_5, .string a0_6, .string a0_7, .string a0_8, .string a0_9, .int .i64 a0_10] 25 (0, 0)) (by (with_reducible repeat (first | refine blk_drewN ?_ _ | refine blk_drew ?_ | refine blk_alloc ?_ _)); exact BK107.out) hb)
            have n2_ := Aside0.mk (below_step (by repeat (first | (with_reducible first | exact HB.out | apply below_alloc | apply pw_below_drewN | apply below_drew1 | refine below_set ?_ GE107.out) | exact HB.out)) hb)
            have z_HO115 := fun (h0_ : b 12 = true) => (show Kd.R Kd.string 9 w46 w.heap.size (fun _ => True) v114 y113 from by first | exact (Kd.R_below (by (with_reducible repeat (first | apply Kd.R_alloc | apply Kd.R_drewN | apply Kd.R_drew)); exact (Q_HO115 h0_)) hb) | exact Kd.R_mono (Kd.R_below (by (with_reducible repeat (first | apply Kd.R_alloc | apply Kd.R_drewN | apply Kd.R_drew)); exact (Q_HO115 h0_)) hb) (fun _ h_ => by first | trivial | exact h_ | exact h_.1))
            clear BK107
            clear HB
            have HO111 := n0_
            have BK107 := n1_
            have HB := n2_
            clear n0_ n1_ n2_
            clear hb ho47
            refine hK.out _ _ ⟨v110, v114, (by rw [ha.out]; exact putSel_upk 4 hb_ rfl rfl rfl), (by (with_reducible repeat (first | refine blk_drewN ?_ _ | refine blk_drew ?_ | refine blk_alloc ?_ _)); exact BK107.out), (by repeat (first | (with_reducible first | exact HB.out | apply below_alloc | apply pw_below_drewN | apply below_drew1 | refine below_set ?_ GE107.out) | exact HB.out)), fun _ => (by (with_reducible repeat (first | apply Kd.R_alloc | apply Kd.R_drewN | apply Kd.R_drew)); exact HO111.out), z_HO115⟩
          refine steps_cons ?_ ?_
          · rintro b a w' ⟨v110, v114, ha, Q_BK107, Q_HB, Q_HO111, Q_HO115⟩ hb_ hon hoff
            refine ⟨_, rfl, fun K hK => ?_⟩
            have e16 : a.tmps[16]? = some (v110) := by rw [ha]; exact putSel_on (e := (8, 16, v110)) 4 rfl rfl (hon 8 (by kernel_rfl)) rfl
            replace ha := Aside0.mk ha
            have BK107 := Aside0.mk Q_BK107
            have HB := Aside0.mk Q_HB
            have HO111 := Aside0.mk (Q_HO111 (hon 8 (by kernel_rfl)))
            obtain ⟨Ao49, co49, eo49⟩ := Kd.R_slice HO111.out
            (first | subst eo49 | (injection eo49 with f1_ f2_ f3_; have f4_ := f1_.symm; have f5_ := f3_.symm; clear f1_ f2_ f3_; subst f4_; subst f5_))
            refine goes_ Tryd.func21 (by kernel_rfl) rfl #[.slice Ao49 y109.length co49] (by rfl) rfl rfl (by first | (simp only [List.map_toArray, List.map_cons, List.map_nil, Act.eval, Array.getD_eq_getD_getElem?, Option.getD_some, e16]; done) | (simp only [List.map_toArray, List.map_cons, List.map_nil, Act.eval, Array.getD_eq_getD_getElem?, Option.getD_some, e16]; rfl)) ?_
            with_reducible refine (wire_nums.calls _ _ y109 t112 _ ?side1 ?side2 A4.out).mono ?_
            (case side1 => repeat (first | exact (Kd.R_reads' HO111.out).2.2 | (with_reducible refine Kd.C_alloc ?_ _) | (with_reducible refine Kd.C_drewN ?_ _) | (with_reducible refine Kd.C_drew ?_)))
            (case side2 => exact (Kd.R_reads' HO111.out).2.1)
            rintro e w50 ⟨rfl, hb⟩
            refine ⟨_, rfl, ?_⟩
            have n0_ := Aside0.mk (Kd.R_below (by (with_reducible repeat (first | apply Kd.R_alloc | apply Kd.R_drewN | apply Kd.R_drew)); exact HO111.out) hb)
            have n1_ := Aside0.mk (blk_below (g := gb107) (o := .cells #[.int .i64 a0_0, .int .i64 a0_1, .int .i64 a0_2, .int .i64 a0_3, .string a0_4, .int .i64 a0_5, .string a0_6, .string a0_7, .string a0_8, .string a0_9, .int .i64 a0_10] 25 (0, 0)) (by (with_reducible repeat (first | refine blk_drewN ?_ _ | refine blk_drew ?_ | refine blk_alloc ?_ _)); exact BK107.out) hb)
            have n2_ := Aside0.mk (below_step (by repeat (first | (with_reducible first | exact HB.out | apply below_alloc | apply pw_below_drewN | apply below_drew1 | refine below_set ?_ GE107.out) | exact HB.out)) hb)
            have z_HO115 := fun (h0_ : b 12 = true) => (show Kd.R Kd.string 9 w50 w.heap.size (fun _ => True) v114 y113 from by first | exact (Kd.R_below (by (with_reducible repeat (first | apply Kd.R_alloc | apply Kd.R_drewN | apply Kd.R_drew)); exact (Q_HO115 h0_)) hb) | exact Kd.R_mono (Kd.R_below (by (with_reducible repeat (first | apply Kd.R_alloc | apply Kd.R_drewN | apply Kd.R_drew)); exact (Q_HO115 h0_)) hb) (fun _ h_ => by first | trivial | exact h_ | exact h_.1))
            clear HO111
            clear BK107
            clear HB
            have HO111 := n0_
            have BK107 := n1_
            have HB := n2_
            clear n0_ n1_ n2_
            (try clear hb)
            (try clear hb2)
            (try clear hk)
            (try clear hi)
            refine hK.out _ _ ⟨.slice Ao49 y109.length co49, v114, (by rw [ha.out]; exact putSel_upk 5 hb_ rfl rfl rfl), (by (with_reducible repeat (first | refine blk_drewN ?_ _ | refine blk_drew ?_ | refine blk_alloc ?_ _)); exact BK107.out), (by repeat (first | (with_reducible first | exact HB.out | apply below_alloc | apply pw_below_drewN | apply below_drew1 | refine below_set ?_ GE107.out) | exact HB.out)), fun _ => (by (with_reducible repeat (first | apply Kd.R_alloc | apply Kd.R_drewN | apply Kd.R_drew)); exact HO111.out), z_HO115⟩
          refine steps_cons ?_ ?_
          · rintro b a w' ⟨v110, v114, ha, Q_BK107, Q_HB, Q_HO111, Q_HO115⟩ hb_ hon hoff
            refine ⟨_, rfl, fun K hK => ?_⟩
            have e18 : a.tmps[18]? = some (.pointer (some ⟨gb107, 4, none⟩)) := by rw [ha]; exact (putSel_off rfl).trans rfl
            replace ha := Aside0.mk ha
            have BK107 := Aside0.mk Q_BK107
            have HB := Aside0.mk Q_HB
            have hc0_ : w'.cell? ⟨gb107, 0, none⟩ = some (.int .i64 a0_0) := (blk_cell BK107.out 0).trans rfl
            have hc1_ : w'.cell? ⟨gb107, 1, none⟩ = some (.int .i64 a0_1) := (blk_cell BK107.out 1).trans rfl
            have hc2_ : w'.cell? ⟨gb107, 2, none⟩ = some (.int .i64 a0_2) := (blk_cell BK107.out 2).trans rfl
            have hc3_ : w'.cell? ⟨gb107, 3, none⟩ = some (.int .i64 a0_3) := (blk_cell BK107.out 3).trans rfl
            have hc4_ : w'.cell? ⟨gb107, 4, none⟩ = some (.string a0_4) := (blk_cell BK107.out 4).trans rfl
            have hc5_ : w'.cell? ⟨gb107, 5, none⟩ = some (.int .i64 a0_5) := (blk_cell BK107.out 5).trans rfl
            have hc6_ : w'.cell? ⟨gb107, 6, none⟩ = some (.string a0_6) := (blk_cell BK107.out 6).trans rfl
            have hc7_ : w'.cell? ⟨gb107, 7, none⟩ = some (.string a0_7) := (blk_cell BK107.out 7).trans rfl
            have hc8_ : w'.cell? ⟨gb107, 8, none⟩ = some (.string a0_8) := (blk_cell BK107.out 8).trans rfl
            have hc9_ : w'.cell? ⟨gb107, 9, none⟩ = some (.string a0_9) := (blk_cell BK107.out 9).trans rfl
            have hc10_ : w'.cell? ⟨gb107, 10, none⟩ = some (.int .i64 a0_10) := (blk_cell BK107.out 10).trans rfl
            refine value_ (w1 := w') (v := .string a0_4) (by rfl) rfl ?_ ?_
            · go_simp
              (try simp only [i64_w])
              try rfl
              try (simp only [ByteArray.size_append] at *; omega)
            refine hK.out _ _ ⟨v110, v114, (by rw [ha.out]; exact putSel_upk 6 hb_ rfl rfl rfl), Q_BK107, Q_HB, Q_HO111, fun h0_ => absurd ((hoff 12 (by kernel_rfl)).symm.trans h0_) (by decide)⟩
          refine steps_cons ?_ ?_
          · rintro b a w' ⟨v110, v114, ha, Q_BK107, Q_HB, Q_HO111, Q_HO115⟩ hb_ hon hoff
            refine ⟨_, rfl, fun K hK => ?_⟩
            have e19 : a.tmps[19]? = some (.string a0_4) := by rw [ha]; exact putSel_on (e := (11, 19, .string a0_4)) 6 rfl rfl (hon 11 (by kernel_rfl)) rfl
            replace ha := Aside0.mk ha
            have BK107 := Aside0.mk Q_BK107
            have HB := Aside0.mk Q_HB
            refine Kd.R_lit_step Kd.string _ 9 ?hg (N := 20) ?hd (xs := ([a0_4] : List ByteArray)) (inner := [.string a0_4]) (ok := fun _ => True) (okp := fun _ => True) ?hr ?hp (fun _ hk => hk) trivial (Below.refl _ _) (Nat.le_refl _) (by simp) ?_; (case hd => rfl); (case hg => rfl); (case hr => first | (go_simp; done) | (go_simp; rfl)); (case hp => exact (Reps.one (show Kd.M Kd.string _ _ _ a0_4 [.string a0_4] from rfl) (Reps.none _ _)))
            intro v114 w46 ho47 hb hg_ hnew_
            clear hg_ hnew_
            (first | rw [← Ny113.out] at ho47 | (simp only [Int.reduceToNat] at ho47; rw [← Ny113.out] at ho47))
            have n0_ := Aside0.mk (Kd.R_lower ho47 (below_size (by repeat (first | (with_reducible first | exact HB.out | apply below_alloc | apply pw_below_drewN | apply below_drew1 | refine below_set ?_ GE107.out) | exact HB.out))))
            have n1_ := Aside0.mk (blk_below (g := gb107) (o := .cells #[.int .i64 a0_0, .int .i64 a0_1, .int .i64 a0_2, .int .i64 a0_3, .string a0_4, .int .i64 a0_5, .string a0_6, .string a0_7, .string a0_8, .string a0_9, .int .i64 a0_10] 25 (0, 0)) (by (with_reducible repeat (first | refine blk_drewN ?_ _ | refine blk_drew ?_ | refine blk_alloc ?_ _)); exact BK107.out) hb)
            have n2_ := Aside0.mk (below_step (by repeat (first | (with_reducible first | exact HB.out | apply below_alloc | apply pw_below_drewN | apply below_drew1 | refine below_set ?_ GE107.out) | exact HB.out)) hb)
            have z_HO111 := fun (h0_ : b 8 = true) => (show Kd.R (Kd.int .i64) 3 w46 w.heap.size (fun _ => True) v110 y109 from by first | exact (Kd.R_below (by (with_reducible repeat (first | apply Kd.R_alloc | apply Kd.R_drewN | apply Kd.R_drew)); exact (Q_HO111 h0_)) hb) | exact Kd.R_mono (Kd.R_below (by (with_reducible repeat (first | apply Kd.R_alloc | apply Kd.R_drewN | apply Kd.R_drew)); exact (Q_HO111 h0_)) hb) (fun _ h_ => by first | trivial | exact h_ | exact h_.1))
            clear BK107
            clear HB
            have HO115 := n0_
            have BK107 := n1_
            have HB := n2_
            clear n0_ n1_ n2_
            clear hb ho47
            refine hK.out _ _ ⟨v110, v114, (by rw [ha.out]; exact putSel_upk 7 hb_ rfl rfl rfl), (by (with_reducible repeat (first | refine blk_drewN ?_ _ | refine blk_drew ?_ | refine blk_alloc ?_ _)); exact BK107.out), (by repeat (first | (with_reducible first | exact HB.out | apply below_alloc | apply pw_below_drewN | apply below_drew1 | refine below_set ?_ GE107.out) | exact HB.out)), z_HO111, fun _ => (by (with_reducible repeat (first | apply Kd.R_alloc | apply Kd.R_drewN | apply Kd.R_drew)); exact HO115.out)⟩
          refine steps_cons ?_ ?_
          · rintro b a w' ⟨v110, v114, ha, Q_BK107, Q_HB, Q_HO111, Q_HO115⟩ hb_ hon hoff
            refine ⟨_, rfl, fun K hK => ?_⟩
            have e20 : a.tmps[20]? = some (v114) := by rw [ha]; exact putSel_on (e := (12, 20, v114)) 7 rfl rfl (hon 12 (by kernel_rfl)) rfl
            replace ha := Aside0.mk ha
            have BK107 := Aside0.mk Q_BK107
            have HB := Aside0.mk Q_HB
            have HO111 := Aside0.mk (Q_HO111 (hon 8 (by kernel_rfl)))
            have HO115 := Aside0.mk (Q_HO115 (hon 12 (by kernel_rfl)))
            obtain ⟨Ao53, co53, eo53⟩ := Kd.R_slice HO115.out
            (first | subst eo53 | (injection eo53 with f1_ f2_ f3_; have f4_ := f1_.symm; have f5_ := f3_.symm; clear f1_ f2_ f3_; subst f4_; subst f5_))
            refine goes_ Tryd.func22 (by kernel_rfl) rfl #[.slice Ao53 y113.length co53] (by rfl) rfl rfl (by first | (simp only [List.map_toArray, List.map_cons, List.map_nil, Act.eval, Array.getD_eq_getD_getElem?, Option.getD_some, e20]; done) | (simp only [List.map_toArray, List.map_cons, List.map_nil, Act.eval, Array.getD_eq_getD_getElem?, Option.getD_some, e20]; rfl)) ?_
            with_reducible refine (wire_texts.calls _ _ y113 t116 _ ?side1 ?side2 A5.out).mono ?_
            (case side1 => repeat (first | exact (Kd.R_reads' HO115.out).2.2 | (with_reducible refine Kd.C_alloc ?_ _) | (with_reducible refine Kd.C_drewN ?_ _) | (with_reducible refine Kd.C_drew ?_)))
            (case side2 => exact (Kd.R_reads' HO115.out).2.1)
            rintro e w54 ⟨rfl, hb⟩
            refine ⟨_, rfl, ?_⟩
            have n0_ := Aside0.mk (Kd.R_below (by (with_reducible repeat (first | apply Kd.R_alloc | apply Kd.R_drewN | apply Kd.R_drew)); exact HO111.out) hb)
            have n1_ := Aside0.mk (Kd.R_below (by (with_reducible repeat (first | apply Kd.R_alloc | apply Kd.R_drewN | apply Kd.R_drew)); exact HO115.out) hb)
            have n2_ := Aside0.mk (blk_below (g := gb107) (o := .cells #[.int .i64 a0_0, .int .i64 a0_1, .int .i64 a0_2, .int .i64 a0_3, .string a0_4, .int .i64 a0_5, .string a0_6, .string a0_7, .string a0_8, .string a0_9, .int .i64 a0_10] 25 (0, 0)) (by (with_reducible repeat (first | refine blk_drewN ?_ _ | refine blk_drew ?_ | refine blk_alloc ?_ _)); exact BK107.out) hb)
            have n3_ := Aside0.mk (below_step (by repeat (first | (with_reducible first | exact HB.out | apply below_alloc | apply pw_below_drewN | apply below_drew1 | refine below_set ?_ GE107.out) | exact HB.out)) hb)
            clear HO111
            clear HO115
            clear BK107
            clear HB
            have HO111 := n0_
            have HO115 := n1_
            have BK107 := n2_
            have HB := n3_
            clear n0_ n1_ n2_ n3_
            (try clear hb)
            (try clear hb2)
            (try clear hk)
            (try clear hi)
            refine hK.out _ _ ⟨v110, .slice Ao53 y113.length co53, (by rw [ha.out]; exact putSel_upk 8 hb_ rfl rfl rfl), (by (with_reducible repeat (first | refine blk_drewN ?_ _ | refine blk_drew ?_ | refine blk_alloc ?_ _)); exact BK107.out), (by repeat (first | (with_reducible first | exact HB.out | apply below_alloc | apply pw_below_drewN | apply below_drew1 | refine below_set ?_ GE107.out) | exact HB.out)), fun _ => (by (with_reducible repeat (first | apply Kd.R_alloc | apply Kd.R_drewN | apply Kd.R_drew)); exact HO111.out), fun _ => (by (with_reducible repeat (first | apply Kd.R_alloc | apply Kd.R_drewN | apply Kd.R_drew)); exact HO115.out)⟩
          refine steps_cons ?_ ?_
          · rintro b a w' ⟨v110, v114, ha, Q_BK107, Q_HB, Q_HO111, Q_HO115⟩ hb_ hon hoff
            refine ⟨_, rfl, fun K hK => ?_⟩
            have e17 : a.tmps[17]? = some (.string t112) := by rw [ha]; exact putSel_on (e := (9, 17, .string t112)) 5 rfl rfl (hon 9 (by kernel_rfl)) rfl
            have e21 : a.tmps[21]? = some (.string t116) := by rw [ha]; exact putSel_on (e := (13, 21, .string t116)) 8 rfl rfl (hon 13 (by kernel_rfl)) rfl
            replace ha := Aside0.mk ha
            have BK107 := Aside0.mk Q_BK107
            have HB := Aside0.mk Q_HB
            have HO111 := Aside0.mk (Q_HO111 (hon 8 (by kernel_rfl)))
            have HO115 := Aside0.mk (Q_HO115 (hon 12 (by kernel_rfl)))
            refine value_ (w1 := w') (v := .string (t112 ++ t116)) (by rfl) rfl ?_ ?_
            · go_simp
              (try simp only [i64_w])
              try rfl
              try (simp only [ByteArray.size_append] at *; omega)
            refine hK.out _ _ ⟨v110, v114, (by rw [ha.out]; exact putSel_upk 9 hb_ rfl rfl rfl), Q_BK107, Q_HB, Q_HO111, Q_HO115⟩
          refine steps_cons ?_ ?_
          · rintro b a w' ⟨v110, v114, ha, Q_BK107, Q_HB, Q_HO111, Q_HO115⟩ hb_ hon hoff
            refine ⟨_, rfl, fun K hK => ?_⟩
            have e22 : a.tmps[22]? = some (.string (t112 ++ t116)) := by rw [ha]; exact putSel_on (e := (14, 22, .string (t112 ++ t116))) 9 rfl rfl (hon 14 (by kernel_rfl)) rfl
            replace ha := Aside0.mk ha
            have BK107 := Aside0.mk Q_BK107
            have HB := Aside0.mk Q_HB
            have HO111 := Aside0.mk (Q_HO111 (hon 8 (by kernel_rfl)))
            have HO115 := Aside0.mk (Q_HO115 (hon 12 (by kernel_rfl)))
            refine value_ (w1 := w') (v := .string (t112 ++ t116)) (by rfl) rfl ?_ ?_
            · go_simp
              (try simp only [i64_w])
              try rfl
              try (simp only [ByteArray.size_append] at *; omega)
            refine hK.out _ _ ⟨v110, v114, (by rw [ha.out]; exact putSel_upk 10 hb_ rfl rfl rfl), Q_BK107, Q_HB, Q_HO111, Q_HO115⟩
          exact steps_nil
        rintro b a w54 hall ⟨v110, v114, ha, Q_BK107, Q_HB, Q_HO111, Q_HO115⟩
        clear BK107 HB
        have hb1_ := hall 1 (by kernel_rfl)
        have hb3_ := hall 3 (by kernel_rfl)
        have hb5_ := hall 5 (by kernel_rfl)
        have hb7_ := hall 7 (by kernel_rfl)
        have hb8_ := hall 8 (by kernel_rfl)
        have hb9_ := hall 9 (by kernel_rfl)
        have hb11_ := hall 11 (by kernel_rfl)
        have hb12_ := hall 12 (by kernel_rfl)
        have hb13_ := hall 13 (by kernel_rfl)
        have hb14_ := hall 14 (by kernel_rfl)
        have hb15_ := hall 15 (by kernel_rfl)
        subst ha
        simp only [putSel, hb1_, hb3_, hb5_, hb7_, hb8_, hb9_, hb11_, hb12_, hb13_, hb14_, hb15_, if_true, Act.put, List.setIfInBounds_toArray, List.set_cons_zero, List.set_cons_succ]
        have BK107 := Aside0.mk Q_BK107
        clear Q_BK107
        have HB := Aside0.mk Q_HB
        clear Q_HB
        have HO111 := Aside0.mk (Q_HO111 hb8_)
        clear Q_HO111
        have HO115 := Aside0.mk (Q_HO115 hb12_)
        clear Q_HO115
        clear hall hb1_ hb3_ hb5_ hb7_ hb8_ hb9_ hb11_ hb12_ hb13_ hb14_ hb15_
        have hcz55_0 : w54.cell? ⟨gb107, 0, none⟩ = some (.int .i64 a0_0) := (blk_cell BK107.out 0).trans rfl
        have hcz55_1 : w54.cell? ⟨gb107, 1, none⟩ = some (.int .i64 a0_1) := (blk_cell BK107.out 1).trans rfl
        have hcz55_2 : w54.cell? ⟨gb107, 2, none⟩ = some (.int .i64 a0_2) := (blk_cell BK107.out 2).trans rfl
        have hcz55_3 : w54.cell? ⟨gb107, 3, none⟩ = some (.int .i64 a0_3) := (blk_cell BK107.out 3).trans rfl
        have hcz55_4 : w54.cell? ⟨gb107, 4, none⟩ = some (.string a0_4) := (blk_cell BK107.out 4).trans rfl
        have hcz55_5 : w54.cell? ⟨gb107, 5, none⟩ = some (.int .i64 a0_5) := (blk_cell BK107.out 5).trans rfl
        have hcz55_6 : w54.cell? ⟨gb107, 6, none⟩ = some (.string a0_6) := (blk_cell BK107.out 6).trans rfl
        have hcz55_7 : w54.cell? ⟨gb107, 7, none⟩ = some (.string a0_7) := (blk_cell BK107.out 7).trans rfl
        have hcz55_8 : w54.cell? ⟨gb107, 8, none⟩ = some (.string a0_8) := (blk_cell BK107.out 8).trans rfl
        have hcz55_9 : w54.cell? ⟨gb107, 9, none⟩ = some (.string a0_9) := (blk_cell BK107.out 9).trans rfl
        have hcz55_10 : w54.cell? ⟨gb107, 10, none⟩ = some (.int .i64 a0_10) := (blk_cell BK107.out 10).trans rfl
        have hfz55_0 := blk_frozen BK107.out 0
        have hfz55_1 := blk_frozen BK107.out 1
        have hfz55_2 := blk_frozen BK107.out 2
        have hfz55_3 := blk_frozen BK107.out 3
        have hfz55_4 := blk_frozen BK107.out 4
        have hfz55_5 := blk_frozen BK107.out 5
        have hfz55_6 := blk_frozen BK107.out 6
        have hfz55_7 := blk_frozen BK107.out 7
        have hfz55_8 := blk_frozen BK107.out 8
        have hfz55_9 := blk_frozen BK107.out 9
        have hfz55_10 := blk_frozen BK107.out 10
        try go_wp2
        go_ret2
        exact ⟨by first | rfl | (simp [errW_none, errW_some] <;> rfl) | (simp [*, errW_none, errW_some] <;> rfl), by repeat (first | (with_reducible first | exact HB.out | apply below_alloc | apply pw_below_drewN | apply below_drew1 | refine below_set ?_ GE107.out) | exact HB.out)⟩
    · rw [if_neg c6] at H
      exact absurd H (by simp)
  · replace c3 := Bool.eq_false_iff.mpr c3
    subst c3
    have H1 : (some ((⟨#[]⟩ : ByteArray), 1)) = some (r1, r2) := by rw [if_neg (show ¬ (false = true) by decide)] at H; exact H
    clear H
    have H := H1
    clear H1
    simp only [Option.some.injEq, Prod.mk.injEq] at H
    obtain ⟨rfl, rfl⟩ := H
    go_enter Tryd.func9, Tryd.ntmps9
    go_wp2_with (first | ((with_reducible refine gate_dst (N := 1) rfl ?_); refine box_event ?hg (N := 1) ?hd (cs := #[.int .i64 a0_0, .int .i64 a0_1, .int .i64 a0_2, .int .i64 a0_3, .string a0_4, .int .i64 a0_5, .string a0_6, .string a0_7, .string a0_8, .string a0_9, .int .i64 a0_10]) (t := 25) ?hr ?_; (case hd => rfl); (case hg => rfl); (case hr => first | (go_simp; done) | (go_simp; rfl)); intro gb107 hg w56 hbox hb; have n0_ := Aside0.mk (below_step (by repeat (first | (with_reducible first | exact HB.out | apply below_alloc | apply pw_below_drewN | apply below_drew1) | exact HB.out)) hb); have n1_ := Aside0.mk (hbox); have n2_ := Aside0.mk ((by rw [hg]; exact (below_size (by repeat (first | (with_reducible first | exact HB.out | apply below_alloc | apply pw_below_drewN | apply below_drew1) | exact HB.out))) : w.heap.size ≤ gb107)); have n3_ := Aside0.mk ((by rw [hg]; exact (below_size (by repeat (first | (with_reducible first | exact HB.out | apply below_alloc | apply pw_below_drewN | apply below_drew1) | exact HB.out))) : w.heap.size ≤ gb107)); clear HB; have HB := n0_; have BK107 := n1_; have GW107 := n2_; have GE107 := n3_; clear n0_ n1_ n2_ n3_; clear hb hbox hg; have hcz57_0 : w56.cell? ⟨gb107, 0, none⟩ = some (.int .i64 a0_0) := (blk_cell BK107.out 0).trans rfl; have hcz57_1 : w56.cell? ⟨gb107, 1, none⟩ = some (.int .i64 a0_1) := (blk_cell BK107.out 1).trans rfl; have hcz57_2 : w56.cell? ⟨gb107, 2, none⟩ = some (.int .i64 a0_2) := (blk_cell BK107.out 2).trans rfl; have hcz57_3 : w56.cell? ⟨gb107, 3, none⟩ = some (.int .i64 a0_3) := (blk_cell BK107.out 3).trans rfl; have hcz57_4 : w56.cell? ⟨gb107, 4, none⟩ = some (.string a0_4) := (blk_cell BK107.out 4).trans rfl; have hcz57_5 : w56.cell? ⟨gb107, 5, none⟩ = some (.int .i64 a0_5) := (blk_cell BK107.out 5).trans rfl; have hcz57_6 : w56.cell? ⟨gb107, 6, none⟩ = some (.string a0_6) := (blk_cell BK107.out 6).trans rfl; have hcz57_7 : w56.cell? ⟨gb107, 7, none⟩ = some (.string a0_7) := (blk_cell BK107.out 7).trans rfl; have hcz57_8 : w56.cell? ⟨gb107, 8, none⟩ = some (.string a0_8) := (blk_cell BK107.out 8).trans rfl; have hcz57_9 : w56.cell? ⟨gb107, 9, none⟩ = some (.string a0_9) := (blk_cell BK107.out 9).trans rfl; have hcz57_10 : w56.cell? ⟨gb107, 10, none⟩ = some (.int .i64 a0_10) := (blk_cell BK107.out 10).trans rfl; have hfz57_0 := blk_frozen BK107.out 0; have hfz57_1 := blk_frozen BK107.out 1; have hfz57_2 := blk_frozen BK107.out 2; have hfz57_3 := blk_frozen BK107.out 3; have hfz57_4 := blk_frozen BK107.out 4; have hfz57_5 := blk_frozen BK107.out 5; have hfz57_6 := blk_frozen BK107.out 6; have hfz57_7 := blk_frozen BK107.out 7; have hfz57_8 := blk_frozen BK107.out 8; have hfz57_9 := blk_frozen BK107.out 9; have hfz57_10 := blk_frozen BK107.out 10) | ((with_reducible refine gate_callee (f := 13) rfl ?_); refine goesL_ (some 6) rfl rfl Tryd.func13 (by kernel_rfl) rfl #[.agg #[.int .i64 a0_0, .int .i64 a0_1, .int .i64 a0_2, .int .i64 a0_3, .string a0_4, .int .i64 a0_5, .string a0_6, .string a0_7, .string a0_8, .string a0_9, .int .i64 a0_10]] rfl (by (try simp only [List.map_toArray, List.map_cons, List.map_nil]); first | done | rfl | (simp only [List.length_drop, List.length_take]; rfl)) ?_; (with_reducible refine (wire_MayReq.calls k a0_0 a0_1 a0_2 a0_3 a0_4 a0_5 a0_6 a0_7 a0_8 a0_9 a0_10 false _ A2.out).mono ?_); rintro e w58 ⟨rfl, hb⟩; refine ⟨_, rfl, ?_⟩; have n0_ := Aside0.mk (blk_below (g := gb107) (o := .cells #[.int .i64 a0_0, .int .i64 a0_1, .int .i64 a0_2, .int .i64 a0_3, .string a0_4, .int .i64 a0_5, .string a0_6, .string a0_7, .string a0_8, .string a0_9, .int .i64 a0_10] 25 (0, 0)) (by (with_reducible repeat (first | refine blk_drewN ?_ _ | refine blk_drew ?_ | refine blk_alloc ?_ _)); exact BK107.out) hb); have n1_ := Aside0.mk (below_step (by repeat (first | (with_reducible first | exact HB.out | apply below_alloc | apply pw_below_drewN | apply below_drew1 | refine below_set ?_ GE107.out) | exact HB.out)) hb); clear BK107; clear HB; have BK107 := n0_; have HB := n1_; clear n0_ n1_; (try clear hb); (try clear hb2); (try clear hk); (try clear hi)))
    go_ret2
    exact ⟨by first | rfl | (simp [errW_none, errW_some] <;> rfl) | (simp [*, errW_none, errW_some] <;> rfl), by repeat (first | (with_reducible first | exact HB.out | apply below_alloc | apply pw_below_drewN | apply below_drew1 | refine below_set ?_ GE107.out) | exact HB.out)⟩

end Go.Proofs.YtlpcidjmaeicoaaDoor.QWi

/-! QWix6 -/
namespace Go.Proofs.YtlpcidjmaeicoaaDoor.QWi
open Go.RowKit Go.Proofs.YtlpcidjmaeicoaaDoorW.PrintWords Go.Proofs.YtlpcidjmaeicoaaDoorW.PrintLast Go.Proofs.YtlpcidjmaeicoaaDoorW.PrintMore
attribute [local go_sem] max2_int min2_int max_two min_two max_three min_three max_four min_four   -- for this text's walks alone
set_option linter.unusedVariables false
set_option linter.unusedSimpArgs false

/-! ### stanchionlaw16_shown: function 8 -/
def stanchionlaw16_shown.f (k : Nat)  : Option (Bool) := (wire_Req.f k 4 1 2 3 (⟨#[116]⟩ : ByteArray) 0 (⟨#[]⟩ : ByteArray) (⟨#[]⟩ : ByteArray) (⟨#[]⟩ : ByteArray) (⟨#[]⟩ : ByteArray) 0).bind fun bt129 => (if bt129.1.toList = ([52, 59, 49, 59, 50, 59, 51, 59, 49, 59, 116] : List UInt8) then (some (bt129.2 == 0)) else (some false))
set_option maxHeartbeats 8000000 in
set_option maxRecDepth 100000 in
theorem stanchionlaw16_shown.calls (k : Nat)  (r : Bool) (w : World) (h : stanchionlaw16_shown.f k  = some r) :
    Calls Tryd.prog 8 #[] w fun e w' => e = .returned (.bool r) ∧ Below w.heap.size w w' := by
  have hu25 := Tryd.underlying25
  have HB := Aside0.mk (Below.refl w.heap.size w)
  have H : ((wire_Req.f k 4 1 2 3 (⟨#[116]⟩ : ByteArray) 0 (⟨#[]⟩ : ByteArray) (⟨#[]⟩ : ByteArray) (⟨#[]⟩ : ByteArray) (⟨#[]⟩ : ByteArray) 0).bind fun bt129 => (if bt129.1.toList = ([52, 59, 49, 59, 50, 59, 51, 59, 49, 59, 116] : List UInt8) then (some (bt129.2 == 0)) else (some false))) = some r := h
  clear h
  replace H := Option.bind_eq_some_iff.mp H
  obtain ⟨⟨t129, t130⟩, A10, H⟩ := H
  replace H : (if t129.toList = ([52, 59, 49, 59, 50, 59, 51, 59, 49, 59, 116] : List UInt8) then (some (t130 == 0)) else (some false)) = some r := H
  have A1 := Aside0.mk A10
  clear A10
  by_cases c2 : t129.toList = ([52, 59, 49, 59, 50, 59, 51, 59, 49, 59, 116] : List UInt8)
  · rw [if_pos c2] at H
    have c2b0 : (t129.toList == ([52, 59, 49, 59, 50, 59, 51, 59, 49, 59, 116] : List UInt8)) = true := beq_iff_eq.mpr c2
    have c2b1 : (t129.toList != ([52, 59, 49, 59, 50, 59, 51, 59, 49, 59, 116] : List UInt8)) = false := bne_eq_false_iff_eq.mpr c2
    clear c2
    obtain rfl := Option.some.inj H
    go_enter Tryd.func8, Tryd.ntmps8
    go_wp2_with (first | ((with_reducible refine gate_callee (f := 9) rfl ?_); refine goesL_ (some 5) rfl rfl Tryd.func9 (by kernel_rfl) rfl #[.agg #[.int .i64 4, .int .i64 1, .int .i64 2, .int .i64 3, .string (⟨#[116]⟩ : ByteArray), .int .i64 0, .string (⟨#[]⟩ : ByteArray), .string (⟨#[]⟩ : ByteArray), .string (⟨#[]⟩ : ByteArray), .string (⟨#[]⟩ : ByteArray), .int .i64 0]] rfl (by (try simp only [List.map_toArray, List.map_cons, List.map_nil]); first | done | rfl | (simp only [List.length_drop, List.length_take]; rfl)) ?_; (with_reducible refine (wire_Req.calls k 4 1 2 3 (⟨#[116]⟩ : ByteArray) 0 (⟨#[]⟩ : ByteArray) (⟨#[]⟩ : ByteArray) (⟨#[]⟩ : ByteArray) (⟨#[]⟩ : ByteArray) 0 t129 t130 _ A1.out).mono ?_); rintro e w3 ⟨rfl, hb⟩; refine ⟨_, rfl, ?_⟩; have n0_ := Aside0.mk (below_step (by repeat (first | (with_reducible first | exact HB.out | apply below_alloc | apply pw_below_drewN | apply below_drew1) | exact HB.out)) hb); clear HB; have HB := n0_; clear n0_; (try clear hb); (try clear hb2); (try clear hk); (try clear hi)))
    go_ret
    exact ⟨by first | rfl | (simp [errW_none, errW_some] <;> rfl) | (simp [*, errW_none, errW_some] <;> rfl), by repeat (first | (with_reducible first | exact HB.out | apply below_alloc | apply pw_below_drewN | apply below_drew1) | exact HB.out)⟩
  · rw [if_neg c2] at H
    have c2b0 : (t129.toList == ([52, 59, 49, 59, 50, 59, 51, 59, 49, 59, 116] : List UInt8)) = false := beq_eq_false_iff_ne.mpr c2
    have c2b1 : (t129.toList != ([52, 59, 49, 59, 50, 59, 51, 59, 49, 59, 116] : List UInt8)) = true := bne_iff_ne.mpr c2
    obtain rfl := Option.some.inj H
    go_enter Tryd.func8, Tryd.ntmps8
    go_wp2_with (first | ((with_reducible refine gate_callee (f := 9) rfl ?_); refine goesL_ (some 5) rfl rfl Tryd.func9 (by kernel_rfl) rfl #[.agg #[.int .i64 4, .int .i64 1, .int .i64 2, .int .i64 3, .string (⟨#[116]⟩ : ByteArray), .int .i64 0, .string (⟨#[]⟩ : ByteArray), .string (⟨#[]⟩ : ByteArray), .string (⟨#[]⟩ : ByteArray), .string (⟨#[]⟩ : ByteArray), .int .i64 0]] rfl (by (try simp only [List.map_toArray, List.map_cons, List.map_nil]); first | done | rfl | (simp only [List.length_drop, List.length_take]; rfl)) ?_; (with_reducible refine (wire_Req.calls k 4 1 2 3 (⟨#[116]⟩ : ByteArray) 0 (⟨#[]⟩ : ByteArray) (⟨#[]⟩ : ByteArray) (⟨#[]⟩ : ByteArray) (⟨#[]⟩ : ByteArray) 0 t129 t130 _ A1.out).mono ?_); rintro e w4 ⟨rfl, hb⟩; refine ⟨_, rfl, ?_⟩; have n0_ := Aside0.mk (below_step (by repeat (first | (with_reducible first | exact HB.out | apply below_alloc | apply pw_below_drewN | apply below_drew1) | exact HB.out)) hb); clear HB; have HB := n0_; clear n0_; (try clear hb); (try clear hb2); (try clear hk); (try clear hi)))
    go_ret
    exact ⟨by first | rfl | (simp [errW_none, errW_some] <;> rfl) | (simp [*, errW_none, errW_some] <;> rfl), by repeat (first | (with_reducible first | exact HB.out | apply below_alloc | apply pw_below_drewN | apply below_drew1) | exact HB.out)⟩

/-- THE ONE PURE STATEMENT of stanchionlaw16_shown: yours. -/
def stanchionlaw16_shown.Pure : Prop := ∃ k, stanchionlaw16_shown.f k  = some true
/-! ### wire_flag: function 33 -/
def wire_flag.f (a0 : Bool) : Option (Int) := if a0 = true then (some 1) else (some 0)
set_option maxHeartbeats 8000000 in
set_option maxRecDepth 100000 in
theorem wire_flag.calls (a0 : Bool) (r : Int) (w : World) (h : wire_flag.f a0 = some r) :
    Calls Tryd.prog 33 #[.bool a0] w fun e w' => e = .returned (.int .i64 r) ∧ Drawn0 w w' := by
  have H : (if a0 = true then (some 1) else (some 0)) = some r := h
  clear h
  by_cases c2 : a0 = true
  · subst c2
    have H1 : (some 1) = some r := by rw [if_pos rfl] at H; exact H
    clear H
    have H := H1
    clear H1
    obtain rfl := Option.some.inj H
    go_enter Tryd.func33, Tryd.ntmps33
    go_wp2
    go_ret
    exact ⟨by first | rfl | (simp; done) | (simp [*]; done), by repeat (first | exact Drawn0.refl _ | apply Drawn0.step)⟩
  · replace c2 := Bool.eq_false_iff.mpr c2
    subst c2
    have H1 : (some 0) = some r := by rw [if_neg (show ¬ (false = true) by decide)] at H; exact H
    clear H
    have H := H1
    clear H1
    obtain rfl := Option.some.inj H
    go_enter Tryd.func33, Tryd.ntmps33
    go_wp2
    go_ret
    exact ⟨by first | rfl | (simp; done) | (simp [*]; done), by repeat (first | exact Drawn0.refl _ | apply Drawn0.step)⟩

/-! ### table_Right: function 52 -/
def table_Right.l0 : Nat → List (S74) → Int → Option (Bool)
  | 0, _, _ => none
  | k + 1, x0, x3 => if x3 < (x0.length : Int) then (if 0 ≤ (wrap64 (x3 - 1)) then (if (wrap64 (x3 - 1)) < (x0.length : Int) then (if 0 ≤ x3 then (if ((Op.bytesLess (((rd_T74 x0 (wrap64 (x3 - 1))).f0).toList) (((rd_T74 x0 x3).f0).toList)) = true) then (table_Right.l0 k x0 (wrap64 (x3 + 1))) else (some false)) else (none)) else (none)) else (none)) else (some true)
def table_Right.f (k : Nat) (l0 : List (S74)) : Option (Bool) := table_Right.l0 k l0 1
set_option maxHeartbeats 8000000 in
set_option maxRecDepth 100000 in
theorem table_Right.calls (k : Nat) (A0 : Option Addr) (c0 : Nat) (l0 : List (S74)) (r : Bool) (w : World) (hr0 : Kd.C k74 w A0 l0.length l0) (hc0 : l0.length ≤ c0) (h : table_Right.f k l0 = some r) :
    Calls Tryd.prog 52 #[.slice A0 l0.length c0] w fun e w' => e = .returned (.bool r) ∧ Drawn0 w w' := by
  have HR0 := Aside0.mk hr0
  have HC0 := Aside0.mk hc0
  clear hr0 hc0
  have H : (table_Right.l0 k l0 1) = some r := h
  clear h
  have H' := Aside0.mk H
  clear H
  go_enter Tryd.func52, Tryd.ntmps52
  go_wp2
  repeat (go_quiet (fail); try go_wp2)
  go_loopg [3] k (fun kq v3 w' => ∃ (x3_1 : Int), v3 = .int .i64 x3_1 ∧ Aside0 (table_Right.l0 kq l0 x3_1 = some r) ∧ Aside0 (kq ≤ k) ∧ Drawn0 w w')
  case atStart => exact ⟨(1), (by first | rfl | (simp; done) | (simp [*]; done)), H', ⟨Nat.le_refl _⟩, by repeat (first | exact Drawn0.refl _ | apply Drawn0.step)⟩
  case round =>
    clear H'
    obtain ⟨x3_1, rfl, HA, HK1, ⟨m1, rfl⟩⟩ := hrel
    cases gk with
    | zero => exact absurd HA.out (by simp [table_Right.l0])
    | succ k1 =>
      have H := HA.out
      clear HA
      simp only [table_Right.l0] at H
      by_cases c2 : x3_1 < (l0.length : Int)
      · rw [if_pos c2] at H
        have c2b0 : decide (x3_1 < (l0.length : Int)) = true := decide_eq_true c2
        clear c2
        obtain ⟨ji3, hji3⟩ : ∃ j_ : Int, (wrap64 (x3_1 - 1)) = j_ := ⟨_, rfl⟩
        replace H : (if 0 ≤ (ji3) then (if (ji3) < (l0.length : Int) then (if 0 ≤ x3_1 then (if ((Op.bytesLess (((rd_T74 l0 (ji3)).f0).toList) (((rd_T74 l0 x3_1).f0).toList)) = true) then (table_Right.l0 k1 l0 (wrap64 (x3_1 + 1))) else (some false)) else (none)) else (none)) else (none)) = some r := by first | (rw [hji3] at H; exact H) | (simp only [hji3] at H ⊢; exact H)
        have hji3w : (IntKind.i64.wrap (x3_1 - 1)) = ji3 := (i64_w _).trans hji3
        by_cases c4 : 0 ≤ (ji3)
        · rw [if_pos c4] at H
          have c4b0 : decide (0 ≤ (ji3)) = true := decide_eq_true c4
          clear c4
          by_cases c5 : (ji3) < (l0.length : Int)
          · rw [if_pos c5] at H
            have c5b0 : decide ((ji3) < (l0.length : Int)) = true := decide_eq_true c5
            clear c5
            by_cases c6 : 0 ≤ x3_1
            · rw [if_pos c6] at H
              have c6b0 : decide (0 ≤ x3_1) = true := decide_eq_true c6
              clear c6
              by_cases c7 : ((Op.bytesLess (((rd_T74 l0 (ji3)).f0).toList) (((rd_T74 l0 x3_1).f0).toList)) = true)
              · rw [if_pos c7] at H
                have c7b0 : (Op.bytesLess (((rd_T74 l0 (ji3)).f0).toList) (((rd_T74 l0 x3_1).f0).toList)) = true := c7
                clear c7
                have H' := Aside0.mk H
                clear H
                have p131 : 0 ≤ ((ji3) : Int) := of_decide_eq_true (by first | (with_reducible assumption) | assumption)
                have q131 : (ji3) < (l0.length : Int) := of_decide_eq_true (by first | (with_reducible assumption) | assumption)
                obtain ⟨ad131, e131, hx131_0, hx131_1⟩ := at_T74 HR0.out (ji3) p131 q131
                cases e131
                replace p131 := eq_true p131
                replace q131 := eq_true q131
                have p132 : 0 ≤ (x3_1 : Int) := of_decide_eq_true (by first | (with_reducible assumption) | assumption)
                have q132 : x3_1 < (l0.length : Int) := of_decide_eq_true (by first | (with_reducible assumption) | assumption)
                obtain ⟨ad132, e132, hx132_0, hx132_1⟩ := at_T74 HR0.out x3_1 p132 q132
                obtain rfl : ad131 = ad132 := (by injection e132)
                replace p132 := eq_true p132
                replace q132 := eq_true q132
                go_wp2
                repeat (go_quiet (fail); try go_wp2)
                go_roundg k1
                case measure => have := HK1.out; omega
                case rel => exact ⟨(wrap64 (x3_1 + 1)), (by first | rfl | (simp; done) | (simp [*]; done)), H', ⟨by have := HK1.out; omega⟩, by repeat (first | exact Drawn0.refl _ | apply Drawn0.step)⟩
              · rw [if_neg c7] at H
                have c7b0 : (Op.bytesLess (((rd_T74 l0 (ji3)).f0).toList) (((rd_T74 l0 x3_1).f0).toList)) = false := by simpa using c7
                clear c7
                obtain rfl := Option.some.inj H
                have p131 : 0 ≤ ((ji3) : Int) := of_decide_eq_true (by first | (with_reducible assumption) | assumption)
                have q131 : (ji3) < (l0.length : Int) := of_decide_eq_true (by first | (with_reducible assumption) | assumption)
                obtain ⟨ad131, e131, hx131_0, hx131_1⟩ := at_T74 HR0.out (ji3) p131 q131
                cases e131
                replace p131 := eq_true p131
                replace q131 := eq_true q131
                have p132 : 0 ≤ (x3_1 : Int) := of_decide_eq_true (by first | (with_reducible assumption) | assumption)
                have q132 : x3_1 < (l0.length : Int) := of_decide_eq_true (by first | (with_reducible assumption) | assumption)
                obtain ⟨ad132, e132, hx132_0, hx132_1⟩ := at_T74 HR0.out x3_1 p132 q132
                obtain rfl : ad131 = ad132 := (by injection e132)
                replace p132 := eq_true p132
                replace q132 := eq_true q132
                go_wp2
                repeat (go_quiet (fail); try go_wp2)
                go_ret
                exact ⟨by first | rfl | (simp; done) | (simp only [← hji3] <;> (first | rfl | simp)) | (simp [*]; done), by repeat (first | exact Drawn0.refl _ | apply Drawn0.step)⟩
            · rw [if_neg c6] at H
              exact absurd H (by simp)
          · rw [if_neg c5] at H
            exact absurd H (by simp)
        · rw [if_neg c4] at H
          exact absurd H (by simp)
      · rw [if_neg c2] at H
        have c2b0 : decide (x3_1 < (l0.length : Int)) = false := decide_eq_false c2
        clear c2
        obtain rfl := Option.some.inj H
        go_wp2
        repeat (go_quiet (fail); try go_wp2)
        go_ret
        exact ⟨by first | rfl | (simp; done) | (simp [*]; done), by repeat (first | exact Drawn0.refl _ | apply Drawn0.step)⟩

-- NOT PRINTED: function 63 (api_Pair_63)

-- NOT PRINTED: function 53 (api_Pair_53)

end Go.Proofs.YtlpcidjmaeicoaaDoor.QWi

/-! Long -/
/- The closure of wire.mayReply, and the two functions of package slices that call it. -/
namespace Go.Proofs.YtlpcidjmaeicoaaDoor.QWi
open Go Go.RowKit Go.Proofs.YtlpcidjmaeicoaaDoorW.PrintWords Go.Proofs.YtlpcidjmaeicoaaDoorW.PrintLast Go.Proofs.YtlpcidjmaeicoaaDoorW.PrintMore

/-- Is a pair too long? -/
def longP (x : S74) : Bool := decide (32 < x.f0.size) || decide (64 < x.f1.size)
theorem rd_pair (l : List S74) (i : Nat) (hi : i < l.length) : rd_T74 l (i : Int) = l[i] := by
  unfold rd_T74
  simp [List.getElem?_eq_getElem hi]
set_option maxHeartbeats 1000000 in
theorem long_yes (x : S74) (w : World) (h : longP x = true) : Calls Tryd.prog 51 #[.agg #[.string x.f0, .string x.f1]] w fun e w' => e = .returned (.bool true) ∧ Below w.heap.size w w' := by
  unfold longP at h
  obtain ⟨a, b⟩ := x
  simp only at h ⊢
  by_cases h1 : (32 : Int) < a.size
  · clear h
    go_enter Tryd.func51, Tryd.ntmps51
    go_wp2
    go_ret
    exact ⟨rfl, (Below.refl _ _).alloc (Nat.le_refl _) _⟩
  · have h2 : (64 : Int) < b.size := by simp at h; omega
    clear h
    go_enter Tryd.func51, Tryd.ntmps51
    go_wp2
    go_ret
    exact ⟨rfl, (Below.refl _ _).alloc (Nat.le_refl _) _⟩
set_option maxHeartbeats 1000000 in
theorem long_no (x : S74) (w : World) (h : longP x = false) : Calls Tryd.prog 51 #[.agg #[.string x.f0, .string x.f1]] w fun e w' => e = .returned (.bool false) ∧ Below w.heap.size w w' := by
  unfold longP at h
  obtain ⟨a, b⟩ := x
  simp only at h ⊢
  have h1 : ¬ (32 : Int) < a.size := by simp at h; omega
  have h2 : ¬ (64 : Int) < b.size := by simp at h; omega
  clear h
  go_enter Tryd.func51, Tryd.ntmps51
  go_wp2
  go_ret
  exact ⟨rfl, (Below.refl _ _).alloc (Nat.le_refl _) _⟩
/-- What slices.IndexFunc answers: a place, or -1. -/
def Found (l : List S74) (w : World) (e : Ending) (w' : World) : Prop := ∃ z : Int, e = .returned (.int .i64 z) ∧ -1 ≤ z ∧ z ≤ 4611686018427387904 ∧ decide (0 ≤ z) = l.any longP ∧ Below w.heap.size w w'
set_option maxHeartbeats 2000000 in
theorem index_calls (A0 : Option Addr) (c0 : Nat) (l0 : List S74) (w : World) (hr0 : Kd.C k74 w A0 l0.length l0) (hc0 : l0.length ≤ c0) (hl : l0.length ≤ 1048576) :
    Calls Tryd.prog 63 #[.slice A0 l0.length c0, .func (.func 51) #[] #[]] w (Found l0 w) := by
  have HF : Hid (∀ (z : Int) (w' : World), -1 ≤ z → z ≤ 4611686018427387904 → decide (0 ≤ z) = l0.any longP → Below w.heap.size w w' → Found l0 w (.returned (.int .i64 z)) w') := Lib.hid fun z w' h1 h2 h3 h4 => ⟨z, rfl, h1, h2, h3, h4⟩
  have HR := Lib.hid hr0
  have HC := Lib.hid hc0
  have HL := Lib.hid hl
  have b0' : Aside0 (Below w.heap.size w w) := ⟨Below.refl _ _⟩
  clear hr0 hc0 hl
  go_enter Tryd.func63, Tryd.ntmps63
  go_wp2
  go_loopg [8] l0.length (fun kq v8 w' => ∃ i : Nat, v8 = .int .i64 i ∧ Aside0 (kq + i = l0.length) ∧ Aside0 (∀ j (h : j < l0.length), j < i → longP l0[j] = false) ∧ Aside0 (Below w.heap.size w w'))
  case atStart => exact ⟨0, rfl, ⟨by omega⟩, ⟨fun j _ h => absurd h (Nat.not_lt_zero j)⟩, b0'⟩
  case round =>
    obtain ⟨i, rfl, HK, HN, HW⟩ := hrel
    clear b0'
    by_cases hi : i < l0.length
    · have c0b : decide ((i : Int) < (l0.length : Int)) = true := decide_eq_true (by omega)
      obtain ⟨ad, e1, hx0, hx1⟩ := at_T74 (Kd.C_below HR.out HW.out) (i : Int) (by omega) (by omega)
      cases e1
      rw [rd_pair l0 i hi, Int.toNat_natCast] at hx0 hx1
      have hp : ((0 : Int) ≤ (i : Int)) = True := eq_true (by omega)
      have hq : ((i : Int) < (l0.length : Int)) = True := eq_true (by omega)
      have hi40 : (i : Int) ≤ 1048576 := by have := HL.out; omega
      by_cases hlg : longP l0[i] = true
      · have HY := Lib.hid fun w => long_yes l0[i] w hlg
        have HZ := Lib.hid (show decide ((0 : Int) ≤ (i : Int)) = l0.any longP by rw [decide_eq_true (by omega)]; exact (List.any_eq_true.2 ⟨_, List.getElem_mem hi, hlg⟩).symm)
        clear hlg
        generalize l0[i] = x at hx0 hx1 HY
        go_wp2_with (go_at_call 51; refine (HY.out _).mono ?_)
        rintro e w3 ⟨rfl, b3⟩
        have HB3 := Lib.hid b3
        clear b3
        go_wp2
        go_ret
        exact HF.out _ _ (by omega) (by omega) HZ.out (HW.out.trans (HB3.out.mono HW.out.size))
      · have hlg := Bool.eq_false_iff.mpr hlg
        have HY := Lib.hid fun w => long_no l0[i] w hlg
        have HN' : Aside0 (∀ j (h : j < l0.length), j < i + 1 → longP l0[j] = false) := ⟨fun j h hj => by
          by_cases e : j = i
          · subst e
            exact hlg
          · exact HN.out j h (by omega)⟩
        clear hlg
        generalize l0[i] = x at hx0 hx1 HY
        go_wp2_with (go_at_call 51; refine (HY.out _).mono ?_)
        rintro e w3 ⟨rfl, b3⟩
        have b3' : Aside0 (Below w.heap.size w w3) := ⟨HW.out.trans (b3.mono HW.out.size)⟩
        clear b3
        go_wp2
        go_roundg (gk - 1)
        case measure => have := HK.out; omega
        case rel => exact ⟨i + 1, by go_num, ⟨by have := HK.out; omega⟩, HN', b3'⟩
    · have c0b : decide ((i : Int) < (l0.length : Int)) = false := decide_eq_false (by omega)
      have e : i = l0.length := by have := HK.out; omega
      have HZ := Lib.hid (show decide ((0 : Int) ≤ -1) = l0.any longP by
        have h : l0.any longP = false := by
          rw [List.any_eq_false]
          intro x hx
          obtain ⟨j, hj, rfl⟩ := List.getElem_of_mem hx
          rw [HN.out j hj (by omega)]
          decide
        rw [h]
        rfl)
      clear e
      go_wp2
      go_ret
      exact HF.out _ _ (by omega) (by omega) HZ.out HW.out
set_option maxHeartbeats 1000000 in
theorem contains_yes (A0 : Option Addr) (c0 : Nat) (l0 : List S74) (w : World) (hr0 : Kd.C k74 w A0 l0.length l0) (hc0 : l0.length ≤ c0) (hl : l0.length ≤ 1048576) (hm : l0.any longP = true) :
    Calls Tryd.prog 53 #[.slice A0 l0.length c0, .func (.func 51) #[] #[]] w fun e w' => e = .returned (.bool true) ∧ Below w.heap.size w w' := by
  have HI := Lib.hid (index_calls A0 c0 l0 w hr0 hc0 hl)
  have HM := Lib.hid hm
  clear hr0 hc0 hl hm
  go_enter Tryd.func53, Tryd.ntmps53
  go_wp2_with fail
  refine HI.out.mono ?_
  rintro e w1 ⟨z, rfl, h1, h2, h3, h4⟩
  have HB := Lib.hid h4
  have hz : (0 : Int) ≤ z := by
    rw [HM.out] at h3
    simpa using h3
  clear h3 h4
  go_wp2
  go_ret
  exact ⟨rfl, HB.out⟩
set_option maxHeartbeats 1000000 in
theorem contains_no (A0 : Option Addr) (c0 : Nat) (l0 : List S74) (w : World) (hr0 : Kd.C k74 w A0 l0.length l0) (hc0 : l0.length ≤ c0) (hl : l0.length ≤ 1048576) (hm : l0.any longP = false) :
    Calls Tryd.prog 53 #[.slice A0 l0.length c0, .func (.func 51) #[] #[]] w fun e w' => e = .returned (.bool false) ∧ Below w.heap.size w w' := by
  have HI := Lib.hid (index_calls A0 c0 l0 w hr0 hc0 hl)
  have HM := Lib.hid hm
  clear hr0 hc0 hl hm
  go_enter Tryd.func53, Tryd.ntmps53
  go_wp2_with fail
  refine HI.out.mono ?_
  rintro e w1 ⟨z, rfl, h1, h2, h3, h4⟩
  have HB := Lib.hid h4
  have hz : z < (0 : Int) := by
    rw [HM.out] at h3
    simpa using h3
  have hzb : decide ((0 : Int) ≤ z) = false := decide_eq_false (by omega)
  clear h3 h4
  go_wp2
  go_ret
  exact ⟨rfl, HB.out⟩
end Go.Proofs.YtlpcidjmaeicoaaDoor.QWi
