/- Part of the proof of the statement TopAlone, as a card; what is proved, and on which condition, stands at the head of YtmgmdiekpmffbaaGreatDoorPT20 (texts TakeReq, MayQ, TakeReqC, QWix6, QWix8, RepState, RepOut) -/
import Derived.Handy
import Derived.Test.YtmgmdiekpmffbaaGreatDoorPT4
import Derived.Test.YtmgmdiekpmffbaaGreatDoorPT6
set_option maxHeartbeats 64000000
set_option maxRecDepth 100000
set_option linter.unusedVariables false
set_option linter.unusedSimpArgs false
namespace Go.Proofs.YtmgmdiekpmffbaaGreatDoor.Reader
open Go Go.RowKit Go.Proofs.YtmgmdiekpmffbaaGreatDoor.DecM Go.Proofs.YtmgmdiekpmffbaaGreatDoor.Giv Go.Proofs.YtmgmdiekpmffbaaGreatDoor.Err Go.Proofs.YtmgmdiekpmffbaaGreatDoorW.PrintWords Go.Proofs.YtmgmdiekpmffbaaGreatDoorW.PrintLast
theorem take_bad (s:ByteArray)(w:World)(hg:Handle w)(hs:s.size≤2048)(v1:Int×ByteArray×Bool)(v2:Int×ByteArray×Bool)(v3:Int×ByteArray×Bool)(v4:Int×ByteArray×Bool)(v5:ByteArray×ByteArray×Bool)(h1:numR s false 6=v1)(h2:numR v1.2.1 v1.2.2 1073741824=v2)(h3:numR v2.2.1 v2.2.2 1073741824=v3)(h4:numR v3.2.1 v3.2.2 1073741824=v4)(h5:textR v4.2.1 v4.2.2 16=v5)(hk:¬v1.1=5)(hb:(v5.2.2=true∨¬v5.2.1.size=0)):
  Calls Tryz.prog 32 #[.string s] w fun e w'=>e= .returned (.tuple #[.agg zeroReq,.int .i64 3])∧Below w.heap.size w w':=by
 have c1:decide (2048<(s.size:Int))=false:=decide_eq_false (by omega)
 have z1:v1.2.1.size≤2048:=by have h:=numR_size s false 6;rw[h1] at h;omega
 have z2:v2.2.1.size≤2048:=by have h:=numR_size v1.2.1 v1.2.2 1073741824;rw[h2] at h;omega
 have z3:v3.2.1.size≤2048:=by have h:=numR_size v2.2.1 v2.2.2 1073741824;rw[h3] at h;omega
 have z4:v4.2.1.size≤2048:=by have h:=numR_size v3.2.1 v3.2.2 1073741824;rw[h4] at h;omega
 have z5:v5.2.1.size≤2048:=by have h:=textR_size v4.2.1 v4.2.2 16;rw[h5] at h;omega
 have h00:0<w.heap.size:=Nat.lt_of_le_of_lt (Nat.zero_le _) (cell_lt hg)
 have S0:St w (w.heap.size+1) w.heap.size [] ((w.alloc (.cells zeroReq 61)).alloc (.cells #[.string s,.int .i64 0,.nilIface] 155)) s 0 false zeroReq.toList:=start_st w s zeroReq 61 (by decide) hg
 have Z1:=Lib.hid z1
 have H1:=Lib.hid h1
 have Z2:=Lib.hid z2
 have H2:=Lib.hid h2
 have Z3:=Lib.hid z3
 have H3:=Lib.hid h3
 have Z4:=Lib.hid z4
 have H4:=Lib.hid h4
 have Z5:=Lib.hid z5
 have H5:=Lib.hid h5
 have HS0:=Lib.hid S0
 have HSS:=Lib.hid hs
 have HK:=Lib.hid hk
 have HBB:=Lib.hid hb
 clear S0 hg h00 hs hk hb z1 h1 z2 h2 z3 h3 z4 h4 z5 h5
 have ck:(v1.1==5)=false:=beq_eq_false_iff_ne.mpr HK.out
 go_enter Tryz.func32,Tryz.ntmps32
 go_wp2_with (go_at_call 62;refine(num_calls (w.heap.size+1) _ _ 0 _ 6 _ HS0.out.rd (by omega) (by have:=HSS.out;omega) (by omega)).mono ?_)
 rintro e w1 ⟨rfl,R1,O1⟩
 have S1:=HS0.out.call R1 O1
 rw[H1.out] at S1⊢
 clear R1 O1
 have hQ:w.heap.size≤w1.heap.size:=S1.bel.size
 have S1q:=(S1.push #[.int .i64 v1.1,.int .i64 0,.int .i64 0,.int .i64 0,.string ⟨#[]⟩,.int .i64 0,.string ⟨#[]⟩,.string ⟨#[]⟩,.string ⟨#[]⟩,.string ⟨#[]⟩,.int .i64 0] 61 (by simp)).swap hQ
 have S1p:=S1q.push #[.pointer (some ⟨w1.heap.size,1,none⟩),.pointer (some ⟨w1.heap.size,2,none⟩),.pointer (some ⟨w1.heap.size,3,none⟩)] 157 (by simp)
 have hP:(w1.alloc (.cells #[.int .i64 v1.1,.int .i64 0,.int .i64 0,.int .i64 0,.string ⟨#[]⟩,.int .i64 0,.string ⟨#[]⟩,.string ⟨#[]⟩,.string ⟨#[]⟩,.string ⟨#[]⟩,.int .i64 0] 61)).heap.size=w1.heap.size+1:=by simp
 rw[hP] at S1p
 have HS1b:=Lib.hid S1p
 clear hQ S1 S1q S1p hP
 go_wp2
 refine wp_loop_rounds 4 ?_
 rw[rounds_succ]
 go_wp2_with (go_at_call 62;refine(num_calls (w.heap.size+1) _ _ 1 _ 1073741824 _ HS1b.out.rd (by omega) (by have:=Z1.out;omega) (by omega)).mono ?_)
 rintro e w2 ⟨rfl,R2,O2⟩
 have S2:=HS1b.out.call R2 O2
 rw[H2.out] at S2⊢
 clear R2 O2
 have q2:=S2.qc.c 1 (by simp)
 have g2:=S2.qc.f 1
 simp only[List.getElem_cons_zero,List.getElem_cons_succ] at q2
 have S2b:=S2.store 1 (by simp) (.int .i64 v2.1)
 simp only[List.set_cons_zero,List.set_cons_succ] at S2b
 have HS2b:=Lib.hid S2b
 have p2:=(S2b.kc _ (List.mem_cons_self ..)).1.c 1 (by simp)
 simp only[List.getElem_cons_zero,List.getElem_cons_succ] at p2
 clear S2 S2b
 go_wp2
 rw[rounds_succ]
 go_wp2_with (go_at_call 62;refine(num_calls (w.heap.size+1) _ _ 2 _ 1073741824 _ HS2b.out.rd (by omega) (by have:=Z2.out;omega) (by omega)).mono ?_)
 rintro e w3 ⟨rfl,R3,O3⟩
 have S3:=HS2b.out.call R3 O3
 rw[H3.out] at S3⊢
 clear R3 O3
 have q3:=S3.qc.c 2 (by simp)
 have g3:=S3.qc.f 2
 simp only[List.getElem_cons_zero,List.getElem_cons_succ] at q3
 have S3b:=S3.store 2 (by simp) (.int .i64 v3.1)
 simp only[List.set_cons_zero,List.set_cons_succ] at S3b
 have HS3b:=Lib.hid S3b
 have p3:=(S3b.kc _ (List.mem_cons_self ..)).1.c 2 (by simp)
 simp only[List.getElem_cons_zero,List.getElem_cons_succ] at p3
 clear S3 S3b
 go_wp2
 rw[rounds_succ]
 go_wp2_with (go_at_call 62;refine(num_calls (w.heap.size+1) _ _ 3 _ 1073741824 _ HS3b.out.rd (by omega) (by have:=Z3.out;omega) (by omega)).mono ?_)
 rintro e w4 ⟨rfl,R4,O4⟩
 have S4:=HS3b.out.call R4 O4
 rw[H4.out] at S4⊢
 clear R4 O4
 have q4:=S4.qc.c 3 (by simp)
 have g4:=S4.qc.f 3
 simp only[List.getElem_cons_zero,List.getElem_cons_succ] at q4
 have S4b:=S4.store 3 (by simp) (.int .i64 v4.1)
 simp only[List.set_cons_zero,List.set_cons_succ] at S4b
 have HS4b:=Lib.hid S4b
 clear S4 S4b
 go_wp2
 rw[rounds_succ]
 go_wp2_with (go_at_call 63;refine(text_calls (w.heap.size+1) _ _ 4 _ 16 _ HS4b.out.rd (by omega) (by have:=Z4.out;omega) (by omega)).mono ?_)
 rintro e w5 ⟨rfl,R5,O5⟩
 have S5:=HS4b.out.call R5 O5
 rw[H5.out] at S5⊢
 clear R5 O5
 have q5:=S5.qc.c 4 (by simp)
 have g5:=S5.qc.f 4
 simp only[List.getElem_cons_zero,List.getElem_cons_succ] at q5
 have S5b:=S5.store 4 (by simp) (.string v5.1)
 simp only[List.set_cons_zero,List.set_cons_succ] at S5b
 have HS5b:=Lib.hid S5b
 have k0:=S5b.qc.c 0 (by simp)
 simp only[List.getElem_cons_zero] at k0
 clear S5 S5b
 have e0:=Lib.hid (end_calls (w.heap.size+1) _ _ 5 _ _ HS5b.out.hg (by omega) HS5b.out.rd (by omega))
 rw[if_pos HBB.out] at e0
 go_wp2_with (go_at_call 64;refine e0.out.mono ?_)
 rintro e w90 ⟨rfl,O90⟩
 have B90:=Lib.hid (HS5b.out.bel.trans (O90.below HS5b.out.r0 HS5b.out.bel.size))
 have K90:=(HS5b.out.kc (w.heap.size,zeroReq.toList) (by simp)).1.only (by simp[zeroReq]) O90 (HS5b.out.kc (w.heap.size,zeroReq.toList) (by simp)).2.2.1
 have y0:w90.cell? ⟨w.heap.size,0,none⟩=some (.int .i64 0):=K90.c 0 (by simp[zeroReq])
 have y1:w90.cell? ⟨w.heap.size,1,none⟩=some (.int .i64 0):=K90.c 1 (by simp[zeroReq])
 have y2:w90.cell? ⟨w.heap.size,2,none⟩=some (.int .i64 0):=K90.c 2 (by simp[zeroReq])
 have y3:w90.cell? ⟨w.heap.size,3,none⟩=some (.int .i64 0):=K90.c 3 (by simp[zeroReq])
 have y4:w90.cell? ⟨w.heap.size,4,none⟩=some (.string ⟨#[]⟩):=K90.c 4 (by simp[zeroReq])
 have y5:w90.cell? ⟨w.heap.size,5,none⟩=some (.int .i64 0):=K90.c 5 (by simp[zeroReq])
 have y6:w90.cell? ⟨w.heap.size,6,none⟩=some (.string ⟨#[]⟩):=K90.c 6 (by simp[zeroReq])
 have y7:w90.cell? ⟨w.heap.size,7,none⟩=some (.string ⟨#[]⟩):=K90.c 7 (by simp[zeroReq])
 have y8:w90.cell? ⟨w.heap.size,8,none⟩=some (.string ⟨#[]⟩):=K90.c 8 (by simp[zeroReq])
 have y9:w90.cell? ⟨w.heap.size,9,none⟩=some (.string ⟨#[]⟩):=K90.c 9 (by simp[zeroReq])
 have y10:w90.cell? ⟨w.heap.size,10,none⟩=some (.int .i64 0):=K90.c 10 (by simp[zeroReq])
 have f0:=K90.f 0
 have f1:=K90.f 1
 have f2:=K90.f 2
 have f3:=K90.f 3
 have f4:=K90.f 4
 have f5:=K90.f 5
 have f6:=K90.f 6
 have f7:=K90.f 7
 have f8:=K90.f 8
 have f9:=K90.f 9
 have f10:=K90.f 10
 have HK90:=Lib.hid K90
 clear K90 O90
 go_wp2
 have KF:=(((((((((((HK90.out).set 0 (by simp[zeroReq]) (.int .i64 0)).set 1 (by simp[zeroReq]) (.int .i64 0)).set 2 (by simp[zeroReq]) (.int .i64 0)).set 3 (by simp[zeroReq]) (.int .i64 0)).set 4 (by simp[zeroReq]) (.string ⟨#[]⟩)).set 5 (by simp[zeroReq]) (.int .i64 0)).set 6 (by simp[zeroReq]) (.string ⟨#[]⟩)).set 7 (by simp[zeroReq]) (.string ⟨#[]⟩)).set 8 (by simp[zeroReq]) (.string ⟨#[]⟩)).set 9 (by simp[zeroReq]) (.string ⟨#[]⟩)).set 10 (by simp[zeroReq]) (.int .i64 0)
 try simp only[Exit.inBlock,Exit.then]
 have HL:=load_req _ _ _ KF (.int .i64 0) (.int .i64 0) (.int .i64 0) (.int .i64 0) (.string ⟨#[]⟩) (.int .i64 0) (.string ⟨#[]⟩) (.string ⟨#[]⟩) (.string ⟨#[]⟩) (.string ⟨#[]⟩) (.int .i64 0) rfl
 refine bodyPost_ret (results_cell_tmp Tryz.results32 _ _ _ ⟨w.heap.size,0,none⟩ _ rfl HL) rfl ?_
 refine⟨rfl,?_⟩
 exact(((((((((((B90.out).setCell (p:=⟨w.heap.size,_,none⟩) (Nat.le_refl _) _).setCell (p:=⟨w.heap.size,_,none⟩) (Nat.le_refl _) _).setCell (p:=⟨w.heap.size,_,none⟩) (Nat.le_refl _) _).setCell (p:=⟨w.heap.size,_,none⟩) (Nat.le_refl _) _).setCell (p:=⟨w.heap.size,_,none⟩) (Nat.le_refl _) _).setCell (p:=⟨w.heap.size,_,none⟩) (Nat.le_refl _) _).setCell (p:=⟨w.heap.size,_,none⟩) (Nat.le_refl _) _).setCell (p:=⟨w.heap.size,_,none⟩) (Nat.le_refl _) _).setCell (p:=⟨w.heap.size,_,none⟩) (Nat.le_refl _) _).setCell (p:=⟨w.heap.size,_,none⟩) (Nat.le_refl _) _).setCell (p:=⟨w.heap.size,_,none⟩) (Nat.le_refl _) _
theorem take_good (s:ByteArray)(w:World)(hg:Handle w)(hs:s.size≤2048)(v1:Int×ByteArray×Bool)(v2:Int×ByteArray×Bool)(v3:Int×ByteArray×Bool)(v4:Int×ByteArray×Bool)(v5:ByteArray×ByteArray×Bool)(h1:numR s false 6=v1)(h2:numR v1.2.1 v1.2.2 1073741824=v2)(h3:numR v2.2.1 v2.2.2 1073741824=v3)(h4:numR v3.2.1 v3.2.2 1073741824=v4)(h5:textR v4.2.1 v4.2.2 16=v5)(hk:¬v1.1=5)(hb:¬(v5.2.2=true∨¬v5.2.1.size=0))(mb:Bool)(hmb:QWi.wire_MayReq.f 1 v1.1 v2.1 v3.1 v4.1 v5.1 0 ⟨#[]⟩ ⟨#[]⟩ ⟨#[]⟩ ⟨#[]⟩ 0=some mb):
  Calls Tryz.prog 32 #[.string s] w fun e w'=>e= .returned (.tuple (if mb=true then #[.agg #[.int .i64 v1.1,.int .i64 v2.1,.int .i64 v3.1,.int .i64 v4.1,.string v5.1,.int .i64 0,.string ⟨#[]⟩,.string ⟨#[]⟩,.string ⟨#[]⟩,.string ⟨#[]⟩,.int .i64 0],.int .i64 0] else #[.agg zeroReq,.int .i64 3]))∧Below w.heap.size w w':=by
 have c1:decide (2048<(s.size:Int))=false:=decide_eq_false (by omega)
 have z1:v1.2.1.size≤2048:=by have h:=numR_size s false 6;rw[h1] at h;omega
 have z2:v2.2.1.size≤2048:=by have h:=numR_size v1.2.1 v1.2.2 1073741824;rw[h2] at h;omega
 have z3:v3.2.1.size≤2048:=by have h:=numR_size v2.2.1 v2.2.2 1073741824;rw[h3] at h;omega
 have z4:v4.2.1.size≤2048:=by have h:=numR_size v3.2.1 v3.2.2 1073741824;rw[h4] at h;omega
 have z5:v5.2.1.size≤2048:=by have h:=textR_size v4.2.1 v4.2.2 16;rw[h5] at h;omega
 have h00:0<w.heap.size:=Nat.lt_of_le_of_lt (Nat.zero_le _) (cell_lt hg)
 have S0:St w (w.heap.size+1) w.heap.size [] ((w.alloc (.cells zeroReq 61)).alloc (.cells #[.string s,.int .i64 0,.nilIface] 155)) s 0 false zeroReq.toList:=start_st w s zeroReq 61 (by decide) hg
 have Z1:=Lib.hid z1
 have H1:=Lib.hid h1
 have Z2:=Lib.hid z2
 have H2:=Lib.hid h2
 have Z3:=Lib.hid z3
 have H3:=Lib.hid h3
 have Z4:=Lib.hid z4
 have H4:=Lib.hid h4
 have Z5:=Lib.hid z5
 have H5:=Lib.hid h5
 have HS0:=Lib.hid S0
 have HSS:=Lib.hid hs
 have HK:=Lib.hid hk
 have HBB:=Lib.hid hb
 have HMB:=Lib.hid hmb
 clear S0 hg h00 hs hk hb z1 h1 z2 h2 z3 h3 z4 h4 z5 h5 hmb
 have ck:(v1.1==5)=false:=beq_eq_false_iff_ne.mpr HK.out
 go_enter Tryz.func32,Tryz.ntmps32
 go_wp2_with (go_at_call 62;refine(num_calls (w.heap.size+1) _ _ 0 _ 6 _ HS0.out.rd (by omega) (by have:=HSS.out;omega) (by omega)).mono ?_)
 rintro e w1 ⟨rfl,R1,O1⟩
 have S1:=HS0.out.call R1 O1
 rw[H1.out] at S1⊢
 clear R1 O1
 have hQ:w.heap.size≤w1.heap.size:=S1.bel.size
 have S1q:=(S1.push #[.int .i64 v1.1,.int .i64 0,.int .i64 0,.int .i64 0,.string ⟨#[]⟩,.int .i64 0,.string ⟨#[]⟩,.string ⟨#[]⟩,.string ⟨#[]⟩,.string ⟨#[]⟩,.int .i64 0] 61 (by simp)).swap hQ
 have S1p:=S1q.push #[.pointer (some ⟨w1.heap.size,1,none⟩),.pointer (some ⟨w1.heap.size,2,none⟩),.pointer (some ⟨w1.heap.size,3,none⟩)] 157 (by simp)
 have hP:(w1.alloc (.cells #[.int .i64 v1.1,.int .i64 0,.int .i64 0,.int .i64 0,.string ⟨#[]⟩,.int .i64 0,.string ⟨#[]⟩,.string ⟨#[]⟩,.string ⟨#[]⟩,.string ⟨#[]⟩,.int .i64 0] 61)).heap.size=w1.heap.size+1:=by simp
 rw[hP] at S1p
 have HS1b:=Lib.hid S1p
 clear hQ S1 S1q S1p hP
 go_wp2
 refine wp_loop_rounds 4 ?_
 rw[rounds_succ]
 go_wp2_with (go_at_call 62;refine(num_calls (w.heap.size+1) _ _ 1 _ 1073741824 _ HS1b.out.rd (by omega) (by have:=Z1.out;omega) (by omega)).mono ?_)
 rintro e w2 ⟨rfl,R2,O2⟩
 have S2:=HS1b.out.call R2 O2
 rw[H2.out] at S2⊢
 clear R2 O2
 have q2:=S2.qc.c 1 (by simp)
 have g2:=S2.qc.f 1
 simp only[List.getElem_cons_zero,List.getElem_cons_succ] at q2
 have S2b:=S2.store 1 (by simp) (.int .i64 v2.1)
 simp only[List.set_cons_zero,List.set_cons_succ] at S2b
 have HS2b:=Lib.hid S2b
 have p2:=(S2b.kc _ (List.mem_cons_self ..)).1.c 1 (by simp)
 simp only[List.getElem_cons_zero,List.getElem_cons_succ] at p2
 clear S2 S2b
 go_wp2
 rw[rounds_succ]
 go_wp2_with (go_at_call 62;refine(num_calls (w.heap.size+1) _ _ 2 _ 1073741824 _ HS2b.out.rd (by omega) (by have:=Z2.out;omega) (by omega)).mono ?_)
 rintro e w3 ⟨rfl,R3,O3⟩
 have S3:=HS2b.out.call R3 O3
 rw[H3.out] at S3⊢
 clear R3 O3
 have q3:=S3.qc.c 2 (by simp)
 have g3:=S3.qc.f 2
 simp only[List.getElem_cons_zero,List.getElem_cons_succ] at q3
 have S3b:=S3.store 2 (by simp) (.int .i64 v3.1)
 simp only[List.set_cons_zero,List.set_cons_succ] at S3b
 have HS3b:=Lib.hid S3b
 have p3:=(S3b.kc _ (List.mem_cons_self ..)).1.c 2 (by simp)
 simp only[List.getElem_cons_zero,List.getElem_cons_succ] at p3
 clear S3 S3b
 go_wp2
 rw[rounds_succ]
 go_wp2_with (go_at_call 62;refine(num_calls (w.heap.size+1) _ _ 3 _ 1073741824 _ HS3b.out.rd (by omega) (by have:=Z3.out;omega) (by omega)).mono ?_)
 rintro e w4 ⟨rfl,R4,O4⟩
 have S4:=HS3b.out.call R4 O4
 rw[H4.out] at S4⊢
 clear R4 O4
 have q4:=S4.qc.c 3 (by simp)
 have g4:=S4.qc.f 3
 simp only[List.getElem_cons_zero,List.getElem_cons_succ] at q4
 have S4b:=S4.store 3 (by simp) (.int .i64 v4.1)
 simp only[List.set_cons_zero,List.set_cons_succ] at S4b
 have HS4b:=Lib.hid S4b
 clear S4 S4b
 go_wp2
 rw[rounds_succ]
 go_wp2_with (go_at_call 63;refine(text_calls (w.heap.size+1) _ _ 4 _ 16 _ HS4b.out.rd (by omega) (by have:=Z4.out;omega) (by omega)).mono ?_)
 rintro e w5 ⟨rfl,R5,O5⟩
 have S5:=HS4b.out.call R5 O5
 rw[H5.out] at S5⊢
 clear R5 O5
 have q5:=S5.qc.c 4 (by simp)
 have g5:=S5.qc.f 4
 simp only[List.getElem_cons_zero,List.getElem_cons_succ] at q5
 have S5b:=S5.store 4 (by simp) (.string v5.1)
 simp only[List.set_cons_zero,List.set_cons_succ] at S5b
 have HS5b:=Lib.hid S5b
 have k0:=S5b.qc.c 0 (by simp)
 simp only[List.getElem_cons_zero] at k0
 clear S5 S5b
 have e0:=Lib.hid (end_calls (w.heap.size+1) _ _ 5 _ _ HS5b.out.hg (by omega) HS5b.out.rd (by omega))
 rw[if_neg HBB.out] at e0
 go_wp2_with (go_at_call 64;refine e0.out.mono ?_)
 rintro e w90 ⟨rfl,O90⟩
 have B90:=Lib.hid (HS5b.out.bel.trans (O90.below HS5b.out.r0 HS5b.out.bel.size))
 have K90:=(HS5b.out.kc (w.heap.size,zeroReq.toList) (by simp)).1.only (by simp[zeroReq]) O90 (HS5b.out.kc (w.heap.size,zeroReq.toList) (by simp)).2.2.1
 have Q90:=HS5b.out.qc.only HS5b.out.hq O90 HS5b.out.qr
 have x0:=Q90.c 0 (by simp)
 have x1:=Q90.c 1 (by simp)
 have x2:=Q90.c 2 (by simp)
 have x3:=Q90.c 3 (by simp)
 have x4:=Q90.c 4 (by simp)
 have x5:=Q90.c 5 (by simp)
 have x6:=Q90.c 6 (by simp)
 have x7:=Q90.c 7 (by simp)
 have x8:=Q90.c 8 (by simp)
 have x9:=Q90.c 9 (by simp)
 have x10:=Q90.c 10 (by simp)
 simp only[List.getElem_cons_zero,List.getElem_cons_succ] at x0 x1 x2 x3 x4 x5 x6 x7 x8 x9 x10
 have HQ90:=Lib.hid Q90
 clear Q90 O90
 have HK90:=Lib.hid K90
 clear K90
 go_wp2_with (go_at_call 65;refine(QWi.wire_MayReq.calls 1 v1.1 v2.1 v3.1 v4.1 v5.1 0 ⟨#[]⟩ ⟨#[]⟩ ⟨#[]⟩ ⟨#[]⟩ 0 mb _ HMB.out).mono ?_)
 rintro e w91 ⟨rfl,b91⟩
 have B91:=Lib.hid (B90.out.trans (b91.mono B90.out.size))
 have K91:=HK90.out.below (by simp[zeroReq]) b91
 have y0:w91.cell? ⟨w.heap.size,0,none⟩=some (.int .i64 0):=K91.c 0 (by simp[zeroReq])
 have y1:w91.cell? ⟨w.heap.size,1,none⟩=some (.int .i64 0):=K91.c 1 (by simp[zeroReq])
 have y2:w91.cell? ⟨w.heap.size,2,none⟩=some (.int .i64 0):=K91.c 2 (by simp[zeroReq])
 have y3:w91.cell? ⟨w.heap.size,3,none⟩=some (.int .i64 0):=K91.c 3 (by simp[zeroReq])
 have y4:w91.cell? ⟨w.heap.size,4,none⟩=some (.string ⟨#[]⟩):=K91.c 4 (by simp[zeroReq])
 have y5:w91.cell? ⟨w.heap.size,5,none⟩=some (.int .i64 0):=K91.c 5 (by simp[zeroReq])
 have y6:w91.cell? ⟨w.heap.size,6,none⟩=some (.string ⟨#[]⟩):=K91.c 6 (by simp[zeroReq])
 have y7:w91.cell? ⟨w.heap.size,7,none⟩=some (.string ⟨#[]⟩):=K91.c 7 (by simp[zeroReq])
 have y8:w91.cell? ⟨w.heap.size,8,none⟩=some (.string ⟨#[]⟩):=K91.c 8 (by simp[zeroReq])
 have y9:w91.cell? ⟨w.heap.size,9,none⟩=some (.string ⟨#[]⟩):=K91.c 9 (by simp[zeroReq])
 have y10:w91.cell? ⟨w.heap.size,10,none⟩=some (.int .i64 0):=K91.c 10 (by simp[zeroReq])
 have f0:=K91.f 0
 have f1:=K91.f 1
 have f2:=K91.f 2
 have f3:=K91.f 3
 have f4:=K91.f 4
 have f5:=K91.f 5
 have f6:=K91.f 6
 have f7:=K91.f 7
 have f8:=K91.f 8
 have f9:=K91.f 9
 have f10:=K91.f 10
 have HK91:=Lib.hid K91
 have Q91:=HQ90.out.below (by simp) b91
 have u0:=Q91.c 0 (by simp)
 have u1:=Q91.c 1 (by simp)
 have u2:=Q91.c 2 (by simp)
 have u3:=Q91.c 3 (by simp)
 have u4:=Q91.c 4 (by simp)
 have u5:=Q91.c 5 (by simp)
 have u6:=Q91.c 6 (by simp)
 have u7:=Q91.c 7 (by simp)
 have u8:=Q91.c 8 (by simp)
 have u9:=Q91.c 9 (by simp)
 have u10:=Q91.c 10 (by simp)
 simp only[List.getElem_cons_zero,List.getElem_cons_succ] at u0 u1 u2 u3 u4 u5 u6 u7 u8 u9 u10
 clear b91 K91 Q91
 cases mb with
 |true=>
  go_wp2
  have KF:=(((((((((((HK91.out).set 0 (by simp[zeroReq]) (.int .i64 v1.1)).set 1 (by simp[zeroReq]) (.int .i64 v2.1)).set 2 (by simp[zeroReq]) (.int .i64 v3.1)).set 3 (by simp[zeroReq]) (.int .i64 v4.1)).set 4 (by simp[zeroReq]) (.string v5.1)).set 5 (by simp[zeroReq]) (.int .i64 0)).set 6 (by simp[zeroReq]) (.string ⟨#[]⟩)).set 7 (by simp[zeroReq]) (.string ⟨#[]⟩)).set 8 (by simp[zeroReq]) (.string ⟨#[]⟩)).set 9 (by simp[zeroReq]) (.string ⟨#[]⟩)).set 10 (by simp[zeroReq]) (.int .i64 0)
  try simp only[Exit.inBlock,Exit.then]
  have HL:=load_req _ _ _ KF (.int .i64 v1.1) (.int .i64 v2.1) (.int .i64 v3.1) (.int .i64 v4.1) (.string v5.1) (.int .i64 0) (.string ⟨#[]⟩) (.string ⟨#[]⟩) (.string ⟨#[]⟩) (.string ⟨#[]⟩) (.int .i64 0) rfl
  refine bodyPost_ret (results_cell_tmp Tryz.results32 _ _ _ ⟨w.heap.size,0,none⟩ _ rfl HL) rfl ?_
  refine⟨rfl,?_⟩
  exact(((((((((((B91.out).setCell (p:=⟨w.heap.size,_,none⟩) (Nat.le_refl _) _).setCell (p:=⟨w.heap.size,_,none⟩) (Nat.le_refl _) _).setCell (p:=⟨w.heap.size,_,none⟩) (Nat.le_refl _) _).setCell (p:=⟨w.heap.size,_,none⟩) (Nat.le_refl _) _).setCell (p:=⟨w.heap.size,_,none⟩) (Nat.le_refl _) _).setCell (p:=⟨w.heap.size,_,none⟩) (Nat.le_refl _) _).setCell (p:=⟨w.heap.size,_,none⟩) (Nat.le_refl _) _).setCell (p:=⟨w.heap.size,_,none⟩) (Nat.le_refl _) _).setCell (p:=⟨w.heap.size,_,none⟩) (Nat.le_refl _) _).setCell (p:=⟨w.heap.size,_,none⟩) (Nat.le_refl _) _).setCell (p:=⟨w.heap.size,_,none⟩) (Nat.le_refl _) _
 |false=>
  go_wp2
  have KF:=(((((((((((HK91.out).set 0 (by simp[zeroReq]) (.int .i64 0)).set 1 (by simp[zeroReq]) (.int .i64 0)).set 2 (by simp[zeroReq]) (.int .i64 0)).set 3 (by simp[zeroReq]) (.int .i64 0)).set 4 (by simp[zeroReq]) (.string ⟨#[]⟩)).set 5 (by simp[zeroReq]) (.int .i64 0)).set 6 (by simp[zeroReq]) (.string ⟨#[]⟩)).set 7 (by simp[zeroReq]) (.string ⟨#[]⟩)).set 8 (by simp[zeroReq]) (.string ⟨#[]⟩)).set 9 (by simp[zeroReq]) (.string ⟨#[]⟩)).set 10 (by simp[zeroReq]) (.int .i64 0)
  try simp only[Exit.inBlock,Exit.then]
  have HL:=load_req _ _ _ KF (.int .i64 0) (.int .i64 0) (.int .i64 0) (.int .i64 0) (.string ⟨#[]⟩) (.int .i64 0) (.string ⟨#[]⟩) (.string ⟨#[]⟩) (.string ⟨#[]⟩) (.string ⟨#[]⟩) (.int .i64 0) rfl
  refine bodyPost_ret (results_cell_tmp Tryz.results32 _ _ _ ⟨w.heap.size,0,none⟩ _ rfl HL) rfl ?_
  refine⟨rfl,?_⟩
  exact(((((((((((B91.out).setCell (p:=⟨w.heap.size,_,none⟩) (Nat.le_refl _) _).setCell (p:=⟨w.heap.size,_,none⟩) (Nat.le_refl _) _).setCell (p:=⟨w.heap.size,_,none⟩) (Nat.le_refl _) _).setCell (p:=⟨w.heap.size,_,none⟩) (Nat.le_refl _) _).setCell (p:=⟨w.heap.size,_,none⟩) (Nat.le_refl _) _).setCell (p:=⟨w.heap.size,_,none⟩) (Nat.le_refl _) _).setCell (p:=⟨w.heap.size,_,none⟩) (Nat.le_refl _) _).setCell (p:=⟨w.heap.size,_,none⟩) (Nat.le_refl _) _).setCell (p:=⟨w.heap.size,_,none⟩) (Nat.le_refl _) _).setCell (p:=⟨w.heap.size,_,none⟩) (Nat.le_refl _) _).setCell (p:=⟨w.heap.size,_,none⟩) (Nat.le_refl _) _
theorem take5_bad (s:ByteArray)(w:World)(hg:Handle w)(hs:s.size≤2048)(v1:Int×ByteArray×Bool)(v2:Int×ByteArray×Bool)(v3:Int×ByteArray×Bool)(v4:Int×ByteArray×Bool)(v5:ByteArray×ByteArray×Bool)(v6:Int×ByteArray×Bool)(v7:ByteArray×ByteArray×Bool)(v8:ByteArray×ByteArray×Bool)(v9:ByteArray×ByteArray×Bool)(v10:ByteArray×ByteArray×Bool)(v11:Int×ByteArray×Bool)(h1:numR s false 6=v1)(h2:numR v1.2.1 v1.2.2 1073741824=v2)(h3:numR v2.2.1 v2.2.2 1073741824=v3)(h4:numR v3.2.1 v3.2.2 1073741824=v4)(h5:textR v4.2.1 v4.2.2 16=v5)(h6:numR v5.2.1 v5.2.2 6=v6)(h7:textR v6.2.1 v6.2.2 32=v7)(h8:textR v7.2.1 v7.2.2 64=v8)(h9:textR v8.2.1 v8.2.2 32=v9)(h10:textR v9.2.1 v9.2.2 32=v10)(h11:numR v10.2.1 v10.2.2 1073741824=v11)(hk:v1.1=5)(hb:(v11.2.2=true∨¬v11.2.1.size=0)):
  Calls Tryz.prog 32 #[.string s] w fun e w'=>e= .returned (.tuple #[.agg zeroReq,.int .i64 3])∧Below w.heap.size w w':=by
 have c1:decide (2048<(s.size:Int))=false:=decide_eq_false (by omega)
 have z1:v1.2.1.size≤2048:=by have h:=numR_size s false 6;rw[h1] at h;omega
 have z2:v2.2.1.size≤2048:=by have h:=numR_size v1.2.1 v1.2.2 1073741824;rw[h2] at h;omega
 have z3:v3.2.1.size≤2048:=by have h:=numR_size v2.2.1 v2.2.2 1073741824;rw[h3] at h;omega
 have z4:v4.2.1.size≤2048:=by have h:=numR_size v3.2.1 v3.2.2 1073741824;rw[h4] at h;omega
 have z5:v5.2.1.size≤2048:=by have h:=textR_size v4.2.1 v4.2.2 16;rw[h5] at h;omega
 have z6:v6.2.1.size≤2048:=by have h:=numR_size v5.2.1 v5.2.2 6;rw[h6] at h;omega
 have z7:v7.2.1.size≤2048:=by have h:=textR_size v6.2.1 v6.2.2 32;rw[h7] at h;omega
 have z8:v8.2.1.size≤2048:=by have h:=textR_size v7.2.1 v7.2.2 64;rw[h8] at h;omega
 have z9:v9.2.1.size≤2048:=by have h:=textR_size v8.2.1 v8.2.2 32;rw[h9] at h;omega
 have z10:v10.2.1.size≤2048:=by have h:=textR_size v9.2.1 v9.2.2 32;rw[h10] at h;omega
 have z11:v11.2.1.size≤2048:=by have h:=numR_size v10.2.1 v10.2.2 1073741824;rw[h11] at h;omega
 have h00:0<w.heap.size:=Nat.lt_of_le_of_lt (Nat.zero_le _) (cell_lt hg)
 have S0:St w (w.heap.size+1) w.heap.size [] ((w.alloc (.cells zeroReq 61)).alloc (.cells #[.string s,.int .i64 0,.nilIface] 155)) s 0 false zeroReq.toList:=start_st w s zeroReq 61 (by decide) hg
 have Z1:=Lib.hid z1
 have H1:=Lib.hid h1
 have Z2:=Lib.hid z2
 have H2:=Lib.hid h2
 have Z3:=Lib.hid z3
 have H3:=Lib.hid h3
 have Z4:=Lib.hid z4
 have H4:=Lib.hid h4
 have Z5:=Lib.hid z5
 have H5:=Lib.hid h5
 have Z6:=Lib.hid z6
 have H6:=Lib.hid h6
 have Z7:=Lib.hid z7
 have H7:=Lib.hid h7
 have Z8:=Lib.hid z8
 have H8:=Lib.hid h8
 have Z9:=Lib.hid z9
 have H9:=Lib.hid h9
 have Z10:=Lib.hid z10
 have H10:=Lib.hid h10
 have Z11:=Lib.hid z11
 have H11:=Lib.hid h11
 have HS0:=Lib.hid S0
 have HSS:=Lib.hid hs
 have HK:=Lib.hid hk
 have HBB:=Lib.hid hb
 clear S0 hg h00 hs hk hb z1 h1 z2 h2 z3 h3 z4 h4 z5 h5 z6 h6 z7 h7 z8 h8 z9 h9 z10 h10 z11 h11
 have ck:(v1.1==5)=true:=beq_iff_eq.mpr HK.out
 go_enter Tryz.func32,Tryz.ntmps32
 go_wp2_with (go_at_call 62;refine(num_calls (w.heap.size+1) _ _ 0 _ 6 _ HS0.out.rd (by omega) (by have:=HSS.out;omega) (by omega)).mono ?_)
 rintro e w1 ⟨rfl,R1,O1⟩
 have S1:=HS0.out.call R1 O1
 rw[H1.out] at S1⊢
 clear R1 O1
 have hQ:w.heap.size≤w1.heap.size:=S1.bel.size
 have S1q:=(S1.push #[.int .i64 v1.1,.int .i64 0,.int .i64 0,.int .i64 0,.string ⟨#[]⟩,.int .i64 0,.string ⟨#[]⟩,.string ⟨#[]⟩,.string ⟨#[]⟩,.string ⟨#[]⟩,.int .i64 0] 61 (by simp)).swap hQ
 have S1p:=S1q.push #[.pointer (some ⟨w1.heap.size,1,none⟩),.pointer (some ⟨w1.heap.size,2,none⟩),.pointer (some ⟨w1.heap.size,3,none⟩)] 157 (by simp)
 have hP:(w1.alloc (.cells #[.int .i64 v1.1,.int .i64 0,.int .i64 0,.int .i64 0,.string ⟨#[]⟩,.int .i64 0,.string ⟨#[]⟩,.string ⟨#[]⟩,.string ⟨#[]⟩,.string ⟨#[]⟩,.int .i64 0] 61)).heap.size=w1.heap.size+1:=by simp
 rw[hP] at S1p
 have HS1b:=Lib.hid S1p
 clear hQ S1 S1q S1p hP
 go_wp2
 refine wp_loop_rounds 4 ?_
 rw[rounds_succ]
 go_wp2_with (go_at_call 62;refine(num_calls (w.heap.size+1) _ _ 1 _ 1073741824 _ HS1b.out.rd (by omega) (by have:=Z1.out;omega) (by omega)).mono ?_)
 rintro e w2 ⟨rfl,R2,O2⟩
 have S2:=HS1b.out.call R2 O2
 rw[H2.out] at S2⊢
 clear R2 O2
 have q2:=S2.qc.c 1 (by simp)
 have g2:=S2.qc.f 1
 simp only[List.getElem_cons_zero,List.getElem_cons_succ] at q2
 have S2b:=S2.store 1 (by simp) (.int .i64 v2.1)
 simp only[List.set_cons_zero,List.set_cons_succ] at S2b
 have HS2b:=Lib.hid S2b
 have p2:=(S2b.kc _ (List.mem_cons_self ..)).1.c 1 (by simp)
 simp only[List.getElem_cons_zero,List.getElem_cons_succ] at p2
 clear S2 S2b
 go_wp2
 rw[rounds_succ]
 go_wp2_with (go_at_call 62;refine(num_calls (w.heap.size+1) _ _ 2 _ 1073741824 _ HS2b.out.rd (by omega) (by have:=Z2.out;omega) (by omega)).mono ?_)
 rintro e w3 ⟨rfl,R3,O3⟩
 have S3:=HS2b.out.call R3 O3
 rw[H3.out] at S3⊢
 clear R3 O3
 have q3:=S3.qc.c 2 (by simp)
 have g3:=S3.qc.f 2
 simp only[List.getElem_cons_zero,List.getElem_cons_succ] at q3
 have S3b:=S3.store 2 (by simp) (.int .i64 v3.1)
 simp only[List.set_cons_zero,List.set_cons_succ] at S3b
 have HS3b:=Lib.hid S3b
 have p3:=(S3b.kc _ (List.mem_cons_self ..)).1.c 2 (by simp)
 simp only[List.getElem_cons_zero,List.getElem_cons_succ] at p3
 clear S3 S3b
 go_wp2
 rw[rounds_succ]
 go_wp2_with (go_at_call 62;refine(num_calls (w.heap.size+1) _ _ 3 _ 1073741824 _ HS3b.out.rd (by omega) (by have:=Z3.out;omega) (by omega)).mono ?_)
 rintro e w4 ⟨rfl,R4,O4⟩
 have S4:=HS3b.out.call R4 O4
 rw[H4.out] at S4⊢
 clear R4 O4
 have q4:=S4.qc.c 3 (by simp)
 have g4:=S4.qc.f 3
 simp only[List.getElem_cons_zero,List.getElem_cons_succ] at q4
 have S4b:=S4.store 3 (by simp) (.int .i64 v4.1)
 simp only[List.set_cons_zero,List.set_cons_succ] at S4b
 have HS4b:=Lib.hid S4b
 clear S4 S4b
 go_wp2
 rw[rounds_succ]
 go_wp2_with (go_at_call 63;refine(text_calls (w.heap.size+1) _ _ 4 _ 16 _ HS4b.out.rd (by omega) (by have:=Z4.out;omega) (by omega)).mono ?_)
 rintro e w5 ⟨rfl,R5,O5⟩
 have S5:=HS4b.out.call R5 O5
 rw[H5.out] at S5⊢
 clear R5 O5
 have q5:=S5.qc.c 4 (by simp)
 have g5:=S5.qc.f 4
 simp only[List.getElem_cons_zero,List.getElem_cons_succ] at q5
 have S5b:=S5.store 4 (by simp) (.string v5.1)
 simp only[List.set_cons_zero,List.set_cons_succ] at S5b
 have HS5b:=Lib.hid S5b
 have k0:=S5b.qc.c 0 (by simp)
 simp only[List.getElem_cons_zero] at k0
 clear S5 S5b
 go_wp2_with (go_at_call 62;refine(num_calls (w.heap.size+1) _ _ 5 _ 6 _ HS5b.out.rd (by omega) (by have:=Z5.out;omega) (by omega)).mono ?_)
 rintro e w6 ⟨rfl,R6,O6⟩
 have S6:=HS5b.out.call R6 O6
 rw[H6.out] at S6⊢
 clear R6 O6
 have q6:=S6.qc.c 5 (by simp)
 have g6:=S6.qc.f 5
 simp only[List.getElem_cons_zero,List.getElem_cons_succ] at q6
 have S6b:=S6.store 5 (by simp) (.int .i64 v6.1)
 simp only[List.set_cons_zero,List.set_cons_succ] at S6b
 have HS6b:=Lib.hid S6b
 clear S6 S6b
 go_wp2_with (go_at_call 63;refine(text_calls (w.heap.size+1) _ _ 6 _ 32 _ HS6b.out.rd (by omega) (by have:=Z6.out;omega) (by omega)).mono ?_)
 rintro e w7 ⟨rfl,R7,O7⟩
 have S7:=HS6b.out.call R7 O7
 rw[H7.out] at S7⊢
 clear R7 O7
 have q7:=S7.qc.c 6 (by simp)
 have g7:=S7.qc.f 6
 simp only[List.getElem_cons_zero,List.getElem_cons_succ] at q7
 have S7b:=S7.store 6 (by simp) (.string v7.1)
 simp only[List.set_cons_zero,List.set_cons_succ] at S7b
 have HS7b:=Lib.hid S7b
 clear S7 S7b
 go_wp2_with (go_at_call 63;refine(text_calls (w.heap.size+1) _ _ 7 _ 64 _ HS7b.out.rd (by omega) (by have:=Z7.out;omega) (by omega)).mono ?_)
 rintro e w8 ⟨rfl,R8,O8⟩
 have S8:=HS7b.out.call R8 O8
 rw[H8.out] at S8⊢
 clear R8 O8
 have q8:=S8.qc.c 7 (by simp)
 have g8:=S8.qc.f 7
 simp only[List.getElem_cons_zero,List.getElem_cons_succ] at q8
 have S8b:=S8.store 7 (by simp) (.string v8.1)
 simp only[List.set_cons_zero,List.set_cons_succ] at S8b
 have HS8b:=Lib.hid S8b
 clear S8 S8b
 go_wp2_with (go_at_call 63;refine(text_calls (w.heap.size+1) _ _ 8 _ 32 _ HS8b.out.rd (by omega) (by have:=Z8.out;omega) (by omega)).mono ?_)
 rintro e w9 ⟨rfl,R9,O9⟩
 have S9:=HS8b.out.call R9 O9
 rw[H9.out] at S9⊢
 clear R9 O9
 have q9:=S9.qc.c 8 (by simp)
 have g9:=S9.qc.f 8
 simp only[List.getElem_cons_zero,List.getElem_cons_succ] at q9
 have S9b:=S9.store 8 (by simp) (.string v9.1)
 simp only[List.set_cons_zero,List.set_cons_succ] at S9b
 have HS9b:=Lib.hid S9b
 clear S9 S9b
 go_wp2_with (go_at_call 63;refine(text_calls (w.heap.size+1) _ _ 9 _ 32 _ HS9b.out.rd (by omega) (by have:=Z9.out;omega) (by omega)).mono ?_)
 rintro e w10 ⟨rfl,R10,O10⟩
 have S10:=HS9b.out.call R10 O10
 rw[H10.out] at S10⊢
 clear R10 O10
 have q10:=S10.qc.c 9 (by simp)
 have g10:=S10.qc.f 9
 simp only[List.getElem_cons_zero,List.getElem_cons_succ] at q10
 have S10b:=S10.store 9 (by simp) (.string v10.1)
 simp only[List.set_cons_zero,List.set_cons_succ] at S10b
 have HS10b:=Lib.hid S10b
 clear S10 S10b
 go_wp2_with (go_at_call 62;refine(num_calls (w.heap.size+1) _ _ 10 _ 1073741824 _ HS10b.out.rd (by omega) (by have:=Z10.out;omega) (by omega)).mono ?_)
 rintro e w11 ⟨rfl,R11,O11⟩
 have S11:=HS10b.out.call R11 O11
 rw[H11.out] at S11⊢
 clear R11 O11
 have q11:=S11.qc.c 10 (by simp)
 have g11:=S11.qc.f 10
 simp only[List.getElem_cons_zero,List.getElem_cons_succ] at q11
 have S11b:=S11.store 10 (by simp) (.int .i64 v11.1)
 simp only[List.set_cons_zero,List.set_cons_succ] at S11b
 have HS11b:=Lib.hid S11b
 clear S11 S11b
 have e0:=Lib.hid (end_calls (w.heap.size+1) _ _ 11 _ _ HS11b.out.hg (by omega) HS11b.out.rd (by omega))
 rw[if_pos HBB.out] at e0
 go_wp2_with (go_at_call 64;refine e0.out.mono ?_)
 rintro e w90 ⟨rfl,O90⟩
 have B90:=Lib.hid (HS11b.out.bel.trans (O90.below HS11b.out.r0 HS11b.out.bel.size))
 have K90:=(HS11b.out.kc (w.heap.size,zeroReq.toList) (by simp)).1.only (by simp[zeroReq]) O90 (HS11b.out.kc (w.heap.size,zeroReq.toList) (by simp)).2.2.1
 have y0:w90.cell? ⟨w.heap.size,0,none⟩=some (.int .i64 0):=K90.c 0 (by simp[zeroReq])
 have y1:w90.cell? ⟨w.heap.size,1,none⟩=some (.int .i64 0):=K90.c 1 (by simp[zeroReq])
 have y2:w90.cell? ⟨w.heap.size,2,none⟩=some (.int .i64 0):=K90.c 2 (by simp[zeroReq])
 have y3:w90.cell? ⟨w.heap.size,3,none⟩=some (.int .i64 0):=K90.c 3 (by simp[zeroReq])
 have y4:w90.cell? ⟨w.heap.size,4,none⟩=some (.string ⟨#[]⟩):=K90.c 4 (by simp[zeroReq])
 have y5:w90.cell? ⟨w.heap.size,5,none⟩=some (.int .i64 0):=K90.c 5 (by simp[zeroReq])
 have y6:w90.cell? ⟨w.heap.size,6,none⟩=some (.string ⟨#[]⟩):=K90.c 6 (by simp[zeroReq])
 have y7:w90.cell? ⟨w.heap.size,7,none⟩=some (.string ⟨#[]⟩):=K90.c 7 (by simp[zeroReq])
 have y8:w90.cell? ⟨w.heap.size,8,none⟩=some (.string ⟨#[]⟩):=K90.c 8 (by simp[zeroReq])
 have y9:w90.cell? ⟨w.heap.size,9,none⟩=some (.string ⟨#[]⟩):=K90.c 9 (by simp[zeroReq])
 have y10:w90.cell? ⟨w.heap.size,10,none⟩=some (.int .i64 0):=K90.c 10 (by simp[zeroReq])
 have f0:=K90.f 0
 have f1:=K90.f 1
 have f2:=K90.f 2
 have f3:=K90.f 3
 have f4:=K90.f 4
 have f5:=K90.f 5
 have f6:=K90.f 6
 have f7:=K90.f 7
 have f8:=K90.f 8
 have f9:=K90.f 9
 have f10:=K90.f 10
 have HK90:=Lib.hid K90
 clear K90 O90
 go_wp2
 have KF:=(((((((((((HK90.out).set 0 (by simp[zeroReq]) (.int .i64 0)).set 1 (by simp[zeroReq]) (.int .i64 0)).set 2 (by simp[zeroReq]) (.int .i64 0)).set 3 (by simp[zeroReq]) (.int .i64 0)).set 4 (by simp[zeroReq]) (.string ⟨#[]⟩)).set 5 (by simp[zeroReq]) (.int .i64 0)).set 6 (by simp[zeroReq]) (.string ⟨#[]⟩)).set 7 (by simp[zeroReq]) (.string ⟨#[]⟩)).set 8 (by simp[zeroReq]) (.string ⟨#[]⟩)).set 9 (by simp[zeroReq]) (.string ⟨#[]⟩)).set 10 (by simp[zeroReq]) (.int .i64 0)
 try simp only[Exit.inBlock,Exit.then]
 have HL:=load_req _ _ _ KF (.int .i64 0) (.int .i64 0) (.int .i64 0) (.int .i64 0) (.string ⟨#[]⟩) (.int .i64 0) (.string ⟨#[]⟩) (.string ⟨#[]⟩) (.string ⟨#[]⟩) (.string ⟨#[]⟩) (.int .i64 0) rfl
 refine bodyPost_ret (results_cell_tmp Tryz.results32 _ _ _ ⟨w.heap.size,0,none⟩ _ rfl HL) rfl ?_
 refine⟨rfl,?_⟩
 exact(((((((((((B90.out).setCell (p:=⟨w.heap.size,_,none⟩) (Nat.le_refl _) _).setCell (p:=⟨w.heap.size,_,none⟩) (Nat.le_refl _) _).setCell (p:=⟨w.heap.size,_,none⟩) (Nat.le_refl _) _).setCell (p:=⟨w.heap.size,_,none⟩) (Nat.le_refl _) _).setCell (p:=⟨w.heap.size,_,none⟩) (Nat.le_refl _) _).setCell (p:=⟨w.heap.size,_,none⟩) (Nat.le_refl _) _).setCell (p:=⟨w.heap.size,_,none⟩) (Nat.le_refl _) _).setCell (p:=⟨w.heap.size,_,none⟩) (Nat.le_refl _) _).setCell (p:=⟨w.heap.size,_,none⟩) (Nat.le_refl _) _).setCell (p:=⟨w.heap.size,_,none⟩) (Nat.le_refl _) _).setCell (p:=⟨w.heap.size,_,none⟩) (Nat.le_refl _) _
theorem take5_good (s:ByteArray)(w:World)(hg:Handle w)(hs:s.size≤2048)(v1:Int×ByteArray×Bool)(v2:Int×ByteArray×Bool)(v3:Int×ByteArray×Bool)(v4:Int×ByteArray×Bool)(v5:ByteArray×ByteArray×Bool)(v6:Int×ByteArray×Bool)(v7:ByteArray×ByteArray×Bool)(v8:ByteArray×ByteArray×Bool)(v9:ByteArray×ByteArray×Bool)(v10:ByteArray×ByteArray×Bool)(v11:Int×ByteArray×Bool)(h1:numR s false 6=v1)(h2:numR v1.2.1 v1.2.2 1073741824=v2)(h3:numR v2.2.1 v2.2.2 1073741824=v3)(h4:numR v3.2.1 v3.2.2 1073741824=v4)(h5:textR v4.2.1 v4.2.2 16=v5)(h6:numR v5.2.1 v5.2.2 6=v6)(h7:textR v6.2.1 v6.2.2 32=v7)(h8:textR v7.2.1 v7.2.2 64=v8)(h9:textR v8.2.1 v8.2.2 32=v9)(h10:textR v9.2.1 v9.2.2 32=v10)(h11:numR v10.2.1 v10.2.2 1073741824=v11)(hk:v1.1=5)(hb:¬(v11.2.2=true∨¬v11.2.1.size=0))(mb:Bool)(hmb:QWi.wire_MayReq.f 1 v1.1 v2.1 v3.1 v4.1 v5.1 v6.1 v7.1 v8.1 v9.1 v10.1 v11.1=some mb):
  Calls Tryz.prog 32 #[.string s] w fun e w'=>e= .returned (.tuple (if mb=true then #[.agg #[.int .i64 v1.1,.int .i64 v2.1,.int .i64 v3.1,.int .i64 v4.1,.string v5.1,.int .i64 v6.1,.string v7.1,.string v8.1,.string v9.1,.string v10.1,.int .i64 v11.1],.int .i64 0] else #[.agg zeroReq,.int .i64 3]))∧Below w.heap.size w w':=by
 have c1:decide (2048<(s.size:Int))=false:=decide_eq_false (by omega)
 have z1:v1.2.1.size≤2048:=by have h:=numR_size s false 6;rw[h1] at h;omega
 have z2:v2.2.1.size≤2048:=by have h:=numR_size v1.2.1 v1.2.2 1073741824;rw[h2] at h;omega
 have z3:v3.2.1.size≤2048:=by have h:=numR_size v2.2.1 v2.2.2 1073741824;rw[h3] at h;omega
 have z4:v4.2.1.size≤2048:=by have h:=numR_size v3.2.1 v3.2.2 1073741824;rw[h4] at h;omega
 have z5:v5.2.1.size≤2048:=by have h:=textR_size v4.2.1 v4.2.2 16;rw[h5] at h;omega
 have z6:v6.2.1.size≤2048:=by have h:=numR_size v5.2.1 v5.2.2 6;rw[h6] at h;omega
 have z7:v7.2.1.size≤2048:=by have h:=textR_size v6.2.1 v6.2.2 32;rw[h7] at h;omega
 have z8:v8.2.1.size≤2048:=by have h:=textR_size v7.2.1 v7.2.2 64;rw[h8] at h;omega
 have z9:v9.2.1.size≤2048:=by have h:=textR_size v8.2.1 v8.2.2 32;rw[h9] at h;omega
 have z10:v10.2.1.size≤2048:=by have h:=textR_size v9.2.1 v9.2.2 32;rw[h10] at h;omega
 have z11:v11.2.1.size≤2048:=by have h:=numR_size v10.2.1 v10.2.2 1073741824;rw[h11] at h;omega
 have h00:0<w.heap.size:=Nat.lt_of_le_of_lt (Nat.zero_le _) (cell_lt hg)
 have S0:St w (w.heap.size+1) w.heap.size [] ((w.alloc (.cells zeroReq 61)).alloc (.cells #[.string s,.int .i64 0,.nilIface] 155)) s 0 false zeroReq.toList:=start_st w s zeroReq 61 (by decide) hg
 have Z1:=Lib.hid z1
 have H1:=Lib.hid h1
 have Z2:=Lib.hid z2
 have H2:=Lib.hid h2
 have Z3:=Lib.hid z3
 have H3:=Lib.hid h3
 have Z4:=Lib.hid z4
 have H4:=Lib.hid h4
 have Z5:=Lib.hid z5
 have H5:=Lib.hid h5
 have Z6:=Lib.hid z6
 have H6:=Lib.hid h6
 have Z7:=Lib.hid z7
 have H7:=Lib.hid h7
 have Z8:=Lib.hid z8
 have H8:=Lib.hid h8
 have Z9:=Lib.hid z9
 have H9:=Lib.hid h9
 have Z10:=Lib.hid z10
 have H10:=Lib.hid h10
 have Z11:=Lib.hid z11
 have H11:=Lib.hid h11
 have HS0:=Lib.hid S0
 have HSS:=Lib.hid hs
 have HK:=Lib.hid hk
 have HBB:=Lib.hid hb
 have HMB:=Lib.hid hmb
 clear S0 hg h00 hs hk hb z1 h1 z2 h2 z3 h3 z4 h4 z5 h5 z6 h6 z7 h7 z8 h8 z9 h9 z10 h10 z11 h11 hmb
 have ck:(v1.1==5)=true:=beq_iff_eq.mpr HK.out
 go_enter Tryz.func32,Tryz.ntmps32
 go_wp2_with (go_at_call 62;refine(num_calls (w.heap.size+1) _ _ 0 _ 6 _ HS0.out.rd (by omega) (by have:=HSS.out;omega) (by omega)).mono ?_)
 rintro e w1 ⟨rfl,R1,O1⟩
 have S1:=HS0.out.call R1 O1
 rw[H1.out] at S1⊢
 clear R1 O1
 have hQ:w.heap.size≤w1.heap.size:=S1.bel.size
 have S1q:=(S1.push #[.int .i64 v1.1,.int .i64 0,.int .i64 0,.int .i64 0,.string ⟨#[]⟩,.int .i64 0,.string ⟨#[]⟩,.string ⟨#[]⟩,.string ⟨#[]⟩,.string ⟨#[]⟩,.int .i64 0] 61 (by simp)).swap hQ
 have S1p:=S1q.push #[.pointer (some ⟨w1.heap.size,1,none⟩),.pointer (some ⟨w1.heap.size,2,none⟩),.pointer (some ⟨w1.heap.size,3,none⟩)] 157 (by simp)
 have hP:(w1.alloc (.cells #[.int .i64 v1.1,.int .i64 0,.int .i64 0,.int .i64 0,.string ⟨#[]⟩,.int .i64 0,.string ⟨#[]⟩,.string ⟨#[]⟩,.string ⟨#[]⟩,.string ⟨#[]⟩,.int .i64 0] 61)).heap.size=w1.heap.size+1:=by simp
 rw[hP] at S1p
 have HS1b:=Lib.hid S1p
 clear hQ S1 S1q S1p hP
 go_wp2
 refine wp_loop_rounds 4 ?_
 rw[rounds_succ]
 go_wp2_with (go_at_call 62;refine(num_calls (w.heap.size+1) _ _ 1 _ 1073741824 _ HS1b.out.rd (by omega) (by have:=Z1.out;omega) (by omega)).mono ?_)
 rintro e w2 ⟨rfl,R2,O2⟩
 have S2:=HS1b.out.call R2 O2
 rw[H2.out] at S2⊢
 clear R2 O2
 have q2:=S2.qc.c 1 (by simp)
 have g2:=S2.qc.f 1
 simp only[List.getElem_cons_zero,List.getElem_cons_succ] at q2
 have S2b:=S2.store 1 (by simp) (.int .i64 v2.1)
 simp only[List.set_cons_zero,List.set_cons_succ] at S2b
 have HS2b:=Lib.hid S2b
 have p2:=(S2b.kc _ (List.mem_cons_self ..)).1.c 1 (by simp)
 simp only[List.getElem_cons_zero,List.getElem_cons_succ] at p2
 clear S2 S2b
 go_wp2
 rw[rounds_succ]
 go_wp2_with (go_at_call 62;refine(num_calls (w.heap.size+1) _ _ 2 _ 1073741824 _ HS2b.out.rd (by omega) (by have:=Z2.out;omega) (by omega)).mono ?_)
 rintro e w3 ⟨rfl,R3,O3⟩
 have S3:=HS2b.out.call R3 O3
 rw[H3.out] at S3⊢
 clear R3 O3
 have q3:=S3.qc.c 2 (by simp)
 have g3:=S3.qc.f 2
 simp only[List.getElem_cons_zero,List.getElem_cons_succ] at q3
 have S3b:=S3.store 2 (by simp) (.int .i64 v3.1)
 simp only[List.set_cons_zero,List.set_cons_succ] at S3b
 have HS3b:=Lib.hid S3b
 have p3:=(S3b.kc _ (List.mem_cons_self ..)).1.c 2 (by simp)
 simp only[List.getElem_cons_zero,List.getElem_cons_succ] at p3
 clear S3 S3b
 go_wp2
 rw[rounds_succ]
 go_wp2_with (go_at_call 62;refine(num_calls (w.heap.size+1) _ _ 3 _ 1073741824 _ HS3b.out.rd (by omega) (by have:=Z3.out;omega) (by omega)).mono ?_)
 rintro e w4 ⟨rfl,R4,O4⟩
 have S4:=HS3b.out.call R4 O4
 rw[H4.out] at S4⊢
 clear R4 O4
 have q4:=S4.qc.c 3 (by simp)
 have g4:=S4.qc.f 3
 simp only[List.getElem_cons_zero,List.getElem_cons_succ] at q4
 have S4b:=S4.store 3 (by simp) (.int .i64 v4.1)
 simp only[List.set_cons_zero,List.set_cons_succ] at S4b
 have HS4b:=Lib.hid S4b
 clear S4 S4b
 go_wp2
 rw[rounds_succ]
 go_wp2_with (go_at_call 63;refine(text_calls (w.heap.size+1) _ _ 4 _ 16 _ HS4b.out.rd (by omega) (by have:=Z4.out;omega) (by omega)).mono ?_)
 rintro e w5 ⟨rfl,R5,O5⟩
 have S5:=HS4b.out.call R5 O5
 rw[H5.out] at S5⊢
 clear R5 O5
 have q5:=S5.qc.c 4 (by simp)
 have g5:=S5.qc.f 4
 simp only[List.getElem_cons_zero,List.getElem_cons_succ] at q5
 have S5b:=S5.store 4 (by simp) (.string v5.1)
 simp only[List.set_cons_zero,List.set_cons_succ] at S5b
 have HS5b:=Lib.hid S5b
 have k0:=S5b.qc.c 0 (by simp)
 simp only[List.getElem_cons_zero] at k0
 clear S5 S5b
 go_wp2_with (go_at_call 62;refine(num_calls (w.heap.size+1) _ _ 5 _ 6 _ HS5b.out.rd (by omega) (by have:=Z5.out;omega) (by omega)).mono ?_)
 rintro e w6 ⟨rfl,R6,O6⟩
 have S6:=HS5b.out.call R6 O6
 rw[H6.out] at S6⊢
 clear R6 O6
 have q6:=S6.qc.c 5 (by simp)
 have g6:=S6.qc.f 5
 simp only[List.getElem_cons_zero,List.getElem_cons_succ] at q6
 have S6b:=S6.store 5 (by simp) (.int .i64 v6.1)
 simp only[List.set_cons_zero,List.set_cons_succ] at S6b
 have HS6b:=Lib.hid S6b
 clear S6 S6b
 go_wp2_with (go_at_call 63;refine(text_calls (w.heap.size+1) _ _ 6 _ 32 _ HS6b.out.rd (by omega) (by have:=Z6.out;omega) (by omega)).mono ?_)
 rintro e w7 ⟨rfl,R7,O7⟩
 have S7:=HS6b.out.call R7 O7
 rw[H7.out] at S7⊢
 clear R7 O7
 have q7:=S7.qc.c 6 (by simp)
 have g7:=S7.qc.f 6
 simp only[List.getElem_cons_zero,List.getElem_cons_succ] at q7
 have S7b:=S7.store 6 (by simp) (.string v7.1)
 simp only[List.set_cons_zero,List.set_cons_succ] at S7b
 have HS7b:=Lib.hid S7b
 clear S7 S7b
 go_wp2_with (go_at_call 63;refine(text_calls (w.heap.size+1) _ _ 7 _ 64 _ HS7b.out.rd (by omega) (by have:=Z7.out;omega) (by omega)).mono ?_)
 rintro e w8 ⟨rfl,R8,O8⟩
 have S8:=HS7b.out.call R8 O8
 rw[H8.out] at S8⊢
 clear R8 O8
 have q8:=S8.qc.c 7 (by simp)
 have g8:=S8.qc.f 7
 simp only[List.getElem_cons_zero,List.getElem_cons_succ] at q8
 have S8b:=S8.store 7 (by simp) (.string v8.1)
 simp only[List.set_cons_zero,List.set_cons_succ] at S8b
 have HS8b:=Lib.hid S8b
 clear S8 S8b
 go_wp2_with (go_at_call 63;refine(text_calls (w.heap.size+1) _ _ 8 _ 32 _ HS8b.out.rd (by omega) (by have:=Z8.out;omega) (by omega)).mono ?_)
 rintro e w9 ⟨rfl,R9,O9⟩
 have S9:=HS8b.out.call R9 O9
 rw[H9.out] at S9⊢
 clear R9 O9
 have q9:=S9.qc.c 8 (by simp)
 have g9:=S9.qc.f 8
 simp only[List.getElem_cons_zero,List.getElem_cons_succ] at q9
 have S9b:=S9.store 8 (by simp) (.string v9.1)
 simp only[List.set_cons_zero,List.set_cons_succ] at S9b
 have HS9b:=Lib.hid S9b
 clear S9 S9b
 go_wp2_with (go_at_call 63;refine(text_calls (w.heap.size+1) _ _ 9 _ 32 _ HS9b.out.rd (by omega) (by have:=Z9.out;omega) (by omega)).mono ?_)
 rintro e w10 ⟨rfl,R10,O10⟩
 have S10:=HS9b.out.call R10 O10
 rw[H10.out] at S10⊢
 clear R10 O10
 have q10:=S10.qc.c 9 (by simp)
 have g10:=S10.qc.f 9
 simp only[List.getElem_cons_zero,List.getElem_cons_succ] at q10
 have S10b:=S10.store 9 (by simp) (.string v10.1)
 simp only[List.set_cons_zero,List.set_cons_succ] at S10b
 have HS10b:=Lib.hid S10b
 clear S10 S10b
 go_wp2_with (go_at_call 62;refine(num_calls (w.heap.size+1) _ _ 10 _ 1073741824 _ HS10b.out.rd (by omega) (by have:=Z10.out;omega) (by omega)).mono ?_)
 rintro e w11 ⟨rfl,R11,O11⟩
 have S11:=HS10b.out.call R11 O11
 rw[H11.out] at S11⊢
 clear R11 O11
 have q11:=S11.qc.c 10 (by simp)
 have g11:=S11.qc.f 10
 simp only[List.getElem_cons_zero,List.getElem_cons_succ] at q11
 have S11b:=S11.store 10 (by simp) (.int .i64 v11.1)
 simp only[List.set_cons_zero,List.set_cons_succ] at S11b
 have HS11b:=Lib.hid S11b
 clear S11 S11b
 have e0:=Lib.hid (end_calls (w.heap.size+1) _ _ 11 _ _ HS11b.out.hg (by omega) HS11b.out.rd (by omega))
 rw[if_neg HBB.out] at e0
 go_wp2_with (go_at_call 64;refine e0.out.mono ?_)
 rintro e w90 ⟨rfl,O90⟩
 have B90:=Lib.hid (HS11b.out.bel.trans (O90.below HS11b.out.r0 HS11b.out.bel.size))
 have K90:=(HS11b.out.kc (w.heap.size,zeroReq.toList) (by simp)).1.only (by simp[zeroReq]) O90 (HS11b.out.kc (w.heap.size,zeroReq.toList) (by simp)).2.2.1
 have Q90:=HS11b.out.qc.only HS11b.out.hq O90 HS11b.out.qr
 have x0:=Q90.c 0 (by simp)
 have x1:=Q90.c 1 (by simp)
 have x2:=Q90.c 2 (by simp)
 have x3:=Q90.c 3 (by simp)
 have x4:=Q90.c 4 (by simp)
 have x5:=Q90.c 5 (by simp)
 have x6:=Q90.c 6 (by simp)
 have x7:=Q90.c 7 (by simp)
 have x8:=Q90.c 8 (by simp)
 have x9:=Q90.c 9 (by simp)
 have x10:=Q90.c 10 (by simp)
 simp only[List.getElem_cons_zero,List.getElem_cons_succ] at x0 x1 x2 x3 x4 x5 x6 x7 x8 x9 x10
 have HQ90:=Lib.hid Q90
 clear Q90 O90
 have HK90:=Lib.hid K90
 clear K90
 go_wp2_with (go_at_call 65;refine(QWi.wire_MayReq.calls 1 v1.1 v2.1 v3.1 v4.1 v5.1 v6.1 v7.1 v8.1 v9.1 v10.1 v11.1 mb _ HMB.out).mono ?_)
 rintro e w91 ⟨rfl,b91⟩
 have B91:=Lib.hid (B90.out.trans (b91.mono B90.out.size))
 have K91:=HK90.out.below (by simp[zeroReq]) b91
 have y0:w91.cell? ⟨w.heap.size,0,none⟩=some (.int .i64 0):=K91.c 0 (by simp[zeroReq])
 have y1:w91.cell? ⟨w.heap.size,1,none⟩=some (.int .i64 0):=K91.c 1 (by simp[zeroReq])
 have y2:w91.cell? ⟨w.heap.size,2,none⟩=some (.int .i64 0):=K91.c 2 (by simp[zeroReq])
 have y3:w91.cell? ⟨w.heap.size,3,none⟩=some (.int .i64 0):=K91.c 3 (by simp[zeroReq])
 have y4:w91.cell? ⟨w.heap.size,4,none⟩=some (.string ⟨#[]⟩):=K91.c 4 (by simp[zeroReq])
 have y5:w91.cell? ⟨w.heap.size,5,none⟩=some (.int .i64 0):=K91.c 5 (by simp[zeroReq])
 have y6:w91.cell? ⟨w.heap.size,6,none⟩=some (.string ⟨#[]⟩):=K91.c 6 (by simp[zeroReq])
 have y7:w91.cell? ⟨w.heap.size,7,none⟩=some (.string ⟨#[]⟩):=K91.c 7 (by simp[zeroReq])
 have y8:w91.cell? ⟨w.heap.size,8,none⟩=some (.string ⟨#[]⟩):=K91.c 8 (by simp[zeroReq])
 have y9:w91.cell? ⟨w.heap.size,9,none⟩=some (.string ⟨#[]⟩):=K91.c 9 (by simp[zeroReq])
 have y10:w91.cell? ⟨w.heap.size,10,none⟩=some (.int .i64 0):=K91.c 10 (by simp[zeroReq])
 have f0:=K91.f 0
 have f1:=K91.f 1
 have f2:=K91.f 2
 have f3:=K91.f 3
 have f4:=K91.f 4
 have f5:=K91.f 5
 have f6:=K91.f 6
 have f7:=K91.f 7
 have f8:=K91.f 8
 have f9:=K91.f 9
 have f10:=K91.f 10
 have HK91:=Lib.hid K91
 have Q91:=HQ90.out.below (by simp) b91
 have u0:=Q91.c 0 (by simp)
 have u1:=Q91.c 1 (by simp)
 have u2:=Q91.c 2 (by simp)
 have u3:=Q91.c 3 (by simp)
 have u4:=Q91.c 4 (by simp)
 have u5:=Q91.c 5 (by simp)
 have u6:=Q91.c 6 (by simp)
 have u7:=Q91.c 7 (by simp)
 have u8:=Q91.c 8 (by simp)
 have u9:=Q91.c 9 (by simp)
 have u10:=Q91.c 10 (by simp)
 simp only[List.getElem_cons_zero,List.getElem_cons_succ] at u0 u1 u2 u3 u4 u5 u6 u7 u8 u9 u10
 clear b91 K91 Q91
 cases mb with
 |true=>
  go_wp2
  have KF:=(((((((((((HK91.out).set 0 (by simp[zeroReq]) (.int .i64 v1.1)).set 1 (by simp[zeroReq]) (.int .i64 v2.1)).set 2 (by simp[zeroReq]) (.int .i64 v3.1)).set 3 (by simp[zeroReq]) (.int .i64 v4.1)).set 4 (by simp[zeroReq]) (.string v5.1)).set 5 (by simp[zeroReq]) (.int .i64 v6.1)).set 6 (by simp[zeroReq]) (.string v7.1)).set 7 (by simp[zeroReq]) (.string v8.1)).set 8 (by simp[zeroReq]) (.string v9.1)).set 9 (by simp[zeroReq]) (.string v10.1)).set 10 (by simp[zeroReq]) (.int .i64 v11.1)
  try simp only[Exit.inBlock,Exit.then]
  have HL:=load_req _ _ _ KF (.int .i64 v1.1) (.int .i64 v2.1) (.int .i64 v3.1) (.int .i64 v4.1) (.string v5.1) (.int .i64 v6.1) (.string v7.1) (.string v8.1) (.string v9.1) (.string v10.1) (.int .i64 v11.1) rfl
  refine bodyPost_ret (results_cell_tmp Tryz.results32 _ _ _ ⟨w.heap.size,0,none⟩ _ rfl HL) rfl ?_
  refine⟨rfl,?_⟩
  exact(((((((((((B91.out).setCell (p:=⟨w.heap.size,_,none⟩) (Nat.le_refl _) _).setCell (p:=⟨w.heap.size,_,none⟩) (Nat.le_refl _) _).setCell (p:=⟨w.heap.size,_,none⟩) (Nat.le_refl _) _).setCell (p:=⟨w.heap.size,_,none⟩) (Nat.le_refl _) _).setCell (p:=⟨w.heap.size,_,none⟩) (Nat.le_refl _) _).setCell (p:=⟨w.heap.size,_,none⟩) (Nat.le_refl _) _).setCell (p:=⟨w.heap.size,_,none⟩) (Nat.le_refl _) _).setCell (p:=⟨w.heap.size,_,none⟩) (Nat.le_refl _) _).setCell (p:=⟨w.heap.size,_,none⟩) (Nat.le_refl _) _).setCell (p:=⟨w.heap.size,_,none⟩) (Nat.le_refl _) _).setCell (p:=⟨w.heap.size,_,none⟩) (Nat.le_refl _) _
 |false=>
  go_wp2
  have KF:=(((((((((((HK91.out).set 0 (by simp[zeroReq]) (.int .i64 0)).set 1 (by simp[zeroReq]) (.int .i64 0)).set 2 (by simp[zeroReq]) (.int .i64 0)).set 3 (by simp[zeroReq]) (.int .i64 0)).set 4 (by simp[zeroReq]) (.string ⟨#[]⟩)).set 5 (by simp[zeroReq]) (.int .i64 0)).set 6 (by simp[zeroReq]) (.string ⟨#[]⟩)).set 7 (by simp[zeroReq]) (.string ⟨#[]⟩)).set 8 (by simp[zeroReq]) (.string ⟨#[]⟩)).set 9 (by simp[zeroReq]) (.string ⟨#[]⟩)).set 10 (by simp[zeroReq]) (.int .i64 0)
  try simp only[Exit.inBlock,Exit.then]
  have HL:=load_req _ _ _ KF (.int .i64 0) (.int .i64 0) (.int .i64 0) (.int .i64 0) (.string ⟨#[]⟩) (.int .i64 0) (.string ⟨#[]⟩) (.string ⟨#[]⟩) (.string ⟨#[]⟩) (.string ⟨#[]⟩) (.int .i64 0) rfl
  refine bodyPost_ret (results_cell_tmp Tryz.results32 _ _ _ ⟨w.heap.size,0,none⟩ _ rfl HL) rfl ?_
  refine⟨rfl,?_⟩
  exact(((((((((((B91.out).setCell (p:=⟨w.heap.size,_,none⟩) (Nat.le_refl _) _).setCell (p:=⟨w.heap.size,_,none⟩) (Nat.le_refl _) _).setCell (p:=⟨w.heap.size,_,none⟩) (Nat.le_refl _) _).setCell (p:=⟨w.heap.size,_,none⟩) (Nat.le_refl _) _).setCell (p:=⟨w.heap.size,_,none⟩) (Nat.le_refl _) _).setCell (p:=⟨w.heap.size,_,none⟩) (Nat.le_refl _) _).setCell (p:=⟨w.heap.size,_,none⟩) (Nat.le_refl _) _).setCell (p:=⟨w.heap.size,_,none⟩) (Nat.le_refl _) _).setCell (p:=⟨w.heap.size,_,none⟩) (Nat.le_refl _) _).setCell (p:=⟨w.heap.size,_,none⟩) (Nat.le_refl _) _).setCell (p:=⟨w.heap.size,_,none⟩) (Nat.le_refl _) _
end Go.Proofs.YtmgmdiekpmffbaaGreatDoor.Reader
namespace Go.Proofs.YtmgmdiekpmffbaaGreatDoor.QWi
open Go Go.RowKit Go.Proofs.YtmgmdiekpmffbaaGreatDoorW.PrintWords Go.Proofs.YtmgmdiekpmffbaaGreatDoorW.PrintLast Go.Proofs.YtmgmdiekpmffbaaGreatDoorW.PrintMore
theorem bq (a b:Int):(a==b)=decide (a=b):=rfl
theorem wire_may (k:Nat)(a0 a1 a2 a3:Int)(t:ByteArray)(o:Int)(y v l h:ByteArray)(m:Int):
  wire_MayReq.f (k+1) a0 a1 a2 a3 t o y v l h m=some (decide (mayQ a0 a1 a2 a3 t o y v l h m)):=rfl
abbrev Q12:Type:=Int×Int×Int×Int×ByteArray×Int×ByteArray×ByteArray×ByteArray×ByteArray×Int×Int
def zq (e:Int):Q12:=(0,0,0,0,⟨#[]⟩,0,⟨#[]⟩,⟨#[]⟩,⟨#[]⟩,⟨#[]⟩,0,e)
def outQ (q:Q12):Value:= .tuple #[.agg #[.int .i64 q.1,.int .i64 q.2.1,.int .i64 q.2.2.1,.int .i64 q.2.2.2.1,.string q.2.2.2.2.1,.int .i64 q.2.2.2.2.2.1,.string q.2.2.2.2.2.2.1,.string q.2.2.2.2.2.2.2.1,.string q.2.2.2.2.2.2.2.2.1,.string q.2.2.2.2.2.2.2.2.2.1,.int .i64 q.2.2.2.2.2.2.2.2.2.2.1],.int .i64 q.2.2.2.2.2.2.2.2.2.2.2]
end Go.Proofs.YtmgmdiekpmffbaaGreatDoor.QWi
namespace Go.Proofs.YtmgmdiekpmffbaaGreatDoor.Reader
open Go Go.RowKit Go.Proofs.YtmgmdiekpmffbaaGreatDoor.DecM Go.Proofs.YtmgmdiekpmffbaaGreatDoor.Giv Go.Proofs.YtmgmdiekpmffbaaGreatDoor.Err Go.Proofs.YtmgmdiekpmffbaaGreatDoorW.PrintWords Go.Proofs.YtmgmdiekpmffbaaGreatDoorW.PrintLast
theorem take_big (s:ByteArray)(w:World)(hs:2048<s.size):
  Calls Tryz.prog 32 #[.string s] w fun e w'=>e= .returned (.tuple #[.agg zeroReq,.int .i64 4])∧Below w.heap.size w w':=by
 have c1:decide (2048<(s.size:Int))=true:=decide_eq_true (by omega)
 have B:Below w.heap.size w (w.alloc (.cells #[.int .i64 0,.int .i64 0,.int .i64 0,.int .i64 0,.string ⟨#[]⟩,.int .i64 0,.string ⟨#[]⟩,.string ⟨#[]⟩,.string ⟨#[]⟩,.string ⟨#[]⟩,.int .i64 0] 61)):=(Below.refl w.heap.size w).alloc (Nat.le_refl _) _
 have K:CellsAt (w.alloc (.cells #[.int .i64 0,.int .i64 0,.int .i64 0,.int .i64 0,.string ⟨#[]⟩,.int .i64 0,.string ⟨#[]⟩,.string ⟨#[]⟩,.string ⟨#[]⟩,.string ⟨#[]⟩,.int .i64 0] 61)) w.heap.size [.int .i64 0,.int .i64 0,.int .i64 0,.int .i64 0,.string ⟨#[]⟩,.int .i64 0,.string ⟨#[]⟩,.string ⟨#[]⟩,.string ⟨#[]⟩,.string ⟨#[]⟩,.int .i64 0]:=cells_new w #[.int .i64 0,.int .i64 0,.int .i64 0,.int .i64 0,.string ⟨#[]⟩,.int .i64 0,.string ⟨#[]⟩,.string ⟨#[]⟩,.string ⟨#[]⟩,.string ⟨#[]⟩,.int .i64 0] 61
 have HK:=Lib.hid K
 have HB:=Lib.hid B
 clear hs
 have y0:=K.c 0 (by simp)
 have y1:=K.c 1 (by simp)
 have y2:=K.c 2 (by simp)
 have y3:=K.c 3 (by simp)
 have y4:=K.c 4 (by simp)
 have y5:=K.c 5 (by simp)
 have y6:=K.c 6 (by simp)
 have y7:=K.c 7 (by simp)
 have y8:=K.c 8 (by simp)
 have y9:=K.c 9 (by simp)
 have y10:=K.c 10 (by simp)
 simp only[List.getElem_cons_zero,List.getElem_cons_succ] at y0 y1 y2 y3 y4 y5 y6 y7 y8 y9 y10
 have f0:=K.f 0
 have f1:=K.f 1
 have f2:=K.f 2
 have f3:=K.f 3
 have f4:=K.f 4
 have f5:=K.f 5
 have f6:=K.f 6
 have f7:=K.f 7
 have f8:=K.f 8
 have f9:=K.f 9
 have f10:=K.f 10
 clear K B
 go_enter Tryz.func32,Tryz.ntmps32
 go_wp2
 try simp only[Exit.inBlock,Exit.then]
 have HL:=load_req _ _ _ HK.out (.int .i64 0) (.int .i64 0) (.int .i64 0) (.int .i64 0) (.string ⟨#[]⟩) (.int .i64 0) (.string ⟨#[]⟩) (.string ⟨#[]⟩) (.string ⟨#[]⟩) (.string ⟨#[]⟩) (.int .i64 0) rfl
 refine bodyPost_ret (results_cell_tmp Tryz.results32 _ _ _ ⟨w.heap.size,0,none⟩ _ rfl HL) rfl ?_
 refine⟨rfl,?_⟩
 exact HB.out
end Go.Proofs.YtmgmdiekpmffbaaGreatDoor.Reader
namespace Go.Proofs.YtmgmdiekpmffbaaGreatDoor.QWi
open Go Go.RowKit Go.Proofs.YtmgmdiekpmffbaaGreatDoor.Reader
def goodQ (a0 a1 a2 a3:Int)(t:ByteArray)(o:Int)(y v l h:ByteArray)(m:Int):Q12:=if mayQ a0 a1 a2 a3 t o y v l h m then(a0,a1,a2,a3,t,o,y,v,l,h,m,0)else zq 3
def lastQ (x:ByteArray×Bool)(q:Q12):Q12:=if x.2=true∨¬x.1.size=0 then zq 3 else q
def takeReqF (s:ByteArray):Q12:=
 if 2048<s.size then zq 4 else
 nx (s,false) 6 fun a1 x1=>nx x1 1073741824 fun a2 x2=>nx x2 1073741824 fun a3 x3=>nx x3 1073741824 fun a4 x4=>tx x4 16 fun a5 x5=>
 if a1=5 then nx x5 6 fun a6 x6=>tx x6 32 fun a7 x7=>tx x7 64 fun a8 x8=>tx x8 32 fun a9 x9=>tx x9 32 fun a10 x10=>nx x10 1073741824 fun a11 x11=>
  lastQ x11 (goodQ a1 a2 a3 a4 a5 a6 a7 a8 a9 a10 a11)
 else lastQ x5 (goodQ a1 a2 a3 a4 a5 0 ⟨#[]⟩ ⟨#[]⟩ ⟨#[]⟩ ⟨#[]⟩ 0)
theorem take_all (s:ByteArray)(w:World)(hg:Handle w):Calls Tryz.prog 32 #[.string s] w fun e w'=>e= .returned (outQ (takeReqF s))∧Below w.heap.size w w':=by
 unfold takeReqF
 by_cases hs:2048<s.size
 ·rw [if_pos hs]
  exact take_big s w hs
 obtain⟨v1,h1⟩:∃v,numR s false 6=v:=⟨_,rfl⟩
 obtain⟨v2,h2⟩:∃v,numR v1.2.1 v1.2.2 1073741824=v:=⟨_,rfl⟩
 obtain⟨v3,h3⟩:∃v,numR v2.2.1 v2.2.2 1073741824=v:=⟨_,rfl⟩
 obtain⟨v4,h4⟩:∃v,numR v3.2.1 v3.2.2 1073741824=v:=⟨_,rfl⟩
 obtain⟨v5,h5⟩:∃v,textR v4.2.1 v4.2.2 16=v:=⟨_,rfl⟩
 rw[if_neg hs,nx_of _ h1,nx_of _ h2,nx_of _ h3,nx_of _ h4,tx_of _ h5]
 by_cases hk:v1.1=5
 ·rw [if_pos hk]
  obtain⟨v6,h6⟩:∃v,numR v5.2.1 v5.2.2 6=v:=⟨_,rfl⟩
  obtain⟨v7,h7⟩:∃v,textR v6.2.1 v6.2.2 32=v:=⟨_,rfl⟩
  obtain⟨v8,h8⟩:∃v,textR v7.2.1 v7.2.2 64=v:=⟨_,rfl⟩
  obtain⟨v9,h9⟩:∃v,textR v8.2.1 v8.2.2 32=v:=⟨_,rfl⟩
  obtain⟨v10,h10⟩:∃v,textR v9.2.1 v9.2.2 32=v:=⟨_,rfl⟩
  obtain⟨v11,h11⟩:∃v,numR v10.2.1 v10.2.2 1073741824=v:=⟨_,rfl⟩
  rw[nx_of _ h6,tx_of _ h7,tx_of _ h8,tx_of _ h9,tx_of _ h10,nx_of _ h11]
  unfold lastQ goodQ
  by_cases hb:v11.2.2=true∨¬v11.2.1.size=0
  ·rw [if_pos hb]
   exact take5_bad s w hg (by omega) v1 v2 v3 v4 v5 v6 v7 v8 v9 v10 v11 h1 h2 h3 h4 h5 h6 h7 h8 h9 h10 h11 hk hb
  ·rw [if_neg hb]
   refine(take5_good s w hg (by omega) v1 v2 v3 v4 v5 v6 v7 v8 v9 v10 v11 h1 h2 h3 h4 h5 h6 h7 h8 h9 h10 h11 hk hb _ (wire_may 0 ..)).mono ?_
   rintro e w' ⟨rfl,hw⟩
   refine⟨?_,hw⟩
   by_cases hm:mayQ v1.1 v2.1 v3.1 v4.1 v5.1 v6.1 v7.1 v8.1 v9.1 v10.1 v11.1
   ·rw [if_pos hm,if_pos (decide_eq_true hm)]
    rfl
   ·rw [if_neg hm,if_neg (fun h=>hm (of_decide_eq_true h))]
    rfl
 ·rw [if_neg hk]
  unfold lastQ goodQ
  by_cases hb:v5.2.2=true∨¬v5.2.1.size=0
  ·rw [if_pos hb]
   exact take_bad s w hg (by omega) v1 v2 v3 v4 v5 h1 h2 h3 h4 h5 hk hb
  ·rw [if_neg hb]
   refine(take_good s w hg (by omega) v1 v2 v3 v4 v5 h1 h2 h3 h4 h5 hk hb _ (wire_may 0 ..)).mono ?_
   rintro e w' ⟨rfl,hw⟩
   refine⟨?_,hw⟩
   by_cases hm:mayQ v1.1 v2.1 v3.1 v4.1 v5.1 0 ⟨#[]⟩ ⟨#[]⟩ ⟨#[]⟩ ⟨#[]⟩ 0
   ·rw [if_pos hm,if_pos (decide_eq_true hm)]
    rfl
   ·rw [if_neg hm,if_neg (fun h=>hm (of_decide_eq_true h))]
    rfl
def wire_TakeReq.f (s:ByteArray):Option Q12:=some (takeReqF s)
theorem wire_TakeReq.calls (a0:ByteArray)(r1 r2 r3 r4:Int)(r5:ByteArray)(r6:Int)(r7 r8 r9 r10:ByteArray)(r11 r12:Int)(w:World)(h:wire_TakeReq.f a0=some (r1,r2,r3,r4,r5,r6,r7,r8,r9,r10,r11,r12))(hg:Handle w):
  Calls Tryz.prog 32 #[.string a0] w fun e w'=>e= .returned (.tuple #[.agg #[.int .i64 r1,.int .i64 r2,.int .i64 r3,.int .i64 r4,.string r5,.int .i64 r6,.string r7,.string r8,.string r9,.string r10,.int .i64 r11],.int .i64 r12])∧Below w.heap.size w w':=by
 have e:=Option.some.inj h
 have c:=take_all a0 w hg
 rw[e] at c
 exact c
theorem handle_at {w w1:World}(hg:Handle w)(hb:Below w.heap.size w w1):Handle w1:=hg.below hb
end Go.Proofs.YtmgmdiekpmffbaaGreatDoor.QWi
namespace Go.Proofs.YtmgmdiekpmffbaaGreatDoor.QWi
open Go.RowKit Go.Proofs.YtmgmdiekpmffbaaGreatDoorW.PrintWords Go.Proofs.YtmgmdiekpmffbaaGreatDoorW.PrintLast Go.Proofs.YtmgmdiekpmffbaaGreatDoorW.PrintMore
attribute [local go_sem] max2_int min2_int max_two min_two max_three min_three max_four min_four
set_option linter.unusedVariables false
set_option linter.unusedSimpArgs false
def stanchionref16_num.f (a0:Int):Option (ByteArray):=(stanchionref01_Num.f (IntKind.u64.wrap (a0))).bind fun t130=>(some t130)
theorem stanchionref16_num.calls (a0:Int)(r:ByteArray)(w:World)(h:stanchionref16_num.f a0=some r):
  Calls Tryz.prog 38 #[.int .i64 a0] w fun e w'=>e= .returned (.string r)∧Below w.heap.size w w':=by
 have HB:=Aside0.mk (Below.refl w.heap.size w)
 have H:((stanchionref01_Num.f (IntKind.u64.wrap (a0))).bind fun t130=>(some t130))=some r:=h
 clear h
 replace H:=Option.bind_eq_some_iff.mp H
 obtain⟨t130,A20,H⟩:=H
 replace H:(some t130)=some r:=H
 have A2:=Aside0.mk A20
 clear A20
 obtain rfl:=Option.some.inj H
 go_enter Tryz.func38,Tryz.ntmps38
 go_wp2_with (first|((with_reducible refine gate_callee (f:=84) rfl ?_);refine goesL_ (some 5) rfl rfl Tryz.func84 (by kernel_rfl) rfl #[.int .u64 (IntKind.u64.wrap (a0))] rfl (by(try simp only[List.map_toArray,List.map_cons,List.map_nil]);first|done|rfl|(simp only[List.length_drop,List.length_take];rfl)) ?_;(with_reducible refine(stanchionref01_Num.calls (IntKind.u64.wrap (a0)) t130 _ A2.out).mono ?_);rintro e w3 ⟨rfl,hb⟩;refine⟨_,rfl,?_⟩;have n0_:=Aside0.mk (below_step (by repeat (first|(with_reducible first|exact HB.out|apply below_alloc|apply pw_below_drewN|apply below_drew1)|exact HB.out)) hb);clear HB;have HB:=n0_;clear n0_;(try clear hb);(try clear hb2);(try clear hk);(try clear hi)))
 go_ret
 exact⟨by first|rfl|(simp[errW_none,errW_some] <;> rfl)|(simp[*,errW_none,errW_some] <;> rfl),by repeat (first|(with_reducible first|exact HB.out|apply below_alloc|apply pw_below_drewN|apply below_drew1)|exact HB.out)⟩
def stanchionref16_text.f (a0:ByteArray):Option (ByteArray):=(stanchionref01_Text.f a0).bind fun t131=>(some t131)
theorem stanchionref16_text.calls (a0:ByteArray)(r:ByteArray)(w:World)(h:stanchionref16_text.f a0=some r):
  Calls Tryz.prog 39 #[.string a0] w fun e w'=>e= .returned (.string r)∧Below w.heap.size w w':=by
 have HB:=Aside0.mk (Below.refl w.heap.size w)
 have H:((stanchionref01_Text.f a0).bind fun t131=>(some t131))=some r:=h
 clear h
 replace H:=Option.bind_eq_some_iff.mp H
 obtain⟨t131,A20,H⟩:=H
 replace H:(some t131)=some r:=H
 have A2:=Aside0.mk A20
 clear A20
 obtain rfl:=Option.some.inj H
 go_enter Tryz.func39,Tryz.ntmps39
 go_wp2_with (first|((with_reducible refine gate_callee (f:=40) rfl ?_);refine goesL_ (some 4) rfl rfl Tryz.func40 (by kernel_rfl) rfl #[.string a0] rfl (by(try simp only[List.map_toArray,List.map_cons,List.map_nil]);first|done|rfl|(simp only[List.length_drop,List.length_take];rfl)) ?_;(with_reducible refine(stanchionref01_Text.calls a0 t131 _ A2.out).mono ?_);rintro e w3 ⟨rfl,hb⟩;refine⟨_,rfl,?_⟩;have n0_:=Aside0.mk (below_step (by repeat (first|(with_reducible first|exact HB.out|apply below_alloc|apply pw_below_drewN|apply below_drew1)|exact HB.out)) hb);clear HB;have HB:=n0_;clear n0_;(try clear hb);(try clear hb2);(try clear hk);(try clear hi)))
 go_ret
 exact⟨by first|rfl|(simp[errW_none,errW_some] <;> rfl)|(simp[*,errW_none,errW_some] <;> rfl),by repeat (first|(with_reducible first|exact HB.out|apply below_alloc|apply pw_below_drewN|apply below_drew1)|exact HB.out)⟩
end Go.Proofs.YtmgmdiekpmffbaaGreatDoor.QWi
namespace Go.Proofs.YtmgmdiekpmffbaaGreatDoor.QWi
open Go.RowKit Go.Proofs.YtmgmdiekpmffbaaGreatDoorW.PrintWords Go.Proofs.YtmgmdiekpmffbaaGreatDoorW.PrintLast Go.Proofs.YtmgmdiekpmffbaaGreatDoorW.PrintMore
attribute [local go_sem] max2_int min2_int max_two min_two max_three min_three max_four min_four
set_option linter.unusedVariables false
set_option linter.unusedSimpArgs false
mutual
def stanchionref01_Less.l0:Nat→ByteArray→ByteArray→Int→Option (Bool)
 |0,_,_,_=>none
 |k+1,x0,x1,x5=>if x5<(x0.size:Int)then (stanchionref01_Less.j1 k x0 x1 x5 (decide (x5<(x1.size:Int))))else (stanchionref01_Less.j1 k x0 x1 x5 false)
def stanchionref01_Less.j1:Nat→ByteArray→ByteArray→Int→Bool→Option (Bool)
 |0,_,_,_,_=>none
 |k+1,x0,x1,x5,x15=>if x15=true then(if 0≤x5 then(if x5<(x0.size:Int)then (if x5<(x1.size:Int)then (if(bt x0 x5)=(bt x1 x5)then (stanchionref01_Less.l0 k x0 x1 (wrap64 (x5+1)))else (some (decide ((bt x0 x5)<(bt x1 x5)))))else (none))else (none))else (none))else (some (decide ((x0.size:Int)<(x1.size:Int))))
end
def stanchionref01_Less.f (k:Nat)(a0:ByteArray)(a1:ByteArray):Option (Bool):=stanchionref01_Less.l0 k a0 a1 0
theorem stanchionref01_Less.calls (k:Nat)(a0:ByteArray)(a1:ByteArray)(r:Bool)(w:World)(h:stanchionref01_Less.f k a0 a1=some r):
  Calls Tryz.prog 142 #[.string a0,.string a1] w fun e w'=>e= .returned (.bool r)∧Drawn0 w w':=by
 have H:(stanchionref01_Less.l0 k a0 a1 0)=some r:=h
 clear h
 have H':=Aside0.mk H
 clear H
 go_enter Tryz.func142,Tryz.ntmps142
 go_wp2
 repeat (go_quiet (fail);try go_wp2)
 go_loopg [5] k (fun kq v5 w'=>∃(x5_1:Int),v5= .int .i64 x5_1∧Aside0 (stanchionref01_Less.l0 kq a0 a1 x5_1=some r)∧Aside0 (kq≤k)∧Drawn0 w w')
 case atStart=>exact⟨(0),(by first|rfl|(simp;done)|(simp[*];done)),H',⟨Nat.le_refl _⟩,by repeat (first|exact Drawn0.refl _|apply Drawn0.step)⟩
 case round=>
  clear H'
  try clear c1
  try clear p2
  obtain⟨x5_1,rfl,HA,HK1,⟨m1,rfl⟩⟩:=hrel
  cases gk with
  |zero=>exact absurd HA.out (by simp[stanchionref01_Less.l0])
  |succ k1=>
   have H:=HA.out
   clear HA
   simp only[stanchionref01_Less.l0] at H
   have HC3:=Aside0.mk H
   clear H
   go_upto_region 2 with(fail)
   repeat (go_quiet (fail);go_upto_region 2 with(fail))
   go_cut [15] (fun v15 wc=>∃(kq:Nat) (x15_2:Bool),v15= .bool x15_2∧Aside0 (stanchionref01_Less.j1 kq a0 a1 x5_1 x15_2=some r)∧Aside0 (kq≤k1)∧Drawn0 w wc)
   case first=>
    have H:=HC3.out
    clear HC3
    by_cases c4:x5_1<(a0.size:Int)
    ·rw [if_pos c4] at H
     have c4b0:decide (x5_1<(a0.size:Int))=true:=decide_eq_true c4
     clear c4
     (first|rw[c4b0]|(simp only[i64_w,i32_w];rw[c4b0])|skip)
     have H':=Aside0.mk H
     clear H
     go_wp2
     repeat (go_quiet (fail);try go_wp2)
     go_meet
     case rel=>exact⟨_,(decide (x5_1<(a1.size:Int))),(by first|rfl|(simp;done)|(simp[*];done)),H',⟨by have:=HK1.out;first|omega|exact Nat.le_refl _⟩,by repeat (first|exact Drawn0.refl _|apply Drawn0.step)⟩
    ·rw [if_neg c4] at H
     have c4b0:decide (x5_1<(a0.size:Int))=false:=decide_eq_false c4
     clear c4
     (first|rw[c4b0]|(simp only[i64_w,i32_w];rw[c4b0])|skip)
     have H':=Aside0.mk H
     clear H
     go_wp2
     repeat (go_quiet (fail);try go_wp2)
     go_meet
     case rel=>exact⟨_,(false),(by first|rfl|(simp;done)|(simp[*];done)),H',⟨by have:=HK1.out;first|omega|exact Nat.le_refl _⟩,by repeat (first|exact Drawn0.refl _|apply Drawn0.step)⟩
   case rest=>
    clear HC3
    try clear c1
    try clear p2
    try clear c4
    try clear c4b0
    try clear p2
    obtain⟨kq,x15_2,rfl,HA,HJ2,⟨mc2,rfl⟩⟩:=hcut
    cases kq with
    |zero=>exact absurd HA.out (by simp[stanchionref01_Less.j1])
    |succ kj2=>
     have H:=HA.out
     clear HA
     simp only[stanchionref01_Less.j1] at H
     by_cases c5:x15_2=true
     ·subst c5
      have H1:(if 0≤x5_1 then(if x5_1<(a0.size:Int)then (if x5_1<(a1.size:Int)then (if(bt a0 x5_1)=(bt a1 x5_1)then (stanchionref01_Less.l0 kj2 a0 a1 (wrap64 (x5_1+1)))else (some (decide ((bt a0 x5_1)<(bt a1 x5_1)))))else (none))else (none))else (none))=some r:=by rw[if_pos rfl] at H;exact H
      clear H
      have H:=H1
      clear H1
      by_cases c6:0≤x5_1
      ·rw [if_pos c6] at H
       have c6b0:decide (0≤x5_1)=true:=decide_eq_true c6
       clear c6
       by_cases c7:x5_1<(a0.size:Int)
       ·rw [if_pos c7] at H
        have c7b0:decide (x5_1<(a0.size:Int))=true:=decide_eq_true c7
        clear c7
        by_cases c9:x5_1<(a1.size:Int)
        ·rw [if_pos c9] at H
         have c9b0:decide (x5_1<(a1.size:Int))=true:=decide_eq_true c9
         clear c9
         by_cases c11:(bt a0 x5_1)=(bt a1 x5_1)
         ·rw [if_pos c11] at H
          have c11b0:((bt a0 x5_1)==(bt a1 x5_1))=true:=beq_iff_eq.mpr c11
          have c11b1:((bt a0 x5_1) != (bt a1 x5_1))=false:=bne_eq_false_iff_eq.mpr c11
          clear c11
          have H':=Aside0.mk H
          clear H
          have p8:0≤(x5_1:Int):=of_decide_eq_true (by first|(with_reducible assumption)|assumption)
          have q8:x5_1<(a0.size:Int):=of_decide_eq_true (by first|(with_reducible assumption)|assumption)
          have hx8:=bt_at a0 x5_1
          replace p8:=eq_true p8
          replace q8:=eq_true q8
          have p10:0≤(x5_1:Int):=of_decide_eq_true (by first|(with_reducible assumption)|assumption)
          have q10:x5_1<(a1.size:Int):=of_decide_eq_true (by first|(with_reducible assumption)|assumption)
          have hx10:=bt_at a1 x5_1
          replace p10:=eq_true p10
          replace q10:=eq_true q10
          go_wp2
          repeat (go_quiet (fail);try go_wp2)
          go_roundg kj2
          case measure=>have:=HK1.out;have:=HJ2.out;omega
          case rel=>exact⟨(wrap64 (x5_1+1)),(by first|rfl|(simp;done)|(simp[*];done)),H',⟨by have:=HK1.out;have:=HJ2.out;omega⟩,by repeat (first|exact Drawn0.refl _|apply Drawn0.step)⟩
         ·rw [if_neg c11] at H
          have c11b0:((bt a0 x5_1)==(bt a1 x5_1))=false:=beq_eq_false_iff_ne.mpr c11
          have c11b1:((bt a0 x5_1) != (bt a1 x5_1))=true:=bne_iff_ne.mpr c11
          obtain rfl:=Option.some.inj H
          have p8:0≤(x5_1:Int):=of_decide_eq_true (by first|(with_reducible assumption)|assumption)
          have q8:x5_1<(a0.size:Int):=of_decide_eq_true (by first|(with_reducible assumption)|assumption)
          have hx8:=bt_at a0 x5_1
          replace p8:=eq_true p8
          replace q8:=eq_true q8
          have p10:0≤(x5_1:Int):=of_decide_eq_true (by first|(with_reducible assumption)|assumption)
          have q10:x5_1<(a1.size:Int):=of_decide_eq_true (by first|(with_reducible assumption)|assumption)
          have hx10:=bt_at a1 x5_1
          replace p10:=eq_true p10
          replace q10:=eq_true q10
          have p12:0≤(x5_1:Int):=of_decide_eq_true (by first|(with_reducible assumption)|assumption)
          have q12:x5_1<(a0.size:Int):=of_decide_eq_true (by first|(with_reducible assumption)|assumption)
          have hx12:=bt_at a0 x5_1
          replace p12:=eq_true p12
          replace q12:=eq_true q12
          have p13:0≤(x5_1:Int):=of_decide_eq_true (by first|(with_reducible assumption)|assumption)
          have q13:x5_1<(a1.size:Int):=of_decide_eq_true (by first|(with_reducible assumption)|assumption)
          have hx13:=bt_at a1 x5_1
          replace p13:=eq_true p13
          replace q13:=eq_true q13
          go_wp2
          repeat (go_quiet (fail);try go_wp2)
          go_ret
          exact⟨by first|rfl|(simp;done)|(simp[*];done),by repeat (first|exact Drawn0.refl _|apply Drawn0.step)⟩
        ·rw [if_neg c9] at H
         exact absurd H (by simp)
       ·rw [if_neg c7] at H
        exact absurd H (by simp)
      ·rw [if_neg c6] at H
       exact absurd H (by simp)
     ·replace c5:=Bool.eq_false_iff.mpr c5
      subst c5
      have H1:(some (decide ((a0.size:Int)<(a1.size:Int))))=some r:=by rw[if_neg (show¬(false=true)by decide)] at H;exact H
      clear H
      have H:=H1
      clear H1
      obtain rfl:=Option.some.inj H
      go_wp2
      repeat (go_quiet (fail);try go_wp2)
      go_ret
      exact⟨by first|rfl|(simp;done)|(simp[*];done),by repeat (first|exact Drawn0.refl _|apply Drawn0.step)⟩
def stanchionref05_Right.l0:Nat→List (S123)→Int→Option (Bool)
 |0,_,_=>none
 |k+1,x0,x3=>if x3<(x0.length:Int)then (if 0≤(wrap64 (x3 - 1))then (if(wrap64 (x3 - 1))<(x0.length:Int)then (if 0≤x3 then((stanchionref01_Less.f k ((rd_T123 x0 (wrap64 (x3 - 1))).f0) ((rd_T123 x0 x3).f0)).bind fun t157=>(if t157=true then(stanchionref05_Right.l0 k x0 (wrap64 (x3+1)))else (some false)))else (none))else (none))else (none))else (some true)
def stanchionref05_Right.f (k:Nat)(l0:List (S123)):Option (Bool):=stanchionref05_Right.l0 k l0 1
theorem stanchionref05_Right.calls (k:Nat)(A0:Option Addr)(c0:Nat)(l0:List (S123))(r:Bool)(w:World)(hr0:Kd.C k123 w A0 l0.length l0)(hc0:l0.length≤c0)(h:stanchionref05_Right.f k l0=some r):
  Calls Tryz.prog 86 #[.slice A0 l0.length c0] w fun e w'=>e= .returned (.bool r)∧Drawn0 w w':=by
 have HR0:=Aside0.mk hr0
 have HC0:=Aside0.mk hc0
 clear hr0 hc0
 have H:(stanchionref05_Right.l0 k l0 1)=some r:=h
 clear h
 have H':=Aside0.mk H
 clear H
 go_enter Tryz.func86,Tryz.ntmps86
 go_wp2
 repeat (go_quiet (fail);try go_wp2)
 go_loopg [3] k (fun kq v3 w'=>∃(x3_1:Int),v3= .int .i64 x3_1∧Aside0 (stanchionref05_Right.l0 kq l0 x3_1=some r)∧Aside0 (kq≤k)∧Drawn0 w w')
 case atStart=>exact⟨(1),(by first|rfl|(simp;done)|(simp[*];done)),H',⟨Nat.le_refl _⟩,by repeat (first|exact Drawn0.refl _|apply Drawn0.step)⟩
 case round=>
  clear H'
  obtain⟨x3_1,rfl,HA,HK1,⟨m1,rfl⟩⟩:=hrel
  cases gk with
  |zero=>exact absurd HA.out (by simp[stanchionref05_Right.l0])
  |succ k1=>
   have H:=HA.out
   clear HA
   simp only[stanchionref05_Right.l0] at H
   by_cases c2:x3_1<(l0.length:Int)
   ·rw [if_pos c2] at H
    have c2b0:decide (x3_1<(l0.length:Int))=true:=decide_eq_true c2
    clear c2
    obtain⟨ji3,hji3⟩:∃j_:Int,(wrap64 (x3_1 - 1))=j_:=⟨_,rfl⟩
    replace H:(if 0≤(ji3)then (if(ji3)<(l0.length:Int)then (if 0≤x3_1 then((stanchionref01_Less.f k1 ((rd_T123 l0 (ji3)).f0) ((rd_T123 l0 x3_1).f0)).bind fun t157=>(if t157=true then(stanchionref05_Right.l0 k1 l0 (wrap64 (x3_1+1)))else (some false)))else (none))else (none))else (none))=some r:=by first|(rw[hji3] at H;exact H)|(simp only[hji3] at H⊢;exact H)
    have hji3w:(IntKind.i64.wrap (x3_1 - 1))=ji3:=(i64_w _).trans hji3
    by_cases c4:0≤(ji3)
    ·rw [if_pos c4] at H
     have c4b0:decide (0≤(ji3))=true:=decide_eq_true c4
     clear c4
     by_cases c5:(ji3)<(l0.length:Int)
     ·rw [if_pos c5] at H
      have c5b0:decide ((ji3)<(l0.length:Int))=true:=decide_eq_true c5
      clear c5
      by_cases c6:0≤x3_1
      ·rw [if_pos c6] at H
       have c6b0:decide (0≤x3_1)=true:=decide_eq_true c6
       clear c6
       replace H:=Option.bind_eq_some_iff.mp H
       obtain⟨t157,A70,H⟩:=H
       replace H:(if t157=true then(stanchionref05_Right.l0 k1 l0 (wrap64 (x3_1+1)))else (some false))=some r:=H
       have A7:=Aside0.mk A70
       clear A70
       by_cases c8:t157=true
       ·subst c8
        have H1:(stanchionref05_Right.l0 k1 l0 (wrap64 (x3_1+1)))=some r:=by rw[if_pos rfl] at H;exact H
        clear H
        have H:=H1
        clear H1
        have H':=Aside0.mk H
        clear H
        have p155:0≤((ji3):Int):=of_decide_eq_true (by first|(with_reducible assumption)|assumption)
        have q155:(ji3)<(l0.length:Int):=of_decide_eq_true (by first|(with_reducible assumption)|assumption)
        obtain⟨ad155,e155,hx155_0,hx155_1⟩:=at_T123 HR0.out (ji3) p155 q155
        cases e155
        replace p155:=eq_true p155
        replace q155:=eq_true q155
        have p156:0≤(x3_1:Int):=of_decide_eq_true (by first|(with_reducible assumption)|assumption)
        have q156:x3_1<(l0.length:Int):=of_decide_eq_true (by first|(with_reducible assumption)|assumption)
        obtain⟨ad156,e156,hx156_0,hx156_1⟩:=at_T123 HR0.out x3_1 p156 q156
        obtain rfl:ad155=ad156:=(by injection e156)
        replace p156:=eq_true p156
        replace q156:=eq_true q156
        go_wp2_with (first|(go_at_call 142;(with_reducible refine(stanchionref01_Less.calls k1 ((rd_T123 l0 (ji3)).f0) ((rd_T123 l0 x3_1).f0) true _ A7.out).mono ?_);rintro e w' ⟨rfl,⟨nd,rfl⟩⟩;(try first|exact⟨rfl,_,World.drewN_drewN _ _ _⟩|exact⟨rfl,_,Eq.trans (World.drewN_drewN _ _ _) (congrArg (World.drewN _) (Nat.add_assoc _ _ _))⟩)))
        repeat (go_quiet (first|(go_at_call 142;(with_reducible refine(stanchionref01_Less.calls k1 ((rd_T123 l0 (ji3)).f0) ((rd_T123 l0 x3_1).f0) true _ A7.out).mono ?_);rintro e w' ⟨rfl,⟨nd,rfl⟩⟩;(try first|exact⟨rfl,_,World.drewN_drewN _ _ _⟩|exact⟨rfl,_,Eq.trans (World.drewN_drewN _ _ _) (congrArg (World.drewN _) (Nat.add_assoc _ _ _))⟩)));try go_wp2_with (first|(go_at_call 142;(with_reducible refine(stanchionref01_Less.calls k1 ((rd_T123 l0 (ji3)).f0) ((rd_T123 l0 x3_1).f0) true _ A7.out).mono ?_);rintro e w' ⟨rfl,⟨nd,rfl⟩⟩;(try first|exact⟨rfl,_,World.drewN_drewN _ _ _⟩|exact⟨rfl,_,Eq.trans (World.drewN_drewN _ _ _) (congrArg (World.drewN _) (Nat.add_assoc _ _ _))⟩))))
        go_roundg k1
        case measure=>have:=HK1.out;omega
        case rel=>exact⟨(wrap64 (x3_1+1)),(by first|rfl|(simp;done)|(simp[*];done)),H',⟨by have:=HK1.out;omega⟩,by repeat (first|exact Drawn0.refl _|apply Drawn0.step)⟩
       ·replace c8:=Bool.eq_false_iff.mpr c8
        subst c8
        have H1:(some false)=some r:=by rw[if_neg (show¬(false=true)by decide)] at H;exact H
        clear H
        have H:=H1
        clear H1
        obtain rfl:=Option.some.inj H
        have p155:0≤((ji3):Int):=of_decide_eq_true (by first|(with_reducible assumption)|assumption)
        have q155:(ji3)<(l0.length:Int):=of_decide_eq_true (by first|(with_reducible assumption)|assumption)
        obtain⟨ad155,e155,hx155_0,hx155_1⟩:=at_T123 HR0.out (ji3) p155 q155
        cases e155
        replace p155:=eq_true p155
        replace q155:=eq_true q155
        have p156:0≤(x3_1:Int):=of_decide_eq_true (by first|(with_reducible assumption)|assumption)
        have q156:x3_1<(l0.length:Int):=of_decide_eq_true (by first|(with_reducible assumption)|assumption)
        obtain⟨ad156,e156,hx156_0,hx156_1⟩:=at_T123 HR0.out x3_1 p156 q156
        obtain rfl:ad155=ad156:=(by injection e156)
        replace p156:=eq_true p156
        replace q156:=eq_true q156
        go_wp2_with (first|(go_at_call 142;(with_reducible refine(stanchionref01_Less.calls k1 ((rd_T123 l0 (ji3)).f0) ((rd_T123 l0 x3_1).f0) false _ A7.out).mono ?_);rintro e w' ⟨rfl,⟨nd,rfl⟩⟩;(try first|exact⟨rfl,_,World.drewN_drewN _ _ _⟩|exact⟨rfl,_,Eq.trans (World.drewN_drewN _ _ _) (congrArg (World.drewN _) (Nat.add_assoc _ _ _))⟩)))
        repeat (go_quiet (first|(go_at_call 142;(with_reducible refine(stanchionref01_Less.calls k1 ((rd_T123 l0 (ji3)).f0) ((rd_T123 l0 x3_1).f0) false _ A7.out).mono ?_);rintro e w' ⟨rfl,⟨nd,rfl⟩⟩;(try first|exact⟨rfl,_,World.drewN_drewN _ _ _⟩|exact⟨rfl,_,Eq.trans (World.drewN_drewN _ _ _) (congrArg (World.drewN _) (Nat.add_assoc _ _ _))⟩)));try go_wp2_with (first|(go_at_call 142;(with_reducible refine(stanchionref01_Less.calls k1 ((rd_T123 l0 (ji3)).f0) ((rd_T123 l0 x3_1).f0) false _ A7.out).mono ?_);rintro e w' ⟨rfl,⟨nd,rfl⟩⟩;(try first|exact⟨rfl,_,World.drewN_drewN _ _ _⟩|exact⟨rfl,_,Eq.trans (World.drewN_drewN _ _ _) (congrArg (World.drewN _) (Nat.add_assoc _ _ _))⟩))))
        go_ret
        exact⟨by first|rfl|(simp;done)|(simp only[←hji3] <;> (first|rfl|simp))|(simp[*];done),by repeat (first|exact Drawn0.refl _|apply Drawn0.step)⟩
      ·rw [if_neg c6] at H
       exact absurd H (by simp)
     ·rw [if_neg c5] at H
      exact absurd H (by simp)
    ·rw [if_neg c4] at H
     exact absurd H (by simp)
   ·rw [if_neg c2] at H
    have c2b0:decide (x3_1<(l0.length:Int))=false:=decide_eq_false c2
    clear c2
    obtain rfl:=Option.some.inj H
    go_wp2
    repeat (go_quiet (fail);try go_wp2)
    go_ret
    exact⟨by first|rfl|(simp;done)|(simp[*];done),by repeat (first|exact Drawn0.refl _|apply Drawn0.step)⟩
end Go.Proofs.YtmgmdiekpmffbaaGreatDoor.QWi
namespace Go.Proofs.YtmgmdiekpmffbaaGreatDoor.Reader
open Go Go.RowKit Go.Proofs.YtmgmdiekpmffbaaGreatDoor.DecM Go.Proofs.YtmgmdiekpmffbaaGreatDoor.Giv Go.Proofs.YtmgmdiekpmffbaaGreatDoor.Err Go.Proofs.YtmgmdiekpmffbaaGreatDoorW.PrintWords Go.Proofs.YtmgmdiekpmffbaaGreatDoorW.PrintLast Go.Proofs.YtmgmdiekpmffbaaGreatDoor.QWi
structure Lp (w0:World)(r q z:Nat)(av fb:List Nat)(w:World)(s:ByteArray)(n:Int)(bad:Bool)(cq cz:List Value)(v:Value)(l:List S123):Prop where
 rd:Rd w r av s n bad
 qm:q∈av
 own:∀k,v.ownBlock=some k→k∈av
 row:Kd.R k123 123 w w0.heap.size (fun k=>k∉fb) v l
 rf:r∈fb
 qf:q∈fb
 zf:z∈fb
 bel:Below w0.heap.size w0 w
 hg:Handle w
 qc:CellsAt w q cq
 zc:CellsAt w z cz
 hq:0<cq.length
 hz:0<cz.length
 r0:w0.heap.size≤r
 q0:w0.heap.size≤q
 z0:w0.heap.size≤z
 qr:q≠r
 zr:z≠r
 zq:z≠q
 w00:0<w0.heap.size
section
variable {w0 w w':World} {r q z:Nat} {av fb:List Nat} {s s':ByteArray} {n n':Int} {bad bad':Bool} {cq cz:List Value} {v:Value} {l:List S123}
end
end Go.Proofs.YtmgmdiekpmffbaaGreatDoor.Reader
namespace Go.Proofs.YtmgmdiekpmffbaaGreatDoor.Reader
open Go Go.RowKit Go.Proofs.YtmgmdiekpmffbaaGreatDoor.DecM Go.Proofs.YtmgmdiekpmffbaaGreatDoor.Giv Go.Proofs.YtmgmdiekpmffbaaGreatDoor.Err Go.Proofs.YtmgmdiekpmffbaaGreatDoorW.PrintWords Go.Proofs.YtmgmdiekpmffbaaGreatDoorW.PrintLast Go.Proofs.YtmgmdiekpmffbaaGreatDoor.QWi
set_option linter.unusedSimpArgs false
theorem load_rep (W:World)(b:Nat)(l:List Value)(h:CellsAt W b l)(v0 v1 v2 v3 v4 v5 v6 v7:Value)(hl:l= [v0,v1,v2,v3,v4,v5,v6,v7]):
  (loadVar 65 ⟨b,0,none⟩).run Tryz.prog W= .ok (.agg #[v0,v1,v2,v3,v4,v5,v6,v7]) W:=by
 subst hl
 have x0:W.cell? ⟨b,0,none⟩=some v0:=h.c 0 (by simp)
 have x1:W.cell? ⟨b,1,none⟩=some v1:=h.c 1 (by simp)
 have x2:W.cell? ⟨b,2,none⟩=some v2:=h.c 2 (by simp)
 have x3:W.cell? ⟨b,3,none⟩=some v3:=h.c 3 (by simp)
 have x4:W.cell? ⟨b,4,none⟩=some v4:=h.c 4 (by simp)
 have x5:W.cell? ⟨b,5,none⟩=some v5:=h.c 5 (by simp)
 have x6:W.cell? ⟨b,6,none⟩=some v6:=h.c 6 (by simp)
 have x7:W.cell? ⟨b,7,none⟩=some v7:=h.c 7 (by simp)
 clear h
 go_simp
theorem w_nat (i:Nat)(h:i<9223372036854775807):wrap64 ((i:Int)+1)=((i+1:Nat):Int):=by
 unfold wrap64
 omega
def repOut (P:S65×Int)(vr:Value):Value:= .tuple #[.agg #[.int .i64 P.1.f0,.int .i64 P.1.f1,.int .i64 P.1.f2,.int .i64 P.1.f3,.string P.1.f4,.bool P.1.f5,vr,.bool P.1.f7],.int .i64 P.2]
end Go.Proofs.YtmgmdiekpmffbaaGreatDoor.Reader
