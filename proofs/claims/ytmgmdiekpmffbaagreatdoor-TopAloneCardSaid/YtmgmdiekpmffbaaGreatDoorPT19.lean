/- Part of the proof of the statement TopAlone, as a card; what is proved, and on which condition, stands at the head of YtmgmdiekpmffbaaGreatDoorPT20 (texts TopCom2, TopCom3, TopSrv6, TopSrv5, TopSrv7, TopPl, TopPl2) -/
import Derived.Test.YtmgmdiekpmffbaaGreatDoorPT7
import Derived.Test.YtmgmdiekpmffbaaGreatDoorPT9
import Derived.Test.YtmgmdiekpmffbaaGreatDoorPT13
import Derived.Test.YtmgmdiekpmffbaaGreatDoorPT16
import Derived.Test.YtmgmdiekpmffbaaGreatDoorPT17
import Derived.Test.YtmgmdiekpmffbaaGreatDoorPT18
set_option maxHeartbeats 64000000
set_option maxRecDepth 100000
set_option linter.unusedVariables false
set_option linter.unusedSimpArgs false
namespace Go.Proofs.YtmgmdiekpmffbaaGreatDoor.Top
open Go Go.RowKit Go.Proofs.YtmgmdiekpmffbaaGreatDoorW.PrintWords
def ECommitV (g:Nat)(h0 h1 h2 h3 h4 h5:Value)(tok:ByteArray)(w:World)(en:Ending)(w':World):Prop:=∃V9 vn9 vc9 r9 D9 dn9 dc9 K9 kc9,en= .returned (.int .i64 0)∧Only g w w'∧w'.heap[g]? =some (.cells #[.slice V9 vn9 vc9,.int .i64 (r9),.int .i64 (-1),.bool false,.int .i64 1,.int .i64 1,.int .i64 0,.slice D9 dn9 dc9,.slice K9 1 kc9,.bool false,h0,h1,h2,h3,h4,h5] 248 (0,0))∧Rs tyPr 123 w' (.slice K9 1 kc9) [⟨tok,⟨#[99]⟩⟩]
theorem eng_commit (g:Nat)(V:Option Addr)(vn vc:Nat)(room:Int)(h0 h1 h2 h3 h4 h5:Value)(t:Tx)(l:List Wr)(w:World)(hg:w.heap[g]? =some (.cells #[.slice V vn vc,.int .i64 (room),.int .i64 (-1),.bool false,.int .i64 1,.int .i64 1,.int .i64 0,.slice none 0 0,.slice none 0 0,.bool false,h0,h1,h2,h3,h4,h5] 248 (0,0)))(hV:Rs tyFl 129 w (.slice V vn vc) [eFile])(hW:Rs tyWr 212 w (.slice t.A t.n t.c) l)(hl:l.length≤24)(hz:sizeW l≤512)(ht1:1≤t.token.size)(ht2:t.token.size≤16)(hr:Rises l)(hk:∀x∈l,okW x)(hm0:2200≤room)(hm1:room≤1000000):
  Calls Tryz.prog 134 #[.pointer (some ⟨g,0,none⟩),.agg #[.int .i64 1,.string t.token,.slice t.A t.n t.c,.bool false,.int .i64 0,.string ⟨#[]⟩,.string ⟨#[]⟩,.string ⟨#[]⟩,.string ⟨#[]⟩,.int .i64 0],.agg #[.int .i64 1,.string ⟨#[]⟩,.slice t.A t.n t.c]] w (ECommitV g h0 h1 h2 h3 h4 h5 t.token w):=by
 have hlt:=blk_lt hg
 have HH:Hid (l.length≤24∧sizeW l≤512∧1≤t.token.size∧t.token.size≤16∧Rises l∧∀x∈l,okW x):=h_ ⟨hl,hz,ht1,ht2,hr,hk⟩
 clear hl hz ht1 ht2 hr hk
 have HB:Hid (Only g w w):=h_ (Only.refl _ _)
 have HG0:=h_ hg
 have KG:=h_ hg
 clear hg
 have HF:=h_ hV
 clear hV
 have HR:=h_ hW
 clear hW
 go_enter Tryz.func134,Tryz.ntmps134
 have nG:g≠w.heap.size:=Nat.ne_of_lt hlt
 go_upto_region 2 with(fail)
 refine nm fun w1 hb=>?_
 obtain⟨hz,_,hb,KTB,KB⟩:=na2 hb
 obtain⟨hz,KG,HB⟩:=m2 hb KG HB
 go_cut [7,8] from 9 (fun s7 s8 wx=>∃n_X V9 vn9 vc9 r9 D9 dn9 dc9 K9 kc9,s7= .pointer (some ⟨n_X,0,none⟩)∧s8= .int .i64 0∧wx.heap[g]? =some (.cells #[.slice V vn vc,.int .i64 (room),.int .i64 (-1),.bool false,.int .i64 1,.int .i64 1,.int .i64 0,.slice none 0 0,.slice none 0 0,.bool false,h0,h1,h2,h3,h4,h5] 248 (0,0))∧wx.heap[w.heap.size]? =some (.cells #[.int .i64 1,.string t.token,.slice t.A t.n t.c,.bool false,.int .i64 0,.string ⟨#[]⟩,.string ⟨#[]⟩,.string ⟨#[]⟩,.string ⟨#[]⟩,.int .i64 0] 237 (0,0))∧wx.heap[w.heap.size+1]? =some (.cells #[.int .i64 1,.string t.token,.slice t.A t.n t.c] 141 (0,0))∧wx.heap[n_X]? =some (.cells #[.slice V9 vn9 vc9,.int .i64 (r9),.int .i64 (-1),.bool false,.int .i64 1,.int .i64 1,.int .i64 0,.slice D9 dn9 dc9,.slice K9 1 kc9,.bool false] 35 (0,0))∧Rs tyPr 123 wx (.slice K9 1 kc9) ([⟨t.token,⟨#[99]⟩⟩])∧w1.heap.size≤n_X∧Only g w wx)
 case first=>
  refine rg2 KG KB fun u1 hb hHeld=>?_
  obtain⟨hz,KG,KTB,KB,HB⟩:=m4 hb KG KTB KB HB
  refine t_ 0 ?_
  refine t_ 1 ?_
  refine t_ 2 ?_
  refine t_ 3 ?_
  refine tl 4 0 10 (fun _ k=>k.1) Tryz.underlying35 ?_
  refine tl 5 0 3 (fun _ k=>k.2) Tryz.underlying141 ?_
  refine wpAnyH_ready (rs:= [6,10]) (by kernel_rfl) (by simp) ?_
  refine AllReadyH.cons rfl (fun K hK=>?_) ?_
  ·go_simp
   go_at_call 181
   refine(kv_commit V vn vc room t.A t.n t.c l t.token _ (Rs.only HF.out HB.out HG0.out (by decide)) (Rs.only HR.out HB.out HG0.out (by decide)) HH.out.1 HH.out.2.1 HH.out.2.2.1 HH.out.2.2.2.1 HH.out.2.2.2.2.1 HH.out.2.2.2.2.2 hm0 hm1).mono ?_
   rintro e w2 ⟨V9,vn9,vc9,r9,D9,dn9,dc9,K9,kc9,rfl,hR,hb⟩
   have HK_:=h_ hR
   clear hR
   obtain⟨hz,KG,KTB,KB,HB⟩:=m4 hb KG KTB KB HB
   have HK:=HK_
   clear HK_
   refine bk hK ⟨KG.out,KB.out⟩ fun hHeld=>?_
   refine t_ 7 ?_
   refine t_ 8 ?_
   refine t_ 9 ?_
   refine rd 10 fun K hK=>?_
   go_simp
   refine na fun u2 hb KX=>?_
   obtain⟨hz,KG,KTB,KB,HK,HB⟩:=m5 hb KG KTB KB HK HB
   have Xlt:=blk_lt KX.out
   refine bk hK ⟨KG.out,KB.out⟩ fun hHeld=>?_
   refine rd 11 fun K hK=>?_
   refine sm 0 [.slice V9 vn9 vc9,.int .i64 (r9),.int .i64 (-1),.bool false,.int .i64 1,.int .i64 1,.int .i64 0,.slice D9 dn9 dc9,.slice K9 1 kc9,.bool false] KX fun u3 ho kX=>?_
   obtain⟨hz,KG,KTB,KB,HK,HB⟩:=o5 ho KG KTB KB HK HB
   replace KX:=kX
   clear kX
   refine bk hK ⟨KG.out,KB.out⟩ fun hHeld=>?_
   refine t_ 12 ?_
   refine d_ ?_
   go_wp2_with fail
   go_meet
   exact⟨w2.heap.size,V9,vn9,vc9,r9,D9,dn9,dc9,K9,kc9,rfl,rfl,KG.out,KTB.out,KB.out,KX.out,HK.out,by omega,HB.out⟩
  refine AllReadyH.cons rfl (fun K hK=>?_) AllReadyH.nil
  go_simp
  refine na fun u4 hb KX=>?_
  obtain⟨hz,KG,KTB,KB,HB⟩:=m4 hb KG KTB KB HB
  have Xlt:=blk_lt KX.out
  refine bk hK ⟨KG.out,KB.out⟩ fun hHeld=>?_
  refine rd 6 fun K hK=>?_
  go_simp
  go_at_call 181
  refine(kv_commit V vn vc room t.A t.n t.c l t.token _ (Rs.only HF.out HB.out HG0.out (by decide)) (Rs.only HR.out HB.out HG0.out (by decide)) HH.out.1 HH.out.2.1 HH.out.2.2.1 HH.out.2.2.2.1 HH.out.2.2.2.2.1 HH.out.2.2.2.2.2 hm0 hm1).mono ?_
  rintro e w2 ⟨V9,vn9,vc9,r9,D9,dn9,dc9,K9,kc9,rfl,hR,hb⟩
  have HK_:=h_ hR
  clear hR
  obtain⟨hz,KG,KTB,KB,KX,HB⟩:=m5 hb KG KTB KB KX HB
  have HK:=HK_
  clear HK_
  refine bk hK ⟨KG.out,KB.out⟩ fun hHeld=>?_
  refine t_ 7 ?_
  refine t_ 8 ?_
  refine t_ 9 ?_
  refine rd 11 fun K hK=>?_
  refine sm 0 [.slice V9 vn9 vc9,.int .i64 (r9),.int .i64 (-1),.bool false,.int .i64 1,.int .i64 1,.int .i64 0,.slice D9 dn9 dc9,.slice K9 1 kc9,.bool false] KX fun u5 ho kX=>?_
  obtain⟨hz,KG,KTB,KB,HK,HB⟩:=o5 ho KG KTB KB HK HB
  replace KX:=kX
  clear kX
  refine bk hK ⟨KG.out,KB.out⟩ fun hHeld=>?_
  refine t_ 12 ?_
  refine d_ ?_
  go_wp2_with fail
  go_meet
  exact⟨u1.heap.size,V9,vn9,vc9,r9,D9,dn9,dc9,K9,kc9,rfl,rfl,KG.out,KTB.out,KB.out,KX.out,HK.out,by omega,HB.out⟩
 case rest=>
  rename World=>wc1
  clear KG KTB KB HB
  obtain⟨n_X,V9,vn9,vc9,r9,D9,dn9,dc9,K9,kc9,rfl,rfl,kG,kTB,kB,kX,hK,Xge,hB⟩:=hcut
  obtain⟨KG,G1lt,G1ne,G1en⟩:=hid_mv kG
  clear kG
  obtain⟨KTB,TB1lt,TB1ne,TB1en⟩:=hid_mv kTB
  clear kTB
  obtain⟨KB,B1lt,B1ne,B1en⟩:=hid_mv kB
  clear kB
  obtain⟨KX,X1lt,X1ne,X1en⟩:=hid_mv kX
  clear kX
  have HK:=h_ hK
  clear hK
  have HB:=h_ hB
  have hs1_:=HB.out.size
  clear hB
  go_upto_region 3 with(fail)
  refine nm fun w3 hb=>?_
  obtain⟨hz,KG,KTB,KB,KX,HK,HB⟩:=m6 hb KG KTB KB KX HK HB
  have CG:=cells16 KG.out
  have CX:=cells10 KX.out
  go_wp2
  go_ret
  exact⟨_,_,_,_,_,_,_,_,_,rfl,(only_puts HB.out 0 [.slice V9 vn9 vc9,.int .i64 (r9),.int .i64 (-1),.bool false,.int .i64 1,.int .i64 1,.int .i64 0,.slice D9 dn9 dc9,.slice K9 1 kc9,.bool false]),(blk_put KG.out 0 [.slice V9 vn9 vc9,.int .i64 (r9),.int .i64 (-1),.bool false,.int .i64 1,.int .i64 1,.int .i64 0,.slice D9 dn9 dc9,.slice K9 1 kc9,.bool false] (Nat.le_of_ble_eq_true rfl)),(Rs.puts HK.out KG.out (by decide) 0 [.slice V9 vn9 vc9,.int .i64 (r9),.int .i64 (-1),.bool false,.int .i64 1,.int .i64 1,.int .i64 0,.slice D9 dn9 dc9,.slice K9 1 kc9,.bool false])⟩
def GoesV (g:Nat)(a0 a1 a2 a3 a4 a5 a6 a7 a8 a9 out:Value)(nx:Int)(w:World)(en:Ending)(w':World):Prop:=∃H9 hc9 T9 tc9,en= .returned (.tuple #[])∧Only g w w'∧w'.heap[g]? =some (.cells #[a0,a1,a2,a3,a4,a5,a6,a7,a8,a9,.slice H9 0 hc9,.slice none 0 0,.slice T9 0 tc9,.int .i64 nx,.int .u64 0,out] 248 (0,0))
theorem eng_goes (g:Nat)(a0 a1 a2 a3 a4 a5 a6 a7 a8 a9 out:Value)(HA TA:Option Addr)(hn hc tn tc:Nat)(nx:Int)(t:Tx)(hl0:List Hd)(w:World)(hg:w.heap[g]? =some (.cells #[a0,a1,a2,a3,a4,a5,a6,a7,a8,a9,.slice HA hn hc,.slice none 0 0,.slice TA tn tc,.int .i64 nx,.int .u64 0,out] 248 (0,0)))(hT:Rs tyTx 237 w (.slice TA tn tc) [t])(hH:Rs tyHd 351 w (.slice HA hn hc) hl0)(hhl:hl0.length≤1000):
  Calls Tryz.prog 174 #[.pointer (some ⟨g,0,none⟩),.int .i64 1] w (GoesV g a0 a1 a2 a3 a4 a5 a6 a7 a8 a9 out nx w):=by
 have hlt:=blk_lt hg
 have HHL:=h_ hhl
 clear hhl
 have HB:Hid (Only g w w):=h_ (Only.refl _ _)
 have HG0:=h_ hg
 have KG:=h_ hg
 clear hg
 have HT:=h_ hT
 clear hT
 have HH:=h_ hH
 clear hH
 go_enter Tryz.func174,Tryz.ntmps174
 have nG:g≠w.heap.size:=Nat.ne_of_lt hlt
 go_upto_region 1 with(fail)
 refine nm fun w1 hb=>?_
 obtain⟨hz,_,hb,KI⟩:=na1 hb
 obtain⟨hz,KG,HB⟩:=m2 hb KG HB
 have CG:=cells16 KG.out
 go_wp2_with fail
 refine(clone_Tx _ [t] _ (Rs.only HT.out HB.out HG0.out (by decide)) (by simp)).mono ?_
 rintro e w2 ⟨v2,rfl,hown,hb1⟩
 have HI:Hid (w2.cell? ⟨w.heap.size,0,none⟩=some (.int .i64 1)):=h_ (bq (bb KI.out hb1) 0)
 have HOWN:=h_ hown
 have HB1:=h_ hb1
 clear hown hb1
 go_wp2_with fail
 refine(del_all_Tx v2 [t] _ _ _ HOWN.out HB1.out.size (by simp) (fun x W hb=>clo_goes1 x _ W (pw_cell_below hb HI.out))).mono ?_
 rintro e w3 ⟨T9,tc9,rfl,hb2⟩
 have hb:=HB1.out.trans hb2
 clear HB1 HOWN HI hb2
 clear CG
 obtain⟨hz,KG,KI,HB⟩:=m3 hb KG KI HB
 have CG:=cells16 KG.out
 go_upto_region 2 with(fail)
 refine nm fun w4 hb=>?_
 clear CG
 obtain⟨ho,kG⟩:=ps KG hb
 obtain⟨hz,KI,HB⟩:=o2 ho KI HB
 replace KG:=kG
 clear kG
 go_cut [4,5] from 11 (fun s4 s5 wx=>∃n_L H9 hc9,s4= .pointer (some ⟨n_L,0,none⟩)∧s5= .slice none 0 0∧wx.heap[g]? =some (.cells #[a0,a1,a2,a3,a4,a5,a6,a7,a8,a9,.slice HA hn hc,.slice none 0 0,.slice T9 0 tc9,.int .i64 nx,.int .u64 0,out] 248 (0,0))∧wx.heap[w.heap.size]? =some (.cells #[.int .i64 1] 3 (0,0))∧wx.heap[n_L]? =some (.cells #[.slice H9 0 hc9,.slice none 0 0] 39 (0,0))∧w4.heap.size≤n_L∧Only g w wx)
 case first=>
  refine rg2 KG KI fun u1 hb hHeld=>?_
  obtain⟨hz,KG,KI,HB⟩:=m3 hb KG KI HB
  refine t_ 0 ?_
  refine t_ 1 ?_
  refine t_ 2 ?_
  refine t_ 3 ?_
  refine tl 4 10 2 (fun _ k=>k.1) Tryz.underlying39 ?_
  refine tq 5 (fun _ k=>bq k.2 0) ?_
  refine wpAnyH_ready (rs:= [6,10]) (by kernel_rfl) (by simp) ?_
  refine AllReadyH.cons rfl (fun K hK=>?_) ?_
  ·go_simp
   go_at_call 205
   refine(lock_free HA hn hc hl0 _ (Rs.only HH.out HB.out HG0.out (by decide)) HHL.out).mono ?_
   rintro e w5 ⟨H9,hc9,rfl,hb⟩
   obtain⟨hz,KG,KI,HB⟩:=m3 hb KG KI HB
   refine bk hK ⟨KG.out,KI.out⟩ fun hHeld=>?_
   refine t_ 7 ?_
   refine t_ 8 ?_
   refine t_ 9 ?_
   refine rd 10 fun K hK=>?_
   go_simp
   refine na fun u2 hb KL=>?_
   obtain⟨hz,KG,KI,HB⟩:=m3 hb KG KI HB
   have Llt:=blk_lt KL.out
   refine bk hK ⟨KG.out,KI.out⟩ fun hHeld=>?_
   refine rd 11 fun K hK=>?_
   refine sm 0 [.slice H9 0 hc9,.slice none 0 0] KL fun u3 ho kL=>?_
   obtain⟨hz,KG,KI,HB⟩:=o3 ho KG KI HB
   replace KL:=kL
   clear kL
   refine bk hK ⟨KG.out,KI.out⟩ fun hHeld=>?_
   refine t_ 12 ?_
   refine d_ ?_
   go_wp2_with fail
   go_meet
   exact⟨w5.heap.size,H9,hc9,rfl,rfl,KG.out,KI.out,KL.out,by omega,HB.out⟩
  refine AllReadyH.cons rfl (fun K hK=>?_) AllReadyH.nil
  go_simp
  refine na fun u4 hb KL=>?_
  obtain⟨hz,KG,KI,HB⟩:=m3 hb KG KI HB
  have Llt:=blk_lt KL.out
  refine bk hK ⟨KG.out,KI.out⟩ fun hHeld=>?_
  refine rd 6 fun K hK=>?_
  go_simp
  go_at_call 205
  refine(lock_free HA hn hc hl0 _ (Rs.only HH.out HB.out HG0.out (by decide)) HHL.out).mono ?_
  rintro e w5 ⟨H9,hc9,rfl,hb⟩
  obtain⟨hz,KG,KI,KL,HB⟩:=m4 hb KG KI KL HB
  refine bk hK ⟨KG.out,KI.out⟩ fun hHeld=>?_
  refine t_ 7 ?_
  refine t_ 8 ?_
  refine t_ 9 ?_
  refine rd 11 fun K hK=>?_
  refine sm 0 [.slice H9 0 hc9,.slice none 0 0] KL fun u5 ho kL=>?_
  obtain⟨hz,KG,KI,HB⟩:=o3 ho KG KI HB
  replace KL:=kL
  clear kL
  refine bk hK ⟨KG.out,KI.out⟩ fun hHeld=>?_
  refine t_ 12 ?_
  refine d_ ?_
  go_wp2_with fail
  go_meet
  exact⟨u1.heap.size,H9,hc9,rfl,rfl,KG.out,KI.out,KL.out,by omega,HB.out⟩
 case rest=>
  rename World=>wc1
  clear KG KI HB
  obtain⟨n_L,H9,hc9,rfl,rfl,kG,kI,kL,Lge,hB⟩:=hcut
  obtain⟨KG,G3lt,G3ne,G3en⟩:=hid_mv kG
  clear kG
  obtain⟨KI,I3lt,I3ne,I3en⟩:=hid_mv kI
  clear kI
  obtain⟨KL,L3lt,L3ne,L3en⟩:=hid_mv kL
  clear kL
  have HB:=h_ hB
  have hs3_:=HB.out.size
  clear hB
  go_upto_region 3 with(fail)
  refine nm fun w6 hb=>?_
  obtain⟨hz,KG,KI,KL,HB⟩:=m4 hb KG KI KL HB
  have CG:=cells16 KG.out
  have CL:=cells2 KL.out
  go_upto_region 4 with(fail)
  refine nm fun w7 hb=>?_
  clear CG CL
  obtain⟨ho,kG⟩:=pw 10 [.slice H9 0 hc9,.slice none 0 0] KG hb
  obtain⟨hz,KI,KL,HB⟩:=o3 ho KI KL HB
  replace KG:=kG
  clear kG
  go_wp2_with fail
  refine wp_loop_rounds 1 ?_
  rw[rounds_succ]
  go_wp2
  go_end0
  exact⟨_,_,_,_,rfl,HB.out,KG.out⟩
def EndsV (g:Nat)(a0 a1 a2 a3 a4 a5 a6 a7 a8 a9:Value)(nx:Int)(w:World)(en:Ending)(w':World):Prop:=∃H9 hc9 T9 tc9 E ec,en= .returned (.tuple #[])∧Only g w w'∧w'.heap[g]? =some (.cells #[a0,a1,a2,a3,a4,a5,a6,a7,a8,a9,.slice H9 0 hc9,.slice none 0 0,.slice T9 0 tc9,.int .i64 nx,.int .u64 0,.slice (some ⟨E,0,none⟩) 1 ec] 248 (0,0))∧Rs tyDn 243 w' (.slice (some ⟨E,0,none⟩) 1 ec) [⟨0,⟨#[]⟩,false,none,0,0,true⟩]
theorem eng_ends (g:Nat)(a0 a1 a2 a3 a4 a5 a6 a7 a8 a9:Value)(HA TA:Option Addr)(hn hc tn tc:Nat)(nx:Int)(t:Tx)(hl0:List Hd)(w:World)(hg:w.heap[g]? =some (.cells #[a0,a1,a2,a3,a4,a5,a6,a7,a8,a9,.slice HA hn hc,.slice none 0 0,.slice TA tn tc,.int .i64 nx,.int .u64 0,.slice none 0 0] 248 (0,0)))(hT:Rs tyTx 237 w (.slice TA tn tc) [t])(hH:Rs tyHd 351 w (.slice HA hn hc) hl0)(hhl:hl0.length≤1000):
  Calls Tryz.prog 133 #[.pointer (some ⟨g,0,none⟩),.int .i64 1,.int .i64 0] w (EndsV g a0 a1 a2 a3 a4 a5 a6 a7 a8 a9 nx w):=by
 have hlt:=blk_lt hg
 have HHL:=h_ hhl
 clear hhl
 have HB:Hid (Only g w w):=h_ (Only.refl _ _)
 have HG0:=h_ hg
 have KG:=h_ hg
 clear hg
 have HT:=h_ hT
 clear hT
 have HH:=h_ hH
 clear hH
 have CG:=cells16 KG.out
 go_enter Tryz.func133,Tryz.ntmps133
 go_wp2_with (at_builtin;refine print_append_cells (w0:=_) _ rfl _ _ 172 243 _ 6 72 rfl Tryz.underlying172 infoDn rfl (by decide) (by decide) (.slice none 0 0) 0 [] (tyDn.enc ⟨0,⟨#[]⟩,false,none,0,0,true⟩) rfl rfl rfl (tyDn.one _) (World.ownsRow_nil _ _ _ _) (Below.refl _ _) (Nat.le_refl _) ?_ ?_)
 ·decide
 intro v_ w1 hown hb _ _
 obtain⟨q,ec,cur,rfl,_,_,_,_,_⟩:=own_form hown (Nat.succ_pos 0)
 have HD:=h_ (Rs.of_own (T:=tyDn) (l:= [⟨0,⟨#[]⟩,false,none,0,0,true⟩]) hown)
 clear hown
 clear CG
 obtain⟨hz,KG,HB⟩:=m2 hb KG HB
 have CG:=cells16 KG.out
 clear CG
 have CG:=cells16 KG.out
 go_upto_region 1 with(fail)
 refine nm fun w2 hb=>?_
 clear CG
 obtain⟨ho,kG⟩:=ps KG hb
 obtain⟨hz,HD,HB⟩:=o2 ho HD HB
 replace KG:=kG
 clear kG
 go_wp2_with fail
 refine(eng_goes g a0 a1 a2 a3 a4 a5 a6 a7 a8 a9 _ HA TA hn hc tn tc nx t hl0 _ KG.out (Rs.only HT.out HB.out HG0.out (by decide)) (Rs.only HH.out HB.out HG0.out (by decide)) HHL.out).mono ?_
 rintro e w3 ⟨H9,hc9,T9,tc9,rfl,hb,hk⟩
 have HD3:=h_ (Rs.only HD.out hb KG.out (by decide))
 have HK3:=h_ hk
 have HB3:=h_ (Only.trans HB.out hb)
 clear hk hb
 go_wp2
 go_end0
 exact⟨_,_,_,_,_,_,rfl,HB3.out,HK3.out,HD3.out⟩
def EAskCV (nx:Int)(tok:ByteArray)(w:World)(en:Ending)(w':World):Prop:=∃V9 vn9 vc9 r9 D9 dn9 dc9 K9 kc9 H9 hc9 T9 tc9 E9 ec9,en= .returned (.tuple #[.agg #[.slice V9 vn9 vc9,.int .i64 (r9),.int .i64 (-1),.bool false,.int .i64 1,.int .i64 1,.int .i64 0,.slice D9 dn9 dc9,.slice K9 1 kc9,.bool false,.slice H9 0 hc9,.slice none 0 0,.slice T9 0 tc9,.int .i64 nx,.int .u64 0],.slice (some ⟨E9,0,none⟩) 1 ec9])∧Below w.heap.size w w'∧Rs tyPr 123 w' (.slice K9 1 kc9) [⟨tok,⟨#[99]⟩⟩]∧Rs tyDn 243 w' (.slice (some ⟨E9,0,none⟩) 1 ec9) [⟨0,⟨#[]⟩,false,none,0,0,true⟩]
theorem eng_ask_commit (V HA TA:Option Addr)(vn vc hn hc tn tc:Nat)(room nx:Int)(t:Tx)(l:List Wr)(hl0:List Hd)(key vl lo hi:ByteArray)(mo:Int)(w:World)(hV:Rs tyFl 129 w (.slice V vn vc) [eFile])(hT:Rs tyTx 237 w (.slice TA tn tc) [t])(hW:Rs tyWr 212 w (.slice t.A t.n t.c) l)(hH:Rs tyHd 351 w (.slice HA hn hc) hl0)(hhl:hl0.length≤1000)(hmay:QWi.engine_may.f 2 5 key vl lo hi mo=some true)(hl:l.length≤24)(hz:sizeW l≤512)(ht1:1≤t.token.size)(ht2:t.token.size≤16)(hr:Rises l)(hk:∀x∈l,okW x)(hm0:2200≤room)(hm1:room≤1000000):
  Calls Tryz.prog 77 #[.agg #[.slice V vn vc,.int .i64 (room),.int .i64 (-1),.bool false,.int .i64 1,.int .i64 1,.int .i64 0,.slice none 0 0,.slice none 0 0,.bool false,.slice HA hn hc,.slice none 0 0,.slice TA tn tc,.int .i64 nx,.int .u64 0],.int .i64 1,.agg #[.int .i64 5,.string key,.string vl,.string lo,.string hi,.int .i64 mo]] w (EAskCV nx t.token w):=by
 have HMAY:=h_ hmay
 have HHL:=h_ hhl
 have HXX:Hid (l.length≤24∧sizeW l≤512∧1≤t.token.size∧t.token.size≤16∧Rises l∧∀x∈l,okW x):=h_ ⟨hl,hz,ht1,ht2,hr,hk⟩
 clear hmay hl hz ht1 ht2 hr hk hhl
 have HB:Hid (Below w.heap.size w w):=h_ (Below.refl _ _)
 have HF:=h_ hV
 clear hV
 have HT:=h_ hT
 clear hT
 have HW:=h_ hW
 clear hW
 have HH:=h_ hH
 clear hH
 go_enter Tryz.func77,Tryz.ntmps77
 go_wp2_with fail
 refine(eng_find V none none HA TA vn vc 0 0 0 0 hn hc tn tc room nx t _ (Rs.below HT.out (below_alloc (below_alloc (below_alloc (below_alloc HB.out _) _) _) _))).mono ?_
 rintro e w1 ⟨rfl,hb⟩
 have kE:=hid_mv (show w1.heap[w.heap.size]? =some (.cells #[.slice V vn vc,.int .i64 (room),.int .i64 (-1),.bool false,.int .i64 1,.int .i64 1,.int .i64 0,.slice none 0 0,.slice none 0 0,.bool false,.slice HA hn hc,.slice none 0 0,.slice TA tn tc,.int .i64 nx,.int .u64 0] 43 (0,0))from bb (bb (bb (bb (blk_new' _ _ _ (by simp)) (one _ _)) (one _ _)) (one _ _)) hb)
 have kI:=hid_mv (show w1.heap[w.heap.size+1]? =some (.cells #[.int .i64 1] 3 (0,0))from bb (bb (bb (blk_new' _ _ _ (by simp)) (one _ _)) (one _ _)) hb)
 have kOP:=hid_mv (show w1.heap[w.heap.size+1+1]? =some (.cells #[.int .i64 5,.string key,.string vl,.string lo,.string hi,.int .i64 mo] 59 (0,0))from bb (bb (blk_new' _ _ _ (by simp)) (one _ _)) hb)
 have kQ:=hid_mv (show w1.heap[w.heap.size+1+1+1]? =some (.cells #[.slice none 0 0,.int .i64 0,.int .i64 0,.bool false,.int .i64 0,.int .i64 0,.int .i64 0,.slice none 0 0,.slice none 0 0,.bool false,.slice none 0 0,.slice none 0 0,.slice none 0 0,.int .i64 0,.int .u64 0] 43 (0,0))from bb (blk_new' _ _ _ (by simp)) hb)
 have hz:=(hb).size
 skip
 obtain⟨KE,E0lt,E0ne,E0en⟩:=kE
 obtain⟨KI,I0lt,I0ne,I0en⟩:=kI
 obtain⟨KOP,OP0lt,OP0ne,OP0en⟩:=kOP
 obtain⟨KQ,Q0lt,Q0ne,Q0en⟩:=kQ
 replace HB:=h_ (below_call (below_alloc (below_alloc (below_alloc (below_alloc HB.out _) _) _) _) hb)
 have hs0_:=HB.out.size
 clear hb
 go_upto_region 7 with(fail)
 refine nm fun w2 hb=>?_
 obtain⟨hz,_,hb,KTB⟩:=na1 hb
 obtain⟨hz,KE,KI,KOP,KQ,HB⟩:=m5 hb KE KI KOP KQ HB
 have COP:=cells6 KOP.out
 go_wp2_with fail
 refine(QWi.engine_may.calls 2 5 key vl lo hi mo true _ HMAY.out).mono ?_
 rintro e w3 ⟨rfl,hb⟩
 clear COP
 obtain⟨hz,KE,KI,KOP,KQ,KTB,HB⟩:=m6 hb KE KI KOP KQ KTB HB
 go_upto_region 9 with(fail)
 refine nm fun w4 hb=>?_
 obtain⟨hz,KE,KI,KOP,KQ,KTB,HB⟩:=m6 hb KE KI KOP KQ KTB HB
 have CE:=cells15 KE.out
 go_upto_region 11 with(fail)
 refine nm fun w5 hb=>?_
 clear CE
 obtain⟨hz,_,hb,KG⟩:=na1 hb
 obtain⟨hz,KE,KI,KOP,KQ,KTB,HB⟩:=m6 hb KE KI KOP KQ KTB HB
 have COP:=cells6 KOP.out
 go_upto_region 14 with(fail)
 refine nm fun w6 hb=>?_
 clear COP
 obtain⟨hz,KE,KI,KOP,KQ,KTB,KG,HB⟩:=m7 hb KE KI KOP KQ KTB KG HB
 refine rg2 KI KTB fun u1 hb hHeld=>?_
 obtain⟨hz,KE,KI,KOP,KQ,KTB,KG,HB⟩:=m7 hb KE KI KOP KQ KTB KG HB
 refine t_ 0 ?_
 refine tq 1 (fun _ k=>bq k.1 0) ?_
 refine t_ 2 ?_
 refine tl 3 0 10 (fun _ k=>k.2) Tryz.underlying237 ?_
 refine t_ 4 ?_
 refine tq 5 (fun _ k=>bq k.2 2) ?_
 refine t_ 6 ?_
 refine rd 7 fun K hK=>?_
 go_simp
 go_at_call 134
 refine(eng_commit _ V vn vc room _ _ _ _ _ _ t l _ KG.out (Rs.below HF.out HB.out) (Rs.below HW.out HB.out) HXX.out.1 HXX.out.2.1 HXX.out.2.2.1 HXX.out.2.2.2.1 HXX.out.2.2.2.2.1 HXX.out.2.2.2.2.2 hm0 hm1).mono ?_
 rintro e w7 ⟨V9,vn9,vc9,r9,D9,dn9,dc9,K9,kc9,rfl,hb,hkG,hkK⟩
 have HP:=h_ hkK
 have HKG:=h_ hkG
 clear hkG hkK
 obtain⟨kE,E7lt,E7ne,E7en⟩:=hid_mv (show w7.heap[w.heap.size]? =some (.cells #[.slice V vn vc,.int .i64 (room),.int .i64 (-1),.bool false,.int .i64 1,.int .i64 1,.int .i64 0,.slice none 0 0,.slice none 0 0,.bool false,.slice HA hn hc,.slice none 0 0,.slice TA tn tc,.int .i64 nx,.int .u64 0] 43 (0,0))from blk_only KE.out hb (by omega))
 obtain⟨kI,I7lt,I7ne,I7en⟩:=hid_mv (show w7.heap[w.heap.size+1]? =some (.cells #[.int .i64 1] 3 (0,0))from blk_only KI.out hb (by omega))
 obtain⟨kOP,OP7lt,OP7ne,OP7en⟩:=hid_mv (show w7.heap[w.heap.size+1+1]? =some (.cells #[.int .i64 5,.string key,.string vl,.string lo,.string hi,.int .i64 mo] 59 (0,0))from blk_only KOP.out hb (by omega))
 obtain⟨kQ,Q7lt,Q7ne,Q7en⟩:=hid_mv (show w7.heap[w.heap.size+1+1+1]? =some (.cells #[.slice none 0 0,.int .i64 0,.int .i64 0,.bool false,.int .i64 0,.int .i64 0,.int .i64 0,.slice none 0 0,.slice none 0 0,.bool false,.slice none 0 0,.slice none 0 0,.slice none 0 0,.int .i64 0,.int .u64 0] 43 (0,0))from blk_only KQ.out hb (by omega))
 obtain⟨kTB,TB7lt,TB7ne,TB7en⟩:=hid_mv (show w7.heap[w1.heap.size]? =some (.cells #[.int .i64 1,.string t.token,.slice t.A t.n t.c,.bool false,.int .i64 0,.string ⟨#[]⟩,.string ⟨#[]⟩,.string ⟨#[]⟩,.string ⟨#[]⟩,.int .i64 0] 237 (0,0))from blk_only KTB.out hb (by omega))
 have hz:=(hb).size
 clear KE KI KOP KQ KTB
 have KE:=kE
 clear kE
 have KI:=kI
 clear kI
 have KOP:=kOP
 clear kOP
 have KQ:=kQ
 clear kQ
 have KTB:=kTB
 clear kTB
 replace HB:=h_ (below_only HB.out hb (by omega))
 have hs7_:=HB.out.size
 clear hb
 have KG:=HKG
 clear HKG
 refine bk hK ⟨KI.out,KTB.out⟩ fun hHeld=>?_
 refine rd 8 fun K hK=>?_
 go_simp
 go_at_call 133
 refine(eng_ends _ _ _ _ _ _ _ _ _ _ _ HA TA hn hc tn tc nx t hl0 _ KG.out (Rs.below HT.out HB.out) (Rs.below HH.out HB.out) HHL.out).mono ?_
 rintro e w8 ⟨H9,hc9,T9,tc9,E9,ec9,rfl,hb,hkG,hkD⟩
 have HP8:=h_ (Rs.only HP.out hb KG.out (by decide))
 have HD8:=h_ hkD
 have HKG:=h_ hkG
 clear hkG hkD HP
 obtain⟨kE,E8lt,E8ne,E8en⟩:=hid_mv (show w8.heap[w.heap.size]? =some (.cells #[.slice V vn vc,.int .i64 (room),.int .i64 (-1),.bool false,.int .i64 1,.int .i64 1,.int .i64 0,.slice none 0 0,.slice none 0 0,.bool false,.slice HA hn hc,.slice none 0 0,.slice TA tn tc,.int .i64 nx,.int .u64 0] 43 (0,0))from blk_only KE.out hb (by omega))
 obtain⟨kI,I8lt,I8ne,I8en⟩:=hid_mv (show w8.heap[w.heap.size+1]? =some (.cells #[.int .i64 1] 3 (0,0))from blk_only KI.out hb (by omega))
 obtain⟨kOP,OP8lt,OP8ne,OP8en⟩:=hid_mv (show w8.heap[w.heap.size+1+1]? =some (.cells #[.int .i64 5,.string key,.string vl,.string lo,.string hi,.int .i64 mo] 59 (0,0))from blk_only KOP.out hb (by omega))
 obtain⟨kQ,Q8lt,Q8ne,Q8en⟩:=hid_mv (show w8.heap[w.heap.size+1+1+1]? =some (.cells #[.slice none 0 0,.int .i64 0,.int .i64 0,.bool false,.int .i64 0,.int .i64 0,.int .i64 0,.slice none 0 0,.slice none 0 0,.bool false,.slice none 0 0,.slice none 0 0,.slice none 0 0,.int .i64 0,.int .u64 0] 43 (0,0))from blk_only KQ.out hb (by omega))
 obtain⟨kTB,TB8lt,TB8ne,TB8en⟩:=hid_mv (show w8.heap[w1.heap.size]? =some (.cells #[.int .i64 1,.string t.token,.slice t.A t.n t.c,.bool false,.int .i64 0,.string ⟨#[]⟩,.string ⟨#[]⟩,.string ⟨#[]⟩,.string ⟨#[]⟩,.int .i64 0] 237 (0,0))from blk_only KTB.out hb (by omega))
 have hz:=(hb).size
 clear KE KI KOP KQ KTB
 have KE:=kE
 clear kE
 have KI:=kI
 clear kI
 have KOP:=kOP
 clear kOP
 have KQ:=kQ
 clear kQ
 have KTB:=kTB
 clear kTB
 replace HB:=h_ (below_only HB.out hb (by omega))
 have hs8_:=HB.out.size
 clear hb
 have KG:=HKG
 clear HKG
 refine bk hK ⟨KI.out,KTB.out⟩ fun hHeld=>?_
 refine d_ ?_
 have HP:=HP8
 have HD:=HD8
 clear HP8 HD8
 go_upto_region 17 with(fail)
 refine nm fun w9 hb=>?_
 obtain⟨hz,KE,KI,KOP,KQ,KTB,KG,HP,HD,HB⟩:=m9 hb KE KI KOP KQ KTB KG HP HD HB
 refine rg1 KG fun u2 hb hHeld=>?_
 obtain⟨hz,KE,KI,KOP,KQ,KTB,KG,HP,HD,HB⟩:=m9 hb KE KI KOP KQ KTB KG HP HD HB
 refine t_ 0 ?_
 refine t_ 1 ?_
 refine t_ 2 ?_
 refine tl 3 0 15 (fun _ k=>k) Tryz.underlying43 ?_
 refine t_ 4 ?_
 refine t_ 5 ?_
 refine t_ 6 ?_
 refine tq 7 (fun _ k=>bq k 15) ?_
 refine rd 8 fun K hK=>?_
 refine sm 0 [.slice V9 vn9 vc9,.int .i64 (r9),.int .i64 (-1),.bool false,.int .i64 1,.int .i64 1,.int .i64 0,.slice D9 dn9 dc9,.slice K9 1 kc9,.bool false,.slice H9 0 hc9,.slice none 0 0,.slice T9 0 tc9,.int .i64 nx,.int .u64 0] KQ fun u3 ho kQ=>?_
 obtain⟨hz,KE,KI,KOP,KTB,KG,HP,HD,HB⟩:=o8 ho KE KI KOP KTB KG HP HD HB
 replace KQ:=kQ
 clear kQ
 refine bk hK KG.out fun hHeld=>?_
 refine t_ 9 ?_
 refine d_ ?_
 go_wp2
 skip
 refine bodyPost_ret (res_cell_tmp (cs:=#[.slice V9 vn9 vc9,.int .i64 (r9),.int .i64 (-1),.bool false,.int .i64 1,.int .i64 1,.int .i64 0,.slice D9 dn9 dc9,.slice K9 1 kc9,.bool false,.slice H9 0 hc9,.slice none 0 0,.slice T9 0 tc9,.int .i64 nx,.int .u64 0]) Tryz.results77 rfl KQ.out Tryz.underlying43 rfl (by kernel_rfl)) rfl ⟨_,_,_,_,_,_,_,_,_,_,_,_,_,_,_,rfl,HB.out,HP.out,HD.out⟩
end Go.Proofs.YtmgmdiekpmffbaaGreatDoor.Top
namespace Go.Proofs.YtmgmdiekpmffbaaGreatDoor.Top
open Go Go.RowKit Go.Proofs.YtmgmdiekpmffbaaGreatDoorW.PrintWords Go.Proofs.YtmgmdiekpmffbaaGreatDoor.QWi
def TurnCV (g:Nat)(nx snx:Int)(b:Value)(tok r:ByteArray)(w:World)(en:Ending)(w':World):Prop:=∃V9 vn9 vc9 r9 D9 dn9 dc9 K9 kc9 H9 hc9 T9 tc9 A n c H m kk M cap,en= .returned (.tuple #[])∧Only g w w'∧w'.heap[g]? =some (.cells #[.slice V9 vn9 vc9,.int .i64 (r9),.int .i64 (-1),.bool false,.int .i64 1,.int .i64 1,.int .i64 0,.slice D9 dn9 dc9,.slice K9 1 kc9,.bool false,.slice H9 0 hc9,.slice none 0 0,.slice T9 0 tc9,.int .i64 nx,.int .u64 0,.int .i64 1,.slice A n c,.slice H m kk,.int .i64 (snx),.int .u64 0,b,.slice (some ⟨M,0,none⟩) 1 cap] 81 (0,0))∧Rs tyPr 123 w' (.slice K9 1 kc9) [⟨tok,⟨#[99]⟩⟩]∧Rs tyMl 73 w' (.slice (some ⟨M,0,none⟩) 1 cap) [⟨Wire.textW r⟩]
theorem srv_turn_commit (k g:Nat)(V HA TA:Option Addr)(vn vc hn hc tn tc:Nat)(room nx:Int)(A H:Option Addr)(n c m kk:Nat)(snx s mo:Int)(last tk key vl lo hi:ByteArray)(b:Value)(t:Tx)(l:List Wr)(hl0:List Hd)(r:ByteArray)(w:World)(hg:w.heap[g]? =some (.cells #[.slice V vn vc,.int .i64 (room),.int .i64 (-1),.bool false,.int .i64 1,.int .i64 1,.int .i64 0,.slice none 0 0,.slice none 0 0,.bool false,.slice HA hn hc,.slice none 0 0,.slice TA tn tc,.int .i64 nx,.int .u64 0,.int .i64 1,.slice A n c,.slice H m kk,.int .i64 (snx),.int .u64 0,b,.slice none 0 0] 81 (0,0)))(hV:Rs tyFl 129 w (.slice V vn vc) [eFile])(hL:Rs tySn 71 w (.slice A n c) [⟨s,false,last,1⟩])(hA:HAl w (.slice H m kk))(hT:Rs tyTx 237 w (.slice TA tn tc) [t])(hW:Rs tyWr 212 w (.slice t.A t.n t.c) l)(hH:Rs tyHd 351 w (.slice HA hn hc) hl0)(h0:0≤s)(h1:s<1073741824)
  (hhl:hl0.length≤1000) (hmay:QWi.engine_may.f 2 5 key vl lo hi mo=some true) (hl:l.length≤24) (hz:sizeW l≤512) (ht1:1≤t.token.size) (ht2:t.token.size≤16) (hr:Rises l) (hk:∀x∈l,okW x) (hm0:2200≤room) (hm1:room≤1000000) (hf:wire_Reply.f k 1 1 (s+1) 0 ⟨#[]⟩ false [] true=some (r,0)) (h:r.size≤2048):
  Calls Tryz.prog 35 #[.pointer (some ⟨g,0,none⟩),.int .i64 0,.agg #[.int .i64 5,.int .i64 1,.int .i64 1,.int .i64 (s+1),.string tk,.int .i64 5,.string key,.string vl,.string lo,.string hi,.int .i64 mo]] w (TurnCV g nx snx b t.token r w):=by
 have hlt:=blk_lt hg
 have HXX:Hid (hl0.length≤1000∧QWi.engine_may.f 2 5 key vl lo hi mo=some true∧l.length≤24∧sizeW l≤512∧1≤t.token.size∧t.token.size≤16∧Rises l∧∀x∈l,okW x):=h_ ⟨hhl,hmay,hl,hz,ht1,ht2,hr,hk⟩
 have HFR:=h_ hf
 have HRS:=h_ h
 clear hl hz ht1 ht2 hr hk hhl hmay hf h
 have HB:Hid (Only g w w):=h_ (Only.refl _ _)
 have HG0:=h_ hg
 have KG:=h_ hg
 clear hg
 have HF:=h_ hV
 clear hV
 have HR:=h_ hL
 clear hL
 have HAla:=h_ hA
 clear hA
 have HT:=h_ hT
 clear hT
 have HW:=h_ hW
 clear hW
 have HH:=h_ hH
 clear hH
 go_enter Tryz.func35,Tryz.ntmps35
 have nG:g≠w.heap.size:=Nat.ne_of_lt hlt
 go_upto_region 1 with(fail)
 refine nm fun w1 hb=>?_
 obtain⟨hz,_,hb,KQ⟩:=na1 hb
 obtain⟨hz,KG,HB⟩:=m2 hb KG HB
 refine rg2 KG KQ fun u1 hb hHeld=>?_
 obtain⟨hz,KG,KQ,HB⟩:=m3 hb KG KQ HB
 refine t_ 0 ?_
 refine t_ 1 ?_
 refine t_ 2 ?_
 refine t_ 3 ?_
 refine tl 4 15 5 (fun _ k=>k.1) Tryz.underlying47 ?_
 refine tl 5 0 11 (fun _ k=>k.2) Tryz.underlying61 ?_
 refine rd 6 fun K hK=>?_
 go_simp
 go_at_call 72
 refine(ses_judge _ _ _ _ _ _ snx s 1 5 (s+1) 5 mo last tk key vl lo hi _ (Rs.only HR.out HB.out HG0.out (by decide)) h0 h1 rfl).mono ?_
 rintro e w2 ⟨rfl,hb⟩
 obtain⟨hz,KG,KQ,HB⟩:=m3 hb KG KQ HB
 refine bk hK ⟨KG.out,KQ.out⟩ fun hHeld=>?_
 refine t_ 7 ?_
 refine t_ 8 ?_
 refine t_ 9 ?_
 refine t_ 10 ?_
 refine t_ 11 ?_
 refine d_ ?_
 go_upto_region 8 with(fail)
 refine nm fun w3 hb=>?_
 obtain⟨hz,KG,KQ,HB⟩:=m3 hb KG KQ HB
 go_cut [8,7] from 13 (fun s8 s7 wx=>∃n_N A2 n2 c2 H2 m2 k2,s8= .pointer (some ⟨n_N,0,none⟩)∧s7= .int .i64 0∧wx.heap[g]? =some (.cells #[.slice V vn vc,.int .i64 (room),.int .i64 (-1),.bool false,.int .i64 1,.int .i64 1,.int .i64 0,.slice none 0 0,.slice none 0 0,.bool false,.slice HA hn hc,.slice none 0 0,.slice TA tn tc,.int .i64 nx,.int .u64 0,.int .i64 1,.slice A n c,.slice H m kk,.int .i64 (snx),.int .u64 0,b,.slice none 0 0] 81 (0,0))∧wx.heap[w.heap.size]? =some (.cells #[.int .i64 5,.int .i64 1,.int .i64 1,.int .i64 (s+1),.string tk,.int .i64 5,.string key,.string vl,.string lo,.string hi,.int .i64 mo] 61 (0,0))∧wx.heap[n_N]? =some (.cells #[.int .i64 1,.slice A2 n2 c2,.slice H2 m2 k2,.int .i64 (snx),.int .u64 0] 47 (0,0))∧Rs tySn 71 wx (.slice A2 n2 c2) ([(⟨s+1,true,⟨#[]⟩,1⟩:Sn)])∧HAl wx (.slice H2 m2 k2)∧w3.heap.size≤n_N∧Only g w wx)
 case first=>
  refine rg2 KG KQ fun u2 hb hHeld=>?_
  obtain⟨hz,KG,KQ,HB⟩:=m3 hb KG KQ HB
  refine t_ 0 ?_
  refine t_ 1 ?_
  refine t_ 2 ?_
  refine t_ 3 ?_
  refine tl 4 15 5 (fun _ k=>k.1) Tryz.underlying47 ?_
  refine t_ 5 ?_
  refine tq 6 (fun _ k=>bq k.2 2) ?_
  refine t_ 7 ?_
  refine wpAnyH_ready (rs:= [8,12]) (by kernel_rfl) (by simp) ?_
  refine AllReadyH.cons rfl (fun K hK=>?_) ?_
  ·go_simp
   go_at_call 73
   refine(ses_take _ _ _ _ _ _ snx (⟨s,false,last,1⟩:Sn) _ (Rs.only HR.out HB.out HG0.out (by decide)) (HAl.map (fun _ h=>(Rs.only h HB.out HG0.out (by decide))) HAla.out) h0 h1).mono ?_
   rintro e w4 ⟨A2,n2,c2,H2,m2,k2,rfl,hR2,hA2,hb⟩
   have HR2:=h_ hR2
   have HA2:=h_ hA2
   clear hR2 hA2
   obtain⟨hz,KG,KQ,HB⟩:=m3 hb KG KQ HB
   refine bk hK ⟨KG.out,KQ.out⟩ fun hHeld=>?_
   refine t_ 9 ?_
   refine t_ 10 ?_
   refine t_ 11 ?_
   refine rd 12 fun K hK=>?_
   go_simp
   refine na fun u3 hb KN=>?_
   obtain⟨hz,KG,KQ,HR2,HA2,HB⟩:=m5 hb KG KQ HR2 HA2 HB
   have Nlt:=blk_lt KN.out
   refine bk hK ⟨KG.out,KQ.out⟩ fun hHeld=>?_
   refine rd 13 fun K hK=>?_
   refine sm 0 [.int .i64 1,.slice A2 n2 c2,.slice H2 m2 k2,.int .i64 (snx),.int .u64 0] KN fun u4 ho kN=>?_
   obtain⟨hz,KG,KQ,HR2,HA2,HB⟩:=o5 ho KG KQ HR2 HA2 HB
   replace KN:=kN
   clear kN
   refine bk hK ⟨KG.out,KQ.out⟩ fun hHeld=>?_
   refine t_ 14 ?_
   refine d_ ?_
   go_wp2_with fail
   go_meet
   exact⟨w4.heap.size,A2,n2,c2,H2,m2,k2,rfl,rfl,KG.out,KQ.out,KN.out,HR2.out,(HAl.map (fun _ h=>h) HA2.out),by omega,HB.out⟩
  refine AllReadyH.cons rfl (fun K hK=>?_) AllReadyH.nil
  go_simp
  refine na fun u5 hb KN=>?_
  obtain⟨hz,KG,KQ,HB⟩:=m3 hb KG KQ HB
  have Nlt:=blk_lt KN.out
  refine bk hK ⟨KG.out,KQ.out⟩ fun hHeld=>?_
  refine rd 8 fun K hK=>?_
  go_simp
  go_at_call 73
  refine(ses_take _ _ _ _ _ _ snx (⟨s,false,last,1⟩:Sn) _ (Rs.only HR.out HB.out HG0.out (by decide)) (HAl.map (fun _ h=>(Rs.only h HB.out HG0.out (by decide))) HAla.out) h0 h1).mono ?_
  rintro e w4 ⟨A2,n2,c2,H2,m2,k2,rfl,hR2,hA2,hb⟩
  have HR2:=h_ hR2
  have HA2:=h_ hA2
  clear hR2 hA2
  obtain⟨hz,KG,KQ,KN,HB⟩:=m4 hb KG KQ KN HB
  refine bk hK ⟨KG.out,KQ.out⟩ fun hHeld=>?_
  refine t_ 9 ?_
  refine t_ 10 ?_
  refine t_ 11 ?_
  refine rd 13 fun K hK=>?_
  refine sm 0 [.int .i64 1,.slice A2 n2 c2,.slice H2 m2 k2,.int .i64 (snx),.int .u64 0] KN fun u6 ho kN=>?_
  obtain⟨hz,KG,KQ,HR2,HA2,HB⟩:=o5 ho KG KQ HR2 HA2 HB
  replace KN:=kN
  clear kN
  refine bk hK ⟨KG.out,KQ.out⟩ fun hHeld=>?_
  refine t_ 14 ?_
  refine d_ ?_
  go_wp2_with fail
  go_meet
  exact⟨u2.heap.size,A2,n2,c2,H2,m2,k2,rfl,rfl,KG.out,KQ.out,KN.out,HR2.out,(HAl.map (fun _ h=>h) HA2.out),by omega,HB.out⟩
 case rest=>
  rename World=>wc1
  clear KG KQ HB
  obtain⟨n_N,A2,n2,c2,H2,m2,k2,rfl,rfl,kG,kQ,kN,hR2,hA2,Nge,hB⟩:=hcut
  obtain⟨KG,G4lt,G4ne,G4en⟩:=hid_mv kG
  clear kG
  obtain⟨KQ,Q4lt,Q4ne,Q4en⟩:=hid_mv kQ
  clear kQ
  obtain⟨KN,N4lt,N4ne,N4en⟩:=hid_mv kN
  clear kN
  have HR2:=h_ hR2
  clear hR2
  have HA2:=h_ hA2
  clear hA2
  have HB:=h_ hB
  have hs4_:=HB.out.size
  clear hB
  obtain⟨rfl,b2,rfl,hb2⟩:=Rs.head1 HR2.out
  go_upto_region 11 with(fail)
  refine nm fun w5 hb=>?_
  obtain⟨hz,KG,KQ,KN,HR2,HA2,HB⟩:=m6 hb KG KQ KN HR2 HA2 HB
  have CG:=cells22 KG.out
  have CN:=cells5 KN.out
  go_upto_region 12 with(fail)
  refine nm fun w6 hb=>?_
  clear CG CN
  obtain⟨ho,kG⟩:=pw 15 [.int .i64 1,.slice (some ⟨b2,0,none⟩) 1 c2,.slice H2 m2 k2,.int .i64 (snx),.int .u64 0] KG hb
  obtain⟨hz,KQ,KN,HR2,HA2,HB⟩:=o5 ho KQ KN HR2 HA2 HB
  replace KG:=kG
  clear kG
  obtain⟨_,b3,e3,hb3⟩:=Rs.head1 HR2.out
  cases e3
  go_cut [9,10] from 13 (fun s9 s10 wx=>∃n_X,s9= .pointer (some ⟨n_X,0,none⟩)∧s10= .bool true∧wx.heap[g]? =some (.cells #[.slice V vn vc,.int .i64 (room),.int .i64 (-1),.bool false,.int .i64 1,.int .i64 1,.int .i64 0,.slice none 0 0,.slice none 0 0,.bool false,.slice HA hn hc,.slice none 0 0,.slice TA tn tc,.int .i64 nx,.int .u64 0,.int .i64 1,.slice (some ⟨b2,0,none⟩) 1 c2,.slice H2 m2 k2,.int .i64 (snx),.int .u64 0,b,.slice none 0 0] 81 (0,0))∧wx.heap[w.heap.size]? =some (.cells #[.int .i64 5,.int .i64 1,.int .i64 1,.int .i64 (s+1),.string tk,.int .i64 5,.string key,.string vl,.string lo,.string hi,.int .i64 mo] 61 (0,0))∧wx.heap[n_N]? =some (.cells #[.int .i64 1,.slice (some ⟨b2,0,none⟩) 1 c2,.slice H2 m2 k2,.int .i64 (snx),.int .u64 0] 47 (0,0))∧wx.heap[n_X]? =some (.cells #[.int .i64 1,.int .i64 (s+1),.bool true,.string ⟨#[]⟩,.int .i64 1,.int .i64 0] 71 (0,0))∧Rs tySn 71 wx (.slice (some ⟨b2,0,none⟩) 1 c2) ([(⟨s+1,true,⟨#[]⟩,1⟩:Sn)])∧HAl wx (.slice H2 m2 k2)∧w6.heap.size≤n_X∧Only g w wx)
  case first=>
   refine rg2 KG KQ fun u7 hb hHeld=>?_
   obtain⟨hz,KG,KQ,KN,HR2,HA2,HB⟩:=m6 hb KG KQ KN HR2 HA2 HB
   refine t_ 0 ?_
   refine t_ 1 ?_
   refine t_ 2 ?_
   refine t_ 3 ?_
   refine tl 4 15 5 (fun _ k=>k.1) Tryz.underlying47 ?_
   refine t_ 5 ?_
   refine tq 6 (fun _ k=>bq k.2 2) ?_
   refine wpAnyH_ready (rs:= [7,11]) (by kernel_rfl) (by simp) ?_
   refine AllReadyH.cons rfl (fun K hK=>?_) ?_
   ·go_simp
    go_at_call 68
    refine(ses_find _ _ _ _ _ _ snx (⟨s+1,true,⟨#[]⟩,1⟩:Sn) _ HR2.out).mono ?_
    rintro e w7 ⟨rfl,hb⟩
    obtain⟨hz,KG,KQ,KN,HR2,HA2,HB⟩:=m6 hb KG KQ KN HR2 HA2 HB
    refine bk hK ⟨KG.out,KQ.out⟩ fun hHeld=>?_
    refine t_ 8 ?_
    refine t_ 9 ?_
    refine t_ 10 ?_
    refine rd 11 fun K hK=>?_
    go_simp
    refine na fun u8 hb KX=>?_
    obtain⟨hz,KG,KQ,KN,HR2,HA2,HB⟩:=m6 hb KG KQ KN HR2 HA2 HB
    have Xlt:=blk_lt KX.out
    refine bk hK ⟨KG.out,KQ.out⟩ fun hHeld=>?_
    refine rd 12 fun K hK=>?_
    refine sm 0 [.int .i64 1,.int .i64 (s+1),.bool true,.string ⟨#[]⟩,.int .i64 1,.int .i64 0] KX fun u9 ho kX=>?_
    obtain⟨hz,KG,KQ,KN,HR2,HA2,HB⟩:=o6 ho KG KQ KN HR2 HA2 HB
    replace KX:=kX
    clear kX
    refine bk hK ⟨KG.out,KQ.out⟩ fun hHeld=>?_
    refine t_ 13 ?_
    refine d_ ?_
    go_wp2_with fail
    go_meet
    exact⟨w7.heap.size,rfl,rfl,KG.out,KQ.out,KN.out,KX.out,HR2.out,(HAl.map (fun _ h=>h) HA2.out),by omega,HB.out⟩
   refine AllReadyH.cons rfl (fun K hK=>?_) AllReadyH.nil
   go_simp
   refine na fun u10 hb KX=>?_
   obtain⟨hz,KG,KQ,KN,HR2,HA2,HB⟩:=m6 hb KG KQ KN HR2 HA2 HB
   have Xlt:=blk_lt KX.out
   refine bk hK ⟨KG.out,KQ.out⟩ fun hHeld=>?_
   refine rd 7 fun K hK=>?_
   go_simp
   go_at_call 68
   refine(ses_find _ _ _ _ _ _ snx (⟨s+1,true,⟨#[]⟩,1⟩:Sn) _ HR2.out).mono ?_
   rintro e w7 ⟨rfl,hb⟩
   obtain⟨hz,KG,KQ,KN,KX,HR2,HA2,HB⟩:=m7 hb KG KQ KN KX HR2 HA2 HB
   refine bk hK ⟨KG.out,KQ.out⟩ fun hHeld=>?_
   refine t_ 8 ?_
   refine t_ 9 ?_
   refine t_ 10 ?_
   refine rd 12 fun K hK=>?_
   refine sm 0 [.int .i64 1,.int .i64 (s+1),.bool true,.string ⟨#[]⟩,.int .i64 1,.int .i64 0] KX fun u11 ho kX=>?_
   obtain⟨hz,KG,KQ,KN,HR2,HA2,HB⟩:=o6 ho KG KQ KN HR2 HA2 HB
   replace KX:=kX
   clear kX
   refine bk hK ⟨KG.out,KQ.out⟩ fun hHeld=>?_
   refine t_ 13 ?_
   refine d_ ?_
   go_wp2_with fail
   go_meet
   exact⟨u7.heap.size,rfl,rfl,KG.out,KQ.out,KN.out,KX.out,HR2.out,(HAl.map (fun _ h=>h) HA2.out),by omega,HB.out⟩
  case rest=>
   rename World=>wc2
   clear KG KQ KN HR2 HA2 HB
   obtain⟨n_X,rfl,rfl,kG,kQ,kN,kX,hR2,hA2,Xge,hB⟩:=hcut
   obtain⟨KG,G7lt,G7ne,G7en⟩:=hid_mv kG
   clear kG
   obtain⟨KQ,Q7lt,Q7ne,Q7en⟩:=hid_mv kQ
   clear kQ
   obtain⟨KN,N7lt,N7ne,N7en⟩:=hid_mv kN
   clear kN
   obtain⟨KX,X7lt,X7ne,X7en⟩:=hid_mv kX
   clear kX
   have HR2:=h_ hR2
   clear hR2
   have HA2:=h_ hA2
   clear hA2
   have HB:=h_ hB
   have hs7_:=HB.out.size
   clear hB
   go_upto_region 16 with(fail)
   refine nm fun w8 hb=>?_
   obtain⟨hz,KG,KQ,KN,KX,HR2,HA2,HB⟩:=m7 hb KG KQ KN KX HR2 HA2 HB
   have CQ:=cells11 KQ.out
   have CX:=cells6 KX.out
   go_upto_region 13 with(fail)
   refine nm fun w9 hb=>?_
   clear CQ CX
   obtain⟨hz,KG,KQ,KN,KX,HR2,HA2,HB⟩:=m7 hb KG KQ KN KX HR2 HA2 HB
   go_cut [11,12] from 13 (fun s11 s12 wx=>∃n_M V9 vn9 vc9 r9 D9 dn9 dc9 K9 kc9 H9 hc9 T9 tc9 E9 ec9,s11= .pointer (some ⟨n_M,0,none⟩)∧s12= .slice (some ⟨E9,0,none⟩) 1 ec9∧wx.heap[g]? =some (.cells #[.slice V vn vc,.int .i64 (room),.int .i64 (-1),.bool false,.int .i64 1,.int .i64 1,.int .i64 0,.slice none 0 0,.slice none 0 0,.bool false,.slice HA hn hc,.slice none 0 0,.slice TA tn tc,.int .i64 nx,.int .u64 0,.int .i64 1,.slice (some ⟨b2,0,none⟩) 1 c2,.slice H2 m2 k2,.int .i64 (snx),.int .u64 0,b,.slice none 0 0] 81 (0,0))∧wx.heap[w.heap.size]? =some (.cells #[.int .i64 5,.int .i64 1,.int .i64 1,.int .i64 (s+1),.string tk,.int .i64 5,.string key,.string vl,.string lo,.string hi,.int .i64 mo] 61 (0,0))∧wx.heap[n_N]? =some (.cells #[.int .i64 1,.slice (some ⟨b2,0,none⟩) 1 c2,.slice H2 m2 k2,.int .i64 (snx),.int .u64 0] 47 (0,0))∧wx.heap[n_X]? =some (.cells #[.int .i64 1,.int .i64 (s+1),.bool true,.string ⟨#[]⟩,.int .i64 1,.int .i64 0] 71 (0,0))∧wx.heap[n_M]? =some (.cells #[.slice V9 vn9 vc9,.int .i64 (r9),.int .i64 (-1),.bool false,.int .i64 1,.int .i64 1,.int .i64 0,.slice D9 dn9 dc9,.slice K9 1 kc9,.bool false,.slice H9 0 hc9,.slice none 0 0,.slice T9 0 tc9,.int .i64 nx,.int .u64 0] 43 (0,0))∧Rs tySn 71 wx (.slice (some ⟨b2,0,none⟩) 1 c2) ([(⟨s+1,true,⟨#[]⟩,1⟩:Sn)])∧HAl wx (.slice H2 m2 k2)∧Rs tyPr 123 wx (.slice K9 1 kc9) ([⟨t.token,⟨#[99]⟩⟩])∧Rs tyDn 243 wx (.slice (some ⟨E9,0,none⟩) 1 ec9) ([⟨0,⟨#[]⟩,false,none,0,0,true⟩])∧w9.heap.size≤n_M∧Only g w wx)
   case first=>
    refine rg3 KG KX KQ fun u12 hb hHeld=>?_
    obtain⟨hz,KG,KQ,KN,KX,HR2,HA2,HB⟩:=m7 hb KG KQ KN KX HR2 HA2 HB
    refine t_ 0 ?_
    refine t_ 1 ?_
    refine t_ 2 ?_
    refine t_ 3 ?_
    refine tl 4 0 15 (fun _ k=>k.1) Tryz.underlying43 ?_
    refine t_ 5 ?_
    refine tq 6 (fun _ k=>bq k.2.1 4) ?_
    refine t_ 7 ?_
    refine tl 8 5 6 (fun _ k=>k.2.2) Tryz.underlying59 ?_
    refine wpAnyH_ready (rs:= [9,13]) (by kernel_rfl) (by simp) ?_
    refine AllReadyH.cons rfl (fun K hK=>?_) ?_
    ·go_simp
     go_at_call 77
     refine(eng_ask_commit V HA TA vn vc hn hc tn tc room nx t l hl0 key vl lo hi mo _ (Rs.only HF.out HB.out HG0.out (by decide)) (Rs.only HT.out HB.out HG0.out (by decide)) (Rs.only HW.out HB.out HG0.out (by decide)) (Rs.only HH.out HB.out HG0.out (by decide)) HXX.out.1 HXX.out.2.1 HXX.out.2.2.1 HXX.out.2.2.2.1 HXX.out.2.2.2.2.1 HXX.out.2.2.2.2.2.1 HXX.out.2.2.2.2.2.2.1 HXX.out.2.2.2.2.2.2.2 hm0 hm1).mono ?_
     rintro e w10 ⟨V9,vn9,vc9,r9,D9,dn9,dc9,K9,kc9,H9,hc9,T9,tc9,E9,ec9,rfl,hb,hP9,hD9⟩
     have HP9:=h_ hP9
     have HD9:=h_ hD9
     clear hP9 hD9
     obtain⟨hz,KG,KQ,KN,KX,HR2,HA2,HB⟩:=m7 hb KG KQ KN KX HR2 HA2 HB
     refine bk hK ⟨KG.out,KX.out,KQ.out⟩ fun hHeld=>?_
     refine t_ 10 ?_
     refine t_ 11 ?_
     refine t_ 12 ?_
     refine rd 13 fun K hK=>?_
     go_simp
     refine na fun u13 hb KM=>?_
     obtain⟨hz,KG,KQ,KN,KX,HR2,HA2,HP9,HD9,HB⟩:=m9 hb KG KQ KN KX HR2 HA2 HP9 HD9 HB
     have Mlt:=blk_lt KM.out
     refine bk hK ⟨KG.out,KX.out,KQ.out⟩ fun hHeld=>?_
     refine rd 14 fun K hK=>?_
     refine sm 0 [.slice V9 vn9 vc9,.int .i64 (r9),.int .i64 (-1),.bool false,.int .i64 1,.int .i64 1,.int .i64 0,.slice D9 dn9 dc9,.slice K9 1 kc9,.bool false,.slice H9 0 hc9,.slice none 0 0,.slice T9 0 tc9,.int .i64 nx,.int .u64 0] KM fun u14 ho kM=>?_
     obtain⟨hz,KG,KQ,KN,KX,HR2,HA2,HP9,HD9,HB⟩:=o9 ho KG KQ KN KX HR2 HA2 HP9 HD9 HB
     replace KM:=kM
     clear kM
     refine bk hK ⟨KG.out,KX.out,KQ.out⟩ fun hHeld=>?_
     refine t_ 15 ?_
     refine d_ ?_
     go_wp2_with fail
     go_meet
     exact⟨w10.heap.size,V9,vn9,vc9,r9,D9,dn9,dc9,K9,kc9,H9,hc9,T9,tc9,E9,ec9,rfl,rfl,KG.out,KQ.out,KN.out,KX.out,KM.out,HR2.out,(HAl.map (fun _ h=>h) HA2.out),HP9.out,HD9.out,by omega,HB.out⟩
    refine AllReadyH.cons rfl (fun K hK=>?_) AllReadyH.nil
    go_simp
    refine na fun u15 hb KM=>?_
    obtain⟨hz,KG,KQ,KN,KX,HR2,HA2,HB⟩:=m7 hb KG KQ KN KX HR2 HA2 HB
    have Mlt:=blk_lt KM.out
    refine bk hK ⟨KG.out,KX.out,KQ.out⟩ fun hHeld=>?_
    refine rd 9 fun K hK=>?_
    go_simp
    go_at_call 77
    refine(eng_ask_commit V HA TA vn vc hn hc tn tc room nx t l hl0 key vl lo hi mo _ (Rs.only HF.out HB.out HG0.out (by decide)) (Rs.only HT.out HB.out HG0.out (by decide)) (Rs.only HW.out HB.out HG0.out (by decide)) (Rs.only HH.out HB.out HG0.out (by decide)) HXX.out.1 HXX.out.2.1 HXX.out.2.2.1 HXX.out.2.2.2.1 HXX.out.2.2.2.2.1 HXX.out.2.2.2.2.2.1 HXX.out.2.2.2.2.2.2.1 HXX.out.2.2.2.2.2.2.2 hm0 hm1).mono ?_
    rintro e w10 ⟨V9,vn9,vc9,r9,D9,dn9,dc9,K9,kc9,H9,hc9,T9,tc9,E9,ec9,rfl,hb,hP9,hD9⟩
    have HP9:=h_ hP9
    have HD9:=h_ hD9
    clear hP9 hD9
    obtain⟨hz,KG,KQ,KN,KX,KM,HR2,HA2,HB⟩:=m8 hb KG KQ KN KX KM HR2 HA2 HB
    refine bk hK ⟨KG.out,KX.out,KQ.out⟩ fun hHeld=>?_
    refine t_ 10 ?_
    refine t_ 11 ?_
    refine t_ 12 ?_
    refine rd 14 fun K hK=>?_
    refine sm 0 [.slice V9 vn9 vc9,.int .i64 (r9),.int .i64 (-1),.bool false,.int .i64 1,.int .i64 1,.int .i64 0,.slice D9 dn9 dc9,.slice K9 1 kc9,.bool false,.slice H9 0 hc9,.slice none 0 0,.slice T9 0 tc9,.int .i64 nx,.int .u64 0] KM fun u16 ho kM=>?_
    obtain⟨hz,KG,KQ,KN,KX,HR2,HA2,HP9,HD9,HB⟩:=o9 ho KG KQ KN KX HR2 HA2 HP9 HD9 HB
    replace KM:=kM
    clear kM
    refine bk hK ⟨KG.out,KX.out,KQ.out⟩ fun hHeld=>?_
    refine t_ 15 ?_
    refine d_ ?_
    go_wp2_with fail
    go_meet
    exact⟨u12.heap.size,V9,vn9,vc9,r9,D9,dn9,dc9,K9,kc9,H9,hc9,T9,tc9,E9,ec9,rfl,rfl,KG.out,KQ.out,KN.out,KX.out,KM.out,HR2.out,(HAl.map (fun _ h=>h) HA2.out),HP9.out,HD9.out,by omega,HB.out⟩
   case rest=>
    rename World=>wc3
    clear KG KQ KN KX HR2 HA2 HB
    obtain⟨n_M,V9,vn9,vc9,r9,D9,dn9,dc9,K9,kc9,H9,hc9,T9,tc9,E9,ec9,rfl,rfl,kG,kQ,kN,kX,kM,hR2,hA2,hP9,hD9,Mge,hB⟩:=hcut
    obtain⟨KG,G10lt,G10ne,G10en⟩:=hid_mv kG
    clear kG
    obtain⟨KQ,Q10lt,Q10ne,Q10en⟩:=hid_mv kQ
    clear kQ
    obtain⟨KN,N10lt,N10ne,N10en⟩:=hid_mv kN
    clear kN
    obtain⟨KX,X10lt,X10ne,X10en⟩:=hid_mv kX
    clear kX
    obtain⟨KM,M10lt,M10ne,M10en⟩:=hid_mv kM
    clear kM
    have HR2:=h_ hR2
    clear hR2
    have HA2:=h_ hA2
    clear hA2
    have HP9:=h_ hP9
    clear hP9
    have HD9:=h_ hD9
    clear hD9
    have HB:=h_ hB
    have hs10_:=HB.out.size
    clear hB
    go_upto_region 14 with(fail)
    refine nm fun w11 hb=>?_
    obtain⟨hz,KG,KQ,KN,KX,KM,HR2,HA2,HP9,HD9,HB⟩:=m10 hb KG KQ KN KX KM HR2 HA2 HP9 HD9 HB
    have CG:=cells22 KG.out
    have CM:=cells15 KM.out
    go_upto_region 15 with(fail)
    refine nm fun w12 hb=>?_
    clear CG CM
    obtain⟨ho,kG⟩:=pw 0 [.slice V9 vn9 vc9,.int .i64 (r9),.int .i64 (-1),.bool false,.int .i64 1,.int .i64 1,.int .i64 0,.slice D9 dn9 dc9,.slice K9 1 kc9,.bool false,.slice H9 0 hc9,.slice none 0 0,.slice T9 0 tc9,.int .i64 nx,.int .u64 0] KG hb
    obtain⟨hz,KQ,KN,KX,KM,HR2,HA2,HP9,HD9,HB⟩:=o9 ho KQ KN KX KM HR2 HA2 HP9 HD9 HB
    replace KG:=kG
    clear kG
    go_wp2_with fail
    refine(srv_dones_over k g (.slice V9 vn9 vc9) (.int .i64 (r9)) (.int .i64 (-1)) (.bool false) (.int .i64 1) (.int .i64 1) (.int .i64 0) (.slice D9 dn9 dc9) (.slice K9 1 kc9) (.bool false) (.slice H9 0 hc9) (.slice none 0 0) (.slice T9 0 tc9) (.int .i64 nx) (.int .u64 0) b _ _ _ _ _ _ snx (⟨s+1,true,⟨#[]⟩,1⟩:Sn) ⟨0,⟨#[]⟩,false,none,0,0,true⟩ _ _ _ [] r _ KG.out HR2.out rfl HD9.out rfl (Rs.nil _ _ _) (by decide) HFR.out HRS.out).mono ?_
    rintro e w13 ⟨A13,n13,c13,M,cap,rfl,hb,hk,hR,hM⟩
    have HXY:=h_ (And.intro hk hM)
    have HA13:=h_ (Rs.only HP9.out hb KG.out (by decide))
    have HB13:=h_ (Only.trans HB.out hb)
    clear hk hR hM hb
    go_wp2
    go_end0
    exact⟨_,_,_,_,_,_,_,_,_,_,_,_,_,_,_,_,_,_,_,M,cap,rfl,HB13.out,HXY.out.1,HA13.out,HXY.out.2⟩
structure Sv where
 (V D K H T L A:Option Addr)
 (vn vc dn dc kn kc hn hc tn tc ln lc an ac:Nat)
 (room nx snx:Int)
def ReqV (g:Nat)(B:Option Addr)(bn bc:Nat)(P:Sv→ByteArray→World→Prop)(w:World)(en:Ending)(w':World):Prop:=∃s M cap r,en= .returned (.tuple #[])∧Only g w w'∧w'.heap[g]? =some (.cells #[.slice s.V s.vn s.vc,.int .i64 (s.room),.int .i64 (-1),.bool false,.int .i64 1,.int .i64 1,.int .i64 0,.slice s.D s.dn s.dc,.slice s.K s.kn s.kc,.bool false,.slice s.H s.hn s.hc,.slice none 0 0,.slice s.T s.tn s.tc,.int .i64 s.nx,.int .u64 0,.int .i64 1,.slice s.L s.ln s.lc,.slice s.A s.an s.ac,.int .i64 (s.snx),.int .u64 0,.slice B bn bc,.slice (some ⟨M,0,none⟩) 1 cap] 81 (0,0))∧P s r w'∧Rs tyMl 73 w' (.slice (some ⟨M,0,none⟩) 1 cap) [⟨Wire.textW r⟩]
def DelV (P:Sv→ByteArray→World→Prop)(w:World)(en:Ending)(w':World):Prop:=∃s B bn bc M cap r,en= .returned (.tuple #[.agg #[.slice s.V s.vn s.vc,.int .i64 (s.room),.int .i64 (-1),.bool false,.int .i64 1,.int .i64 1,.int .i64 0,.slice s.D s.dn s.dc,.slice s.K s.kn s.kc,.bool false,.slice s.H s.hn s.hc,.slice none 0 0,.slice s.T s.tn s.tc,.int .i64 s.nx,.int .u64 0,.int .i64 1,.slice s.L s.ln s.lc,.slice s.A s.an s.ac,.int .i64 (s.snx),.int .u64 0,.slice B bn bc],.slice (some ⟨M,0,none⟩) 1 cap])∧Below w.heap.size w w'∧P s r w'∧Rs tyMl 73 w' (.slice (some ⟨M,0,none⟩) 1 cap) [⟨Wire.textW r⟩]∧Rs tyBf 83 w' (.slice B bn bc) [⟨⟨#[]⟩,false⟩]
theorem wpList_run {P:Program}{ops:Array Oper}{rest:List Oper}{op:Oper}{a:Act}{w w2:World}{Q:Exit→Act→World→Prop}{v:Value}(hgd:op.guard=none)(hr:(execOp a.eval op).run P w= .ok (.value v) w2)(h:wpList P ops Q rest (a.put op.dst v) w2):wpList P ops Q (op :: rest) a w:=
 wpList_plain hgd fun K hK=>by
  unfold Oper.wp
  rw[hr]
  exact hK _ _ h
theorem exec_build {P:Program}{ρ:Operand→Value}{o:Oper}{t:TypeId}{parts:Array (Nat×Operand)}{ps:Array (Nat×Value)}{v:Value}{w:World}(ho:o.op= .build t parts)(h:(Instr.build t ps).run P w= .ok v w)(hp:(parts.map fun(i,x)=>(i,ρ x))=ps):(execOp ρ o).run P w= .ok (.value v) w:=by
 unfold execOp
 simp only[ho,hp,Sem.run_bind,h,Sem.run_pure,Result.andThen_ok]
theorem build_work (u0 u1 u2 u3 u4 u5 u6 u7 u8 u9 u10 u11 u12 u13 u14 u15 u16 u17 u18 u19 u20:Value)(w:World):(Instr.build 81 #[(0,.agg #[u0,u1,u2,u3,u4,u5,u6,u7,u8,u9,u10,u11,u12,u13,u14,u15,u16,u17,u18,u19,u20])]).run Tryz.prog w= .ok (.agg #[u0,u1,u2,u3,u4,u5,u6,u7,u8,u9,u10,u11,u12,u13,u14,u15,u16,u17,u18,u19,u20,.slice none 0 0]) w:=run_build w _ _ _ (by kernel_rfl)
theorem srv_request1 (g:Nat)(s:Sv)(B:Option Addr)(bn bc:Nat)(ep se sq ok mo:Int)(tk key vl lo hi x:ByteArray)(P:Sv→ByteArray→World→Prop)(w:World)(hg:w.heap[g]? =some (.cells #[.slice s.V s.vn s.vc,.int .i64 (s.room),.int .i64 (-1),.bool false,.int .i64 1,.int .i64 1,.int .i64 0,.slice s.D s.dn s.dc,.slice s.K s.kn s.kc,.bool false,.slice s.H s.hn s.hc,.slice none 0 0,.slice s.T s.tn s.tc,.int .i64 s.nx,.int .u64 0,.int .i64 1,.slice s.L s.ln s.lc,.slice s.A s.an s.ac,.int .i64 (s.snx),.int .u64 0,.slice B bn bc,.slice none 0 0] 81 (0,0)))(hh:Reader.Handle w)(hx:takeReqF x=(1,ep,se,sq,tk,ok,key,vl,lo,hi,mo,0))
  (hcall:∀W:World,W.heap[g]? =some (.cells #[.slice s.V s.vn s.vc,.int .i64 (s.room),.int .i64 (-1),.bool false,.int .i64 1,.int .i64 1,.int .i64 0,.slice s.D s.dn s.dc,.slice s.K s.kn s.kc,.bool false,.slice s.H s.hn s.hc,.slice none 0 0,.slice s.T s.tn s.tc,.int .i64 s.nx,.int .u64 0,.int .i64 1,.slice s.L s.ln s.lc,.slice s.A s.an s.ac,.int .i64 (s.snx),.int .u64 0,.slice B bn bc,.slice none 0 0] 81 (0,0))→Below w.heap.size w W→Calls Tryz.prog 33 #[.pointer (some ⟨g,0,none⟩),.int .i64 0,.agg #[.int .i64 1,.int .i64 ep,.int .i64 se,.int .i64 sq,.string tk,.int .i64 ok,.string key,.string vl,.string lo,.string hi,.int .i64 mo]] W (ReqV g B bn bc P W)):
  Calls Tryz.prog 17 #[.pointer (some ⟨g,0,none⟩),.int .i64 0,.string x] w (ReqV g B bn bc P w):=by
 have HC:=h_ hcall
 have HX:=h_ hx
 have HH:=h_ hh
 clear hcall hx hh
 have HB:Hid (Below w.heap.size w w):=h_ (Below.refl _ _)
 have KG:=h_ hg
 clear hg
 go_enter Tryz.func17,Tryz.ntmps17
 go_wp2_with fail
 refine(wire_TakeReq.calls x 1 ep se sq tk ok key vl lo hi mo 0 _ (congrArg some HX.out) HH.out).mono ?_
 rintro e w1 ⟨rfl,hb⟩
 obtain⟨hz,KG,HB⟩:=m2 hb KG HB
 go_upto_region 1 with(fail)
 refine nm fun w2 hb=>?_
 obtain⟨hz,_,hb,KQ⟩:=na1 hb
 obtain⟨hz,KG,HB⟩:=m2 hb KG HB
 have CQ:=cells11 KQ.out
 go_wp2_with fail
 refine(HC.out _ KG.out HB.out).mono ?_
 rintro e w3 ⟨s1,M,cap,r,rfl,hb,hk,hp,hm⟩
 have HK:=h_ hk
 have HP:=h_ hp
 have HM:=h_ hm
 have HO:=h_ (Only.trans (Only.of_below HB.out) hb)
 clear hk hp hm hb
 go_wp2
 go_end0
 exact⟨s1,M,cap,r,rfl,HO.out,HK.out,HP.out,HM.out⟩
theorem srv_request4 (g:Nat)(s:Sv)(B:Option Addr)(bn bc:Nat)(ep se sq ok mo:Int)(tk key vl lo hi x:ByteArray)(P:Sv→ByteArray→World→Prop)(w:World)(hg:w.heap[g]? =some (.cells #[.slice s.V s.vn s.vc,.int .i64 (s.room),.int .i64 (-1),.bool false,.int .i64 1,.int .i64 1,.int .i64 0,.slice s.D s.dn s.dc,.slice s.K s.kn s.kc,.bool false,.slice s.H s.hn s.hc,.slice none 0 0,.slice s.T s.tn s.tc,.int .i64 s.nx,.int .u64 0,.int .i64 1,.slice s.L s.ln s.lc,.slice s.A s.an s.ac,.int .i64 (s.snx),.int .u64 0,.slice B bn bc,.slice none 0 0] 81 (0,0)))(hh:Reader.Handle w)(hx:takeReqF x=(4,ep,se,sq,tk,ok,key,vl,lo,hi,mo,0))
  (hcall:∀W:World,W.heap[g]? =some (.cells #[.slice s.V s.vn s.vc,.int .i64 (s.room),.int .i64 (-1),.bool false,.int .i64 1,.int .i64 1,.int .i64 0,.slice s.D s.dn s.dc,.slice s.K s.kn s.kc,.bool false,.slice s.H s.hn s.hc,.slice none 0 0,.slice s.T s.tn s.tc,.int .i64 s.nx,.int .u64 0,.int .i64 1,.slice s.L s.ln s.lc,.slice s.A s.an s.ac,.int .i64 (s.snx),.int .u64 0,.slice B bn bc,.slice none 0 0] 81 (0,0))→Below w.heap.size w W→Calls Tryz.prog 35 #[.pointer (some ⟨g,0,none⟩),.int .i64 0,.agg #[.int .i64 4,.int .i64 ep,.int .i64 se,.int .i64 sq,.string tk,.int .i64 ok,.string key,.string vl,.string lo,.string hi,.int .i64 mo]] W (ReqV g B bn bc P W)):
  Calls Tryz.prog 17 #[.pointer (some ⟨g,0,none⟩),.int .i64 0,.string x] w (ReqV g B bn bc P w):=by
 have HC:=h_ hcall
 have HX:=h_ hx
 have HH:=h_ hh
 clear hcall hx hh
 have HB:Hid (Below w.heap.size w w):=h_ (Below.refl _ _)
 have KG:=h_ hg
 clear hg
 go_enter Tryz.func17,Tryz.ntmps17
 go_wp2_with fail
 refine(wire_TakeReq.calls x 4 ep se sq tk ok key vl lo hi mo 0 _ (congrArg some HX.out) HH.out).mono ?_
 rintro e w1 ⟨rfl,hb⟩
 obtain⟨hz,KG,HB⟩:=m2 hb KG HB
 go_upto_region 1 with(fail)
 refine nm fun w2 hb=>?_
 obtain⟨hz,_,hb,KQ⟩:=na1 hb
 obtain⟨hz,KG,HB⟩:=m2 hb KG HB
 have CQ:=cells11 KQ.out
 go_wp2_with fail
 refine(HC.out _ KG.out HB.out).mono ?_
 rintro e w3 ⟨s1,M,cap,r,rfl,hb,hk,hp,hm⟩
 have HK:=h_ hk
 have HP:=h_ hp
 have HM:=h_ hm
 have HO:=h_ (Only.trans (Only.of_below HB.out) hb)
 clear hk hp hm hb
 go_wp2
 go_end0
 exact⟨s1,M,cap,r,rfl,HO.out,HK.out,HP.out,HM.out⟩
theorem srv_request5 (g:Nat)(s:Sv)(B:Option Addr)(bn bc:Nat)(ep se sq ok mo:Int)(tk key vl lo hi x:ByteArray)(P:Sv→ByteArray→World→Prop)(w:World)(hg:w.heap[g]? =some (.cells #[.slice s.V s.vn s.vc,.int .i64 (s.room),.int .i64 (-1),.bool false,.int .i64 1,.int .i64 1,.int .i64 0,.slice s.D s.dn s.dc,.slice s.K s.kn s.kc,.bool false,.slice s.H s.hn s.hc,.slice none 0 0,.slice s.T s.tn s.tc,.int .i64 s.nx,.int .u64 0,.int .i64 1,.slice s.L s.ln s.lc,.slice s.A s.an s.ac,.int .i64 (s.snx),.int .u64 0,.slice B bn bc,.slice none 0 0] 81 (0,0)))(hh:Reader.Handle w)(hx:takeReqF x=(5,ep,se,sq,tk,ok,key,vl,lo,hi,mo,0))
  (hcall:∀W:World,W.heap[g]? =some (.cells #[.slice s.V s.vn s.vc,.int .i64 (s.room),.int .i64 (-1),.bool false,.int .i64 1,.int .i64 1,.int .i64 0,.slice s.D s.dn s.dc,.slice s.K s.kn s.kc,.bool false,.slice s.H s.hn s.hc,.slice none 0 0,.slice s.T s.tn s.tc,.int .i64 s.nx,.int .u64 0,.int .i64 1,.slice s.L s.ln s.lc,.slice s.A s.an s.ac,.int .i64 (s.snx),.int .u64 0,.slice B bn bc,.slice none 0 0] 81 (0,0))→Below w.heap.size w W→Calls Tryz.prog 35 #[.pointer (some ⟨g,0,none⟩),.int .i64 0,.agg #[.int .i64 5,.int .i64 ep,.int .i64 se,.int .i64 sq,.string tk,.int .i64 ok,.string key,.string vl,.string lo,.string hi,.int .i64 mo]] W (ReqV g B bn bc P W)):
  Calls Tryz.prog 17 #[.pointer (some ⟨g,0,none⟩),.int .i64 0,.string x] w (ReqV g B bn bc P w):=by
 have HC:=h_ hcall
 have HX:=h_ hx
 have HH:=h_ hh
 clear hcall hx hh
 have HB:Hid (Below w.heap.size w w):=h_ (Below.refl _ _)
 have KG:=h_ hg
 clear hg
 go_enter Tryz.func17,Tryz.ntmps17
 go_wp2_with fail
 refine(wire_TakeReq.calls x 5 ep se sq tk ok key vl lo hi mo 0 _ (congrArg some HX.out) HH.out).mono ?_
 rintro e w1 ⟨rfl,hb⟩
 obtain⟨hz,KG,HB⟩:=m2 hb KG HB
 go_upto_region 1 with(fail)
 refine nm fun w2 hb=>?_
 obtain⟨hz,_,hb,KQ⟩:=na1 hb
 obtain⟨hz,KG,HB⟩:=m2 hb KG HB
 have CQ:=cells11 KQ.out
 go_wp2_with fail
 refine(HC.out _ KG.out HB.out).mono ?_
 rintro e w3 ⟨s1,M,cap,r,rfl,hb,hk,hp,hm⟩
 have HK:=h_ hk
 have HP:=h_ hp
 have HM:=h_ hm
 have HO:=h_ (Only.trans (Only.of_below HB.out) hb)
 clear hk hp hm hb
 go_wp2
 go_end0
 exact⟨s1,M,cap,r,rfl,HO.out,HK.out,HP.out,HM.out⟩
theorem srv_deliver (s:Sv)(B:Option Addr)(bn bc:Nat)(x:ByteArray)(P:Sv→ByteArray→World→Prop)(w:World)(hB:Rs tyBf 83 w (.slice B bn bc) [⟨⟨#[]⟩,false⟩])(hx:x.size≤2048)
  (hcall:∀(W:World) (g:Nat) (B:Option Addr) (bn bc:Nat),W.heap[g]? =some (.cells #[.slice s.V s.vn s.vc,.int .i64 (s.room),.int .i64 (-1),.bool false,.int .i64 1,.int .i64 1,.int .i64 0,.slice s.D s.dn s.dc,.slice s.K s.kn s.kc,.bool false,.slice s.H s.hn s.hc,.slice none 0 0,.slice s.T s.tn s.tc,.int .i64 s.nx,.int .u64 0,.int .i64 1,.slice s.L s.ln s.lc,.slice s.A s.an s.ac,.int .i64 (s.snx),.int .u64 0,.slice B bn bc,.slice none 0 0] 81 (0,0))→w.heap.size≤g→Below w.heap.size w W→Calls Tryz.prog 17 #[.pointer (some ⟨g,0,none⟩),.int .i64 0,.string x] W (ReqV g B bn bc P W))
  (hkeep:∀(s:Sv) (r:ByteArray) (W W':World) (q:Nat) (cs:Array Value),P s r W→Only q W W'→W.heap[q]? =some (.cells cs 50 (0,0))→P s r W'):
  Calls Tryz.prog 7 #[.agg #[.slice s.V s.vn s.vc,.int .i64 (s.room),.int .i64 (-1),.bool false,.int .i64 1,.int .i64 1,.int .i64 0,.slice s.D s.dn s.dc,.slice s.K s.kn s.kc,.bool false,.slice s.H s.hn s.hc,.slice none 0 0,.slice s.T s.tn s.tc,.int .i64 s.nx,.int .u64 0,.int .i64 1,.slice s.L s.ln s.lc,.slice s.A s.an s.ac,.int .i64 (s.snx),.int .u64 0,.slice B bn bc],.int .i64 0,.string (Wire.textW x)] w (DelV P w):=by
 have HC:=h_ hcall
 have HKP:=h_ hkeep
 clear hcall hkeep
 obtain⟨rfl,b0,rfl,hb0⟩:=Rs.head1 hB
 obtain⟨x0,x1⟩:=el0_Bf hB ⟨⟨#[]⟩,false⟩ rfl
 have nb0:=Nat.ne_of_lt hb0
 have HB:Hid (Below w.heap.size w w):=h_ (Below.refl _ _)
 have HR:=h_ hB
 go_enter Tryz.func7,Tryz.ntmps7
 go_upto_region 3 with(fail)
 refine nm fun w0a hb=>?_
 obtain⟨hz,_,hb,KD,KQ⟩:=na2 hb
 obtain⟨hz,HB⟩:=m1 hb HB
 refine wp_region_lit ?_
 refine wpList_load_mid (by rfl) 50 _ (by rfl) w.heap.size 0 (by rfl) [.slice s.V s.vn s.vc,.int .i64 (s.room),.int .i64 (-1),.bool false,.int .i64 1,.int .i64 1,.int .i64 0,.slice s.D s.dn s.dc,.slice s.K s.kn s.kc,.bool false,.slice s.H s.hn s.hc,.slice none 0 0,.slice s.T s.tn s.tc,.int .i64 s.nx,.int .u64 0,.int .i64 1,.slice s.L s.ln s.lc,.slice s.A s.an s.ac,.int .i64 (s.snx),.int .u64 0,.slice (some ⟨b0,0,none⟩) 1 bc] _ (range_blk KD.out) Tryz.underlying50 (by rfl) (by kernel_rfl) ?_
 refine wpList_run rfl (exec_build rfl (build_work (.slice s.V s.vn s.vc) (.int .i64 (s.room)) (.int .i64 (-1)) (.bool false) (.int .i64 1) (.int .i64 1) (.int .i64 0) (.slice s.D s.dn s.dc) (.slice s.K s.kn s.kc) (.bool false) (.slice s.H s.hn s.hc) (.slice none 0 0) (.slice s.T s.tn s.tc) (.int .i64 s.nx) (.int .u64 0) (.int .i64 1) (.slice s.L s.ln s.lc) (.slice s.A s.an s.ac) (.int .i64 (s.snx)) (.int .u64 0) (.slice (some ⟨b0,0,none⟩) 1 bc) _) (by kernel_rfl)) ?_
 try simp only[Act.put,lay]
 go_upto_region 4 with(fail)
 refine nm fun w1 hb=>?_
 obtain⟨hz,_,hb,KG⟩:=na1 hb
 obtain⟨hz,KD,KQ,HB⟩:=m3 hb KD KQ HB
 have CD:=cells21 KD.out
 clear x0 x1 hB
 obtain⟨x0,x1⟩:=el0_Bf (Rs.below HR.out HB.out) ⟨⟨#[]⟩,false⟩ rfl
 go_wp2_with fail
 refine(Fr.feed_one x _ hx).mono ?_
 rintro e w2 ⟨lb,lc,lcur,rfl,hl,hl0,hlb,hb⟩
 have HL0:=h_ hl0
 have HL:=h_ hl
 clear x0 x1 hl hl0
 clear CD
 obtain⟨hz,KD,KQ,KG,HB⟩:=m4 hb KD KQ KG HB
 have CD:=cells21 KD.out
 obtain⟨KS,Slt,Sne,Sen⟩:=hid_mv HL.out
 clear HL
 go_upto_region 5 with(fail)
 refine nm fun w3 hb=>?_
 clear CD
 obtain⟨hz,_,hb,KF⟩:=na1 hb
 obtain⟨hz,KD,KQ,KG,KS,HB⟩:=m5 hb KD KQ KG KS HB
 have CD:=cells21 KD.out
 have CG:=cells22 KG.out
 go_wp2_with fail
 refine(clone_Bf _ [⟨⟨#[]⟩,false⟩] _ (Rs.below HR.out HB.out) (by simp)).mono ?_
 rintro e w4 ⟨v2,rfl,hown,hb⟩
 obtain⟨q,cap,cur,rfl,hcap,hq0,hq,hqs,hqc⟩:=own_form hown (Nat.succ_pos 0)
 have HQC:=h_ hqc
 have HQ:=h_ hq
 clear hown hqc hq
 clear CD CG
 obtain⟨hz,KD,KQ,KG,KS,KF,HB⟩:=m6 hb KD KQ KG KS KF HB
 have CG:=cells22 KG.out
 have hqs':2≤cur.size:=by rw[hqs];exact Nat.le_trans (by decide:2≤1*2) (Nat.mul_le_mul_right _ hcap)
 obtain⟨KC,Clt,Cne,Cen⟩:=hid_mv HQ.out
 clear HQ
 have hqg:w0a.heap.size≠q:=by omega
 go_upto_region 6 with(fail)
 refine nm fun w5 hb=>?_
 clear CG
 obtain⟨ho,kG⟩:=ps KG hb
 obtain⟨hz,KD,KQ,KS,KF,KC,HB⟩:=o6 ho KD KQ KS KF KC HB
 replace KG:=kG
 clear kG
 refine rg2 KG KF fun u1 hb hHeld=>?_
 obtain⟨hz,KD,KQ,KG,KS,KF,KC,HB⟩:=m7 hb KD KQ KG KS KF KC HB
 refine t_ 0 ?_
 refine t_ 1 ?_
 refine t_ 2 ?_
 refine t_ 3 ?_
 refine tq 4 (fun _ k=>bq k.1 20) ?_
 refine t_ 5 ?_
 refine tl 6 0 2 (fun _ k=>k.2) Tryz.underlying83 ?_
 refine t_ 7 ?_
 refine rd 8 fun K hK=>?_
 rw[if_pos (by rfl)]
 refine wp_store_mid 83 _ _ rfl q 0 #[.string ⟨#[]⟩,.bool false] rfl rfl (there_at KC.out 0 2 (by omega)) (by kernel_rfl) (by first|kernel_rfl|simp[Value.oneCell']) ?_
 rw[put_cells]
 have HT:=h_ (own_put (T:=tyBf) (l:= [⟨⟨#[]⟩,false⟩]) 0 ⟨⟨#[]⟩,false⟩ (Nat.succ_pos 0) hcap KC.out hqs HQC.out)
 refine bk hK ⟨(blk_puts_far KG.out (q) (by omega) 0 [.string ⟨#[]⟩,.bool false]),(blk_puts_far KF.out (q) (by omega) 0 [.string ⟨#[]⟩,.bool false])⟩ fun hHeld=>?_
 refine d_ ?_
 go_upto_region 7 with(fail)
 refine nm fun w6 hb=>?_
 have hz:=(hb).size
 replace KD:=h_ (bb (blk_puts_far KD.out (q) (by omega) 0 [.string ⟨#[]⟩,.bool false]) hb)
 replace KQ:=h_ (bb (blk_puts_far KQ.out (q) (by omega) 0 [.string ⟨#[]⟩,.bool false]) hb)
 replace KG:=h_ (bb (blk_puts_far KG.out (q) (by omega) 0 [.string ⟨#[]⟩,.bool false]) hb)
 replace KS:=h_ (bb (blk_puts_far KS.out (q) (by omega) 0 [.string ⟨#[]⟩,.bool false]) hb)
 replace KF:=h_ (bb (blk_puts_far KF.out (q) (by omega) 0 [.string ⟨#[]⟩,.bool false]) hb)
 replace HT:=h_ (Rs.below HT.out hb)
 replace HB:=h_ (below_call (below_puts HB.out (q) (by omega) 0 [.string ⟨#[]⟩,.bool false]) hb)
 have hs7_:=HB.out.size
 clear hb
 go_wp2
 refine wp_loop_rounds 2 ?_
 rw[rounds_succ]
 have y0:=(bq KS.out 0).trans HL0.out
 go_wp2_with fail
 clear y0
 refine(HC.out _ _ _ _ _ KG.out (by omega) HB.out).mono ?_
 rintro e w7 ⟨s1,M,mc,r,rfl,hb,hk,hp,hm⟩
 have HP:=h_ hp
 have HM:=h_ hm
 clear hp hm
 obtain⟨hz,KD,KQ,KS,KF,HT,HB⟩:=o6 hb KD KQ KS KF HT HB
 replace KG:=h_ hk
 clear hk
 go_wp2
 rw[rounds_succ]
 have HP_:=HP
 clear HP
 have HP:=HP_
 clear HP_
 go_upto_region 14 with(fail)
 refine nm fun w8 hb=>?_
 replace HP:Hid (P s1 r w8):=h_ (HKP.out _ _ _ _ _ _ HP.out (Only.of_below hb) KQ.out)
 obtain⟨hz,KD,KQ,KG,KS,KF,HT,HM,HB⟩:=m8 hb KD KQ KG KS KF HT HM HB
 refine rg1 KG fun u2 hb hHeld=>?_
 replace HP:Hid (P s1 r u2):=h_ (HKP.out _ _ _ _ _ _ HP.out (Only.of_below hb) KQ.out)
 obtain⟨hz,KD,KQ,KG,KS,KF,HT,HM,HB⟩:=m8 hb KD KQ KG KS KF HT HM HB
 refine t_ 0 ?_
 refine t_ 1 ?_
 refine t_ 2 ?_
 refine tl 3 0 21 (fun _ k=>k) Tryz.underlying50 ?_
 refine t_ 4 ?_
 refine t_ 5 ?_
 refine t_ 6 ?_
 refine tq 7 (fun _ k=>bq k 21) ?_
 refine rd 8 fun K hK=>?_
 refine sm 0 [.slice s1.V s1.vn s1.vc,.int .i64 (s1.room),.int .i64 (-1),.bool false,.int .i64 1,.int .i64 1,.int .i64 0,.slice s1.D s1.dn s1.dc,.slice s1.K s1.kn s1.kc,.bool false,.slice s1.H s1.hn s1.hc,.slice none 0 0,.slice s1.T s1.tn s1.tc,.int .i64 s1.nx,.int .u64 0,.int .i64 1,.slice s1.L s1.ln s1.lc,.slice s1.A s1.an s1.ac,.int .i64 (s1.snx),.int .u64 0,.slice (some ⟨q,0,none⟩) 1 cap] KQ fun u3 ho kQ=>?_
 replace HP:Hid (P s1 r u3):=h_ (HKP.out _ _ _ _ _ _ HP.out ho KQ.out)
 obtain⟨hz,KD,KG,KS,KF,HT,HM,HB⟩:=o7 ho KD KG KS KF HT HM HB
 replace KQ:=kQ
 clear kQ
 refine bk hK KG.out fun hHeld=>?_
 refine t_ 9 ?_
 refine d_ ?_
 have HPZ:=HP
 go_wp2
 skip
 refine bodyPost_ret (res_cell_tmp (cs:=#[.slice s1.V s1.vn s1.vc,.int .i64 (s1.room),.int .i64 (-1),.bool false,.int .i64 1,.int .i64 1,.int .i64 0,.slice s1.D s1.dn s1.dc,.slice s1.K s1.kn s1.kc,.bool false,.slice s1.H s1.hn s1.hc,.slice none 0 0,.slice s1.T s1.tn s1.tc,.int .i64 s1.nx,.int .u64 0,.int .i64 1,.slice s1.L s1.ln s1.lc,.slice s1.A s1.an s1.ac,.int .i64 (s1.snx),.int .u64 0,.slice (some ⟨q,0,none⟩) 1 cap]) Tryz.results7 rfl KQ.out Tryz.underlying50 rfl (by kernel_rfl)) rfl ⟨_,_,_,_,M,mc,r,rfl,?_,HPZ.out,?_,?_⟩
 ·exact HB.out
 ·exact HM.out
 ·exact HT.out
end Go.Proofs.YtmgmdiekpmffbaaGreatDoor.Top
namespace Go.Proofs.YtmgmdiekpmffbaaGreatDoor.Top
open Go Go.RowKit Go.Proofs.YtmgmdiekpmffbaaGreatDoor.Enc Go.Proofs.YtmgmdiekpmffbaaGreatDoor.QWi Go.Proofs.YtmgmdiekpmffbaaGreatDoorW.PrintWords
theorem less_total {a b:List UInt8}(h:Op.bytesLess a b=false)(h2:(b==a)=false):Op.bytesLess b a=true:=by
 rw[bl_lt] at h⊢
 have h1:¬a<b:=by simpa using h
 have h3:¬b=a:=by simpa using h2
 have:b<a:=by grind
 simpa using this
theorem less_trans {a b c:List UInt8}(h:Op.bytesLess a b=true)(h2:Op.bytesLess b c=true):Op.bytesLess a c=true:=by
 rw[bl_lt] at h h2⊢
 have h1:a<b:=by simpa using h
 have h3:b<c:=by simpa using h2
 have:a<c:=by grind
 simpa using this
theorem set_same (l:List Wr)(i:Nat)(hi:i<l.length)(x:Wr)(h:x.key.toList=l[i].key.toList):(l.set i x).map (fun y:Wr=>y.key.toList)=l.map (fun y:Wr=>y.key.toList):=by
 rw[List.map_set,h]
 apply List.ext_getElem
 ·simp
 ·intro j h1 h2
  rw[List.getElem_set]
  split
  ·subst_vars
   simp
  ·rfl
theorem rises_keys (l:List Wr):Rises l↔(l.map (fun y:Wr=>y.key.toList)).Pairwise (fun a b=>Op.bytesLess a b=true):=by
 unfold Rises
 rw[List.pairwise_map]
theorem setR_mem {l l':List Wr}{x:Wr}(h:SetR l x l'):∀y∈l',y=x∨y∈l:=by
 intro y hy
 rcases h with⟨i,hi,_,rfl⟩|⟨_,⟨_,rfl⟩|⟨i,hi,_,_,rfl⟩⟩
 ·rcases List.mem_or_eq_of_mem_set hy with h|h
  ·exact .inr h
  ·exact .inl h
 ·rcases List.mem_append.1 hy with h|h
  ·exact .inr h
  ·exact .inl (List.mem_singleton.1 h)
 ·rcases List.mem_append.1 hy with h|h
  ·exact .inr (List.mem_of_mem_take h)
  ·rcases List.mem_cons.1 h with h|h
   ·exact .inl h
   ·exact .inr (List.mem_of_mem_drop h)
theorem setR_rises {l l':List Wr}{x:Wr}(h:SetR l x l')(hr:Rises l):Rises l':=by
 rcases h with⟨i,hi,hq,rfl⟩|⟨hn,⟨ha,rfl⟩|⟨i,hi,h1,h2,rfl⟩⟩
 ·rw [rises_keys,set_same l i hi x (by unfold sq at hq;exact(beq_iff_eq.1 hq).symm),←rises_keys]
  exact hr
 ·refine List.pairwise_append.2 ⟨hr,List.pairwise_singleton _ _,fun a ha' b hb=>?_⟩
  rw[List.mem_singleton.1 hb]
  exact less_total (ha a ha') (hn a ha')
 ·have hd:∀b∈l.drop i,Op.bytesLess x.key.toList b.key.toList=true:=fun b hb=>by
   obtain⟨j,hj,rfl⟩:=List.getElem_of_mem hb
   rw[List.length_drop] at hj
   rw[List.getElem_drop]
   rcases Nat.eq_zero_or_pos j with rfl|h0
   ·exact h1
   ·exact less_trans h1 (List.pairwise_iff_getElem.1 hr i (i+j) hi (by omega) (by omega))
  have ht:∀a∈l.take i,Op.bytesLess a.key.toList x.key.toList=true:=fun a ha=>by
   obtain⟨j,hj,rfl⟩:=List.getElem_of_mem ha
   rw[List.length_take] at hj
   rw[List.getElem_take]
   exact less_total (h2 j (by omega)) (hn _ (List.getElem_mem _))
  refine List.pairwise_append.2 ⟨List.Pairwise.sublist (List.take_sublist _ _) hr,List.pairwise_cons.2 ⟨hd,List.Pairwise.sublist (List.drop_sublist _ _) hr⟩,fun a ha b hb=>?_⟩
  rcases List.mem_cons.1 hb with rfl|hb
  ·exact ht a ha
  ·exact less_trans (ht a ha) (hd b hb)
def Good (l:List Wr):Prop:=Rises l∧(∀x∈l,okW x)∧l.length≤24∧sizeW l≤512
theorem good_nil:Good []:=⟨List.Pairwise.nil,fun x hx=>(by cases hx),by decide,by decide⟩
def AnyR (t:Tx)(y:Tx)(d:Dn)(l':List Wr)(p:List Pr):Prop:=
 y.token=t.token∧d.ov=false∧(d.er=0∨d.er=1∨d.er=4)∧d.v.size≤64∧Good l'∧p.length≤16∧rightFrom (p.map toS)=true∧(p.map toS).any longP=false
theorem any_no {t y:Tx}{l l':List Wr}{d:Dn}{p:List Pr}(hg:Good l)(h:NoR t l y d l' p):AnyR t y d l' p:=by
 obtain⟨rfl,rfl,h1,h2,h3,rfl⟩:=h
 exact⟨rfl,h3,.inr (.inl h2),by rw[h1];decide,hg,by decide,rfl,rfl⟩
theorem any_get {t y:Tx}{l l':List Wr}{d:Dn}{p:List Pr}(hg:Good l)(h:GetRR t l y d l' p):AnyR t y d l' p:=by
 obtain⟨rfl,rfl,h1,h2,h3,rfl⟩:=h
 refine⟨rfl,h3,.inl h2,?_,hg,by decide,rfl,rfl⟩
 rcases h1 with h|⟨x,hx,h⟩
 ·rw [h];decide
 ·rw [h];exact(hg.2.1 x hx).2.2.1
theorem any_write {t y:Tx}{l l':List Wr}{x:Wr}{d:Dn}{p:List Pr}(hg:Good l)(hx:okW x)(h:WriteR t l x y d l' p):AnyR t y d l' p:=by
 obtain⟨h0,h1,h2,rfl,⟨h3,rfl⟩|⟨h3,h4,h5,h6⟩⟩:=h
 ·exact⟨h0,h2,.inr (.inr h3),by rw[h1];decide,hg,by decide,rfl,rfl⟩
 ·refine⟨h0,h2,.inl h3,by rw[h1];decide,⟨setR_rises h4 hg.1,fun y hy=>?_,h5,h6⟩,by decide,rfl,rfl⟩
  rcases setR_mem h4 y hy with rfl|h
  ·exact hx
  ·exact hg.2.1 y h
theorem right_pairs:∀(l:List S123),l.Pairwise (fun a b=>a.f0.toList<b.f0.toList)→rightFrom l=true
 | [],_=>rfl
 | [_],_=>rfl
 |p :: q :: l,h=>by
  obtain⟨h1,h2⟩:=List.pairwise_cons.1 h
  have ih:=right_pairs (q :: l) h2
  rw[rightFrom,decide_eq_true (h1 q (List.mem_cons_self ..)),ih]
  rfl
theorem any_scan {t y:Tx}{l l':List Wr}{most:Int}{d:Dn}{p:List Pr}(hg:Good l)(hm:most≤16)(h:ScanRR t l most y d l' p):AnyR t y d l' p:=by
 obtain⟨rfl,rfl,h1,h2,h3,h4,h5⟩:=h
 refine⟨rfl,h3,.inl h2,by rw[h1];decide,hg,by omega,?_,?_⟩
 ·refine right_pairs _ ?_
  rw[List.pairwise_map]
  refine List.Pairwise.sublist h4 ?_
  unfold applied
  rw[List.pairwise_map]
  refine List.Pairwise.imp ?_ (List.Pairwise.filter _ hg.1)
  intro a b hab
  have:decide (a.key.toList<b.key.toList)=true:=by rw[←bl_lt];exact hab
  simpa [toS] using this
 ·rw [List.any_eq_false]
  intro z hz
  obtain⟨q,hq,rfl⟩:=List.mem_map.1 hz
  obtain⟨x,hx,rfl⟩:=applied_mem (h4.subset hq)
  obtain⟨_,k1,k2,_⟩:=hg.2.1 x hx
  unfold longP toS
  simp
  omega
def repOf (s:Int)(d:Dn)(p:List Pr):S65:=⟨1,1,s+1,d.er,d.v,d.fd,p.map toS,d.ov⟩
theorem may_any {t y:Tx}{l':List Wr}{d:Dn}{p:List Pr}{s:Int}(h:AnyR t y d l' p)(h0:0≤s)(h1:s<1000000):mayP (repOf s d p)=true:=by
 obtain⟨_,_,h3,h4,_,h6,h7,h8⟩:=h
 unfold mayP repOf
 rw[mayB_is]
 show decide (mayR 1 1 (s+1) d.er d.v (p.map toS))=true
 exact decide_eq_true ⟨by omega,by omega,by omega,by omega,h4,by rw[List.length_map];exact h6,h7,h8⟩
theorem may_plain (sq:Int)(ov:Bool)(h0:0≤sq)(h1:sq≤1000000):mayP ⟨1,1,sq,0,⟨#[]⟩,false,[],ov⟩=true:=by
 unfold mayP
 rw[mayB_is]
 show decide (mayR 1 1 sq 0 ⟨#[]⟩ [])=true
 exact decide_eq_true ⟨by omega,by omega,by omega,by omega,by decide,by decide,rfl,rfl⟩
theorem reply_of (p:S65)(hm:mayP p=true):wire_Reply.f 18 p.f0 p.f1 p.f2 p.f3 p.f4 p.f5 p.f6 p.f7=some (encP p,0):=reply_f 18 p hm
theorem reply_plain (sq:Int)(ov:Bool)(h0:0≤sq)(h1:sq≤1000000):wire_Reply.f 18 1 1 sq 0 ⟨#[]⟩ false [] ov=some (encP ⟨1,1,sq,0,⟨#[]⟩,false,[],ov⟩,0):=reply_of _ (may_plain sq ov h0 h1)
theorem reply_any {t y:Tx}{l':List Wr}{d:Dn}{p:List Pr}{s:Int}(h:AnyR t y d l' p)(h0:0≤s)(h1:s<1000000):wire_Reply.f 18 1 1 (s+1) d.er d.v d.fd (p.map toS) false=some (encP (repOf s d p),0):=by
 have e:=reply_of _ (may_any h h0 h1)
 unfold repOf at e
 rw[h.2.1] at e
 unfold repOf
 rw[h.2.1]
 exact e
end Go.Proofs.YtmgmdiekpmffbaaGreatDoor.Top
namespace Go.Proofs.YtmgmdiekpmffbaaGreatDoor.Top
open Go Go.RowKit Go.Proofs.YtmgmdiekpmffbaaGreatDoor.QWi Go.Proofs.YtmgmdiekpmffbaaGreatDoorW.PrintWords
section
variable {V KA HA:Option Addr} {vn vc kn kc hn hc:Nat} {room nx:Int} {g:Nat} {R R':Tx→Dn→List Wr→List Pr→Prop} {hl0:List Hd} {w:World} {en:Ending} {w':World}
theorem DoesV.imp (hR:∀y d l m,R y d l m→R' y d l m)(h:DoesV V KA HA vn vc kn kc hn hc room nx g R w en w'):DoesV V KA HA vn vc kn kc hn hc room nx g R' w en w':=by
 obtain⟨T,n,c,y,E,e2,ec,d,l,m,h1,h2,h3,h4,h5,h6,h7,h8⟩:=h
 exact⟨T,n,c,y,E,e2,ec,d,l,m,h1,h2,h3,h4,h5,h6,h7,hR _ _ _ _ h8⟩
theorem LocksV.imp (hR:∀y d l m,R y d l m→R' y d l m)(h:LocksV V KA vn vc kn kc room nx g R hl0 w en w'):LocksV V KA vn vc kn kc room nx g R' hl0 w en w':=by
 obtain⟨A,n,c,hl,h1,h2,h3⟩:=h
 exact⟨A,n,c,hl,h1.imp hR,h2,h3⟩
theorem EAskV.imp (hR:∀y d l m,R y d l m→R' y d l m)(h:EAskV V KA vn vc kn kc room nx R hl0 w en w'):EAskV V KA vn vc kn kc room nx R' hl0 w en w':=by
 obtain⟨A,n,c,hl,T,tn,tc,y,E,e2,ec,d,l,m,h1,h2,h3,h4,h5,h6,h7,h8,h9⟩:=h
 exact⟨A,n,c,hl,T,tn,tc,y,E,e2,ec,d,l,m,h1,h2,h3,h4,h5,h6,h7,h8,hR _ _ _ _ h9⟩
end
theorem may_cases (o:Int)(key vl lo hi:ByteArray)(mo:Int)(h1:1≤o)(h4:o≤4):engine_may.f 2 o key vl lo hi mo=some false∨
  (engine_may.f 2 o key vl lo hi mo=some true∧(o=4→1≤mo∧mo≤16)∧(o≠4→1≤key.size∧key.size≤32)∧(o=2→vl.size≤64)):=by
 by_cases hp:emayP o key vl lo hi mo
 ·refine .inr ⟨congrArg some (decide_eq_true hp),?_⟩
  unfold emayP at hp
  omega
 ·exact .inl (congrArg some (decide_eq_false hp))
theorem wants_some (o:Int)(key vl lo hi:ByteArray)(mo:Int)(hk:key.size≤32):∃m1 lo1 hi1,engine_wants.f o key vl lo hi mo=some (m1,lo1,hi1):=by
 have h:key.size+1≤9223372036854775807:=by omega
 unfold engine_wants.f span_Key.f
 simp only[if_pos h,Option.bind_some]
 split
 ·exact⟨_,_,_,rfl⟩
 ·split
  ·exact⟨_,_,_,rfl⟩
  ·exact⟨_,_,_,rfl⟩
theorem ask_any (V KA HA TA:Option Addr)(vn vc kn kc hn hc tn tc:Nat)(room nx:Int)(t:Tx)(l:List Wr)(hl0:List Hd)(o:Int)(key vl lo hi:ByteArray)(mo:Int)(w:World)(hT:Rs tyTx 237 w (.slice TA tn tc) [t])(hW:Rs tyWr 212 w (.slice t.A t.n t.c) l)(hH:Rs tyHd 351 w (.slice HA hn hc) hl0)(hll:hl0.length≤1000)(hg:Good l)
  (h1:1≤o) (h4:o≤4) (hk:key.size≤32) (hv:vl.size≤64):
  Calls Tryz.prog 77 #[.agg #[.slice V vn vc,.int .i64 (room),.int .i64 (-1),.bool false,.int .i64 1,.int .i64 1,.int .i64 0,.slice none 0 0,.slice KA kn kc,.bool false,.slice HA hn hc,.slice none 0 0,.slice TA tn tc,.int .i64 nx,.int .u64 0],.int .i64 1,.agg #[.int .i64 o,.string key,.string vl,.string lo,.string hi,.int .i64 mo]] w (EAskV V KA vn vc kn kc room nx (AnyR t) hl0 w):=by
 rcases may_cases o key vl lo hi mo h1 h4 with h|⟨h,q1,q2,q3⟩
 ·exact(eng_ask_no V KA HA TA vn vc kn kc hn hc tn tc room nx t l hl0 o key vl lo hi mo w hT hW hH h).mono fun e w' h=>h.imp fun _ _ _ _ h=>any_no hg h
 ·obtain⟨m1,lo1,hi1,hwa⟩:=wants_some o key vl lo hi mo hk
  refine eng_ask_ok V KA HA TA vn vc kn kc hn hc tn tc room nx t l hl0 o key vl lo hi mo w hT hW hH h (by simp;omega) (by simp;omega) (AnyR t) fun g W hgW hT hW hH=>?_
  cases hb:mayB m1 lo1 hi1 with
  |false=>exact(eng_locks_no' V KA HA TA vn vc kn kc hn hc tn tc room nx g t l hl0 o key vl lo hi mo m1 lo1 hi1 W hgW hT hW hH hll hwa hb).mono fun e w' h=>h.imp fun _ _ _ _ h=>any_no hg h
  |true=>
   refine eng_locks_ok V KA HA TA vn vc kn kc hn hc tn tc room nx g t l hl0 o key vl lo hi mo m1 lo1 hi1 W hgW hT hW hH hll hwa hb (AnyR t) fun A n c W hgW hT hW=>?_
   have hll2:l.length≤1000:=Nat.le_trans hg.2.2.1 (by decide)
   have ho:o=1∨o=2∨o=3∨o=4:=by omega
   rcases ho with rfl|rfl|rfl|rfl
   ·exact(eng_does_get V KA A TA vn vc kn kc n c tn tc room nx g t l key vl lo hi mo W hgW hT hW hll2).mono fun e w' h=>h.imp fun _ _ _ _ h=>any_get hg h
   ·obtain⟨k1,k2⟩:=q2 (by decide)
    exact(eng_does_put V KA A TA vn vc kn kc n c tn tc room nx g t l key vl lo hi mo W hgW hT hW hll2 (h_ hg.2.2.2) k2 hv).mono fun e w' h=>h.imp fun _ _ _ _ h=>any_write hg ⟨k1,k2,hv,fun h=>by cases h⟩ h
   ·obtain⟨k1,k2⟩:=q2 (by decide)
    exact(eng_does_del V KA A TA vn vc kn kc n c tn tc room nx g t l key vl lo hi mo W hgW hT hW hll2 (h_ hg.2.2.2) k2 hv).mono fun e w' h=>h.imp fun _ _ _ _ h=>any_write hg ⟨k1,k2,Nat.zero_le _,fun _=>rfl⟩ h
   ·obtain⟨k1,k2⟩:=q1 rfl
    exact(eng_does_scan V KA A TA vn vc kn kc n c tn tc room nx g t l key vl lo hi mo W hgW hT hW hll2 (h_ hg.1) k1 k2).mono fun e w' h=>h.imp fun _ _ _ _ h=>any_scan hg k2 h
end Go.Proofs.YtmgmdiekpmffbaaGreatDoor.Top
