/- Part of the proof of the statement TopAlone, as a card; what is proved, and on which condition, stands at the head of YtmgmdiekpmffbaaGreatDoorPT20 (texts TopSrv0, TopSrv1, TopSrv2, TopSrv3, TopEng2) -/
import Derived.Test.YtmgmdiekpmffbaaGreatDoorPT4
import Derived.Test.YtmgmdiekpmffbaaGreatDoorPT9
import Derived.Test.YtmgmdiekpmffbaaGreatDoorPT11
import Derived.Test.YtmgmdiekpmffbaaGreatDoorPT12
import Derived.Test.YtmgmdiekpmffbaaGreatDoorPT15
set_option maxHeartbeats 64000000
set_option maxRecDepth 100000
set_option linter.unusedVariables false
set_option linter.unusedSimpArgs false
namespace Go.Proofs.YtmgmdiekpmffbaaGreatDoor.Top
open Go Go.RowKit Go.Proofs.YtmgmdiekpmffbaaGreatDoorW.PrintWords Go.Proofs.YtmgmdiekpmffbaaGreatDoor.QWi
theorem infoMl:(Tryz.prog.info? 73).map (fun i=>(i.zero,i.size,i.bytes))=some (some (.agg #[.int .i64 0,.string ByteArray.empty]),2,24):=by kernel_rfl
theorem frame_wrap (s:ByteArray)(w:World)(h:s.size≤2048):Calls Tryz.prog 36 #[.string s] w fun e w'=>e= .returned (.tuple #[.string (Wire.textW s),.int .i64 0])∧Below w.heap.size w w':=by
 have c1:((2048:Int)<(s.size:Int))=False:=eq_false (by omega)
 have c2:¬(2048:Int)<(s.size:Int):=by omega
 go_enter Tryz.func36,Tryz.ntmps36
 go_wp2_with fail
 refine(Wire.text_calls s _ (by omega)).mono ?_
 rintro e w1 ⟨rfl,hb⟩
 go_wp2
 go_ret2
 exact⟨rfl,hb⟩
def MailV (g:Nat)(cs:Array Value)(s:ByteArray)(w:World)(en:Ending)(w':World):Prop:=∃m cap,en= .returned (.tuple #[])∧Only g w w'∧w'.heap[g]? =some (.cells (cs.setIfInBounds 21 (.slice (some ⟨m,0,none⟩) 1 cap)) 81 (0,0))∧Rs tyMl 73 w' (.slice (some ⟨m,0,none⟩) 1 cap) [⟨Wire.textW s⟩]∧w.heap.size≤m
theorem srv_mail (g:Nat)(cs:Array Value)(s:ByteArray)(w:World)(hg:w.heap[g]? =some (.cells cs 81 (0,0)))(hc:cs[21]? =some (.slice none 0 0))(h:s.size≤2048):
  Calls Tryz.prog 18 #[.pointer (some ⟨g,0,none⟩),.int .i64 0,.string s] w (MailV g cs s w):=by
 have KG:=h_ hg
 have HC:=h_ hc
 clear hg hc
 go_enter Tryz.func18,Tryz.ntmps18
 go_wp2_with fail
 refine(frame_wrap s _ h).mono ?_
 rintro e w1 ⟨rfl,hb⟩
 have kG:=bb KG.out hb
 have hlt:=blk_lt kG
 have ne1:=Nat.ne_of_lt hlt
 have ne2:=(Nat.ne_of_lt hlt).symm
 have G21:w1.cell? ⟨g,21,none⟩=some (.slice none 0 0):=(bq kG 21).trans HC.out
 have Gf:=bz kG 21
 have KG1:=h_ kG
 have HB1:=h_ hb
 clear kG hb KG
 go_wp2_with (at_builtin;refine print_append_cells (w0:=_) _ rfl _ _ 54 73 _ 2 24 rfl Tryz.underlying54 infoMl rfl (by decide) (by decide) (.slice none 0 0) 0 [] (tyMl.enc ⟨Wire.textW s⟩) rfl rfl rfl (tyMl.one _) (World.ownsRow_nil _ _ _ _) (Below.refl _ _) (Nat.le_refl _) ?_ ?_)
 ·decide
 intro v_ w2 hown hb _ _
 obtain⟨m,cap,cur,rfl,_,hm,_,_,_⟩:=own_form hown (Nat.succ_pos 0)
 have HR:=h_ (Rs.of_own (T:=tyMl) (l:= [⟨Wire.textW s⟩]) hown)
 clear hown G21 Gf
 have kG:=bb KG1.out hb
 have hlt2:=blk_lt kG
 have G21:w2.cell? ⟨g,21,none⟩=some (.slice none 0 0):=(bq kG 21).trans HC.out
 have Gf:=bz kG 21
 have KG2:=h_ kG
 have HO:Hid (Only g w w2):=h_ ((Only.of_below HB1.out).then hb)
 have hz:=HB1.out.size
 clear kG hb
 go_wp2
 go_end0
 exact⟨m,cap,rfl,only_set HO.out _ _,blk_set KG2.out 21 _,Rs.set HR.out KG2.out (by decide) _ _,by omega⟩
def toS (p:Pr):S123:=⟨p.key,p.val⟩
theorem rs_kd {w:World}{A:Option Addr}{n c:Nat}{l:List Pr}(h:Rs tyPr 123 w (.slice A n c) l)(hl:l.length≤100000):n=(l.map toS).length∧(l.map toS).length≤c∧Kd.C k123 w A (l.map toS).length (l.map toS):=by
 have hn:n=l.length:=h.len
 have hc:l.length≤c:=by
  obtain⟨A',c',e,hle⟩:=h.slice
  injection e with _ _ e
  omega
 refine⟨by rw[List.length_map];exact hn,by rw[List.length_map];exact hc,rfl,by rw[List.length_map];omega,fun h0=>?_⟩
 rw[List.length_map] at h0
 obtain⟨b,c',e,_,_⟩:=h.cells h0
 injection e with e _ _
 refine⟨⟨b,0,none⟩,e,fun j p hj=>?_⟩
 rw[List.getElem?_map] at hj
 obtain⟨q,hq,rfl⟩:=Option.map_eq_some_iff.1 hj
 have hj':=(List.getElem?_eq_some_iff.1 hq).1
 obtain⟨b',c'',e',_,_,hcell⟩:=h.at_ j hj'
 have eb:b'=b:=by
  rw[e] at e'
  injection e' with e' _ _
  injection e' with e'
  injection e' with e' _ _
  exact e'.symm
 subst eb
 refine⟨tyPr.enc q,rfl,k123_mk w (toS q),fun i u hu=>?_⟩
 rw[add0]
 have:=hcell i u (by rw[←(List.getElem?_eq_some_iff.1 hq).2] at hu;exact hu)
 exact this
theorem srv_bytes (k:Nat)(g:Nat)(a0 se sq er:Int)(v:ByteArray)(fd:Bool)(A:Option Addr)(n c:Nat)(l:List Pr)(ov:Bool)(r:ByteArray)(w:World)(hg:w.cell? ⟨g,15,none⟩=some (.int .i64 1))(hr:Rs tyPr 123 w (.slice A n c) l)(hl:l.length≤100000)(h:wire_Reply.f k 1 se sq er v fd (l.map toS) ov=some (r,0)):
  Calls Tryz.prog 19 #[.pointer (some ⟨g,0,none⟩),.agg #[.int .i64 a0,.int .i64 se,.int .i64 sq,.int .i64 er,.string v,.bool fd,.slice A n c,.bool ov]] w fun e w'=>e= .returned (.string r)∧Below w.heap.size w w':=by
 obtain⟨rfl,hc,hr⟩:=rs_kd hr hl
 generalize l.map toS=ls at hc hr h⊢
 have HR:=h_ hr
 have HF:=h_ h
 have lG:=World.block_lt_of_cell? w ⟨g,15,none⟩ hg
 have nG:g≠w.heap.size:=Nat.ne_of_lt lG
 have nG':w.heap.size≠g:=nG.symm
 clear hr h
 have HB:Hid (Below w.heap.size w w):=h_ (Below.refl _ _)
 go_enter Tryz.func19,Tryz.ntmps19
 go_upto_region 2 with(fail)
 refine nm fun w1 hb=>?_
 obtain⟨hz,_,hb,KP⟩:=na1 hb
 obtain⟨hz,HB⟩:=m1 hb HB
 obtain⟨P0,Pf0,P1,Pf1,P2,Pf2,P3,Pf3,P4,Pf4,P5,Pf5,P6,Pf6,P7,Pf7⟩:=cells8 KP.out
 clear hg
 go_wp2_with fail
 refine(wire_Reply.calls k 1 se sq er v fd A c ls ov r 0 _ (Kd.C_below HR.out HB.out) hc HF.out).mono ?_
 rintro e w2 ⟨rfl,hb⟩
 clear P0 Pf0 P1 Pf1 P2 Pf2 P3 Pf3 P4 Pf4 P5 Pf5 P6 Pf6 P7 Pf7
 obtain⟨hz,KP,HB⟩:=m2 hb KP HB
 go_wp2
 go_ret
 exact⟨rfl,HB.out⟩
theorem srv_refuse (k g:Nat)(cs:Array Value)(kd ep se sq ok mo:Int)(tk key vl lo hi:ByteArray)(er:Int)(r:ByteArray)(w:World)(hg:w.heap[g]? =some (.cells cs 81 (0,0)))(hc15:cs[15]? =some (.int .i64 1))(hc21:cs[21]? =some (.slice none 0 0))(hf:wire_Reply.f k 1 se sq er ⟨#[]⟩ false [] false=some (r,0))(h:r.size≤2048):
  Calls Tryz.prog 67 #[.pointer (some ⟨g,0,none⟩),.int .i64 0,.agg #[.int .i64 kd,.int .i64 ep,.int .i64 se,.int .i64 sq,.string tk,.int .i64 ok,.string key,.string vl,.string lo,.string hi,.int .i64 mo],.int .i64 er] w (MailV g cs r w):=by
 have hlt:=blk_lt hg
 have HF:=h_ hf
 have H15:=h_ hc15
 have H21:=h_ hc21
 clear hf hc15 hc21
 have HB:Hid (Only g w w):=h_ (Only.refl _ _)
 have KG:=h_ hg
 clear hg
 go_enter Tryz.func67,Tryz.ntmps67
 go_wp2_with fail
 refine(srv_bytes k g 0 se sq er ⟨#[]⟩ false none 0 0 [] false r _ ((bq (bb KG.out (one _ _)) 15).trans H15.out) (Rs.nil _ _ _) (by decide) HF.out).mono ?_
 rintro e w1 ⟨rfl,hb⟩
 obtain⟨hz,_,hb,KQ⟩:=na1 hb
 obtain⟨hz,KG,HB⟩:=m2 hb KG HB
 go_wp2_with fail
 refine(srv_mail g cs r _ KG.out H21.out h).mono ?_
 rintro e w2 ⟨m,cap,rfl,hb,hk,hR,hm⟩
 have HK:=h_ hk
 have HR:=h_ hR
 clear hk hR
 go_wp2
 go_end0
 exact⟨m,cap,rfl,Only.trans HB.out hb,HK.out,HR.out,by omega⟩
def AnsV (g:Nat)(a0 a1 a2 a3 a4 a5 a6 a7 a8 a9 a10 a11 a12 a13 a14 a20:Value)(H:Option Addr)(m kk:Nat)(nx:Int)(y:Sn)(r:ByteArray)(w:World)(en:Ending)(w':World):Prop:=∃A n c M cap,en= .returned (.tuple #[])∧Only g w w'∧w'.heap[g]? =some (.cells #[a0,a1,a2,a3,a4,a5,a6,a7,a8,a9,a10,a11,a12,a13,a14,.int .i64 1,.slice A n c,.slice H m kk,.int .i64 (nx),.int .u64 0,a20,.slice (some ⟨M,0,none⟩) 1 cap] 81 (0,0))∧Rs tySn 71 w' (.slice A n c) [y]∧Rs tyMl 73 w' (.slice (some ⟨M,0,none⟩) 1 cap) [⟨Wire.textW r⟩]
theorem srv_answer (k g:Nat)(a0 a1 a2 a3 a4 a5 a6 a7 a8 a9 a10 a11 a12 a13 a14 a20:Value)(A H:Option Addr)(n c m kk:Nat)(nx:Int)(x:Sn)(er:Int)(v:ByteArray)(fd:Bool)(P:Option Addr)(pn pc:Nat)(l:List Pr)(ov:Bool)(r:ByteArray)(w:World)(hg:w.heap[g]? =some (.cells #[a0,a1,a2,a3,a4,a5,a6,a7,a8,a9,a10,a11,a12,a13,a14,.int .i64 1,.slice A n c,.slice H m kk,.int .i64 (nx),.int .u64 0,a20,.slice none 0 0] 81 (0,0)))
  (hL:Rs tySn 71 w (.slice A n c) [x]) (hP:Rs tyPr 123 w (.slice P pn pc) l) (hl:l.length≤100000) (hf:wire_Reply.f k 1 1 x.seq er v fd (l.map toS) ov=some (r,0)) (h:r.size≤2048):
  Calls Tryz.prog 76 #[.pointer (some ⟨g,0,none⟩),.int .i64 1,.agg #[.int .i64 0,.int .i64 0,.int .i64 0,.int .i64 er,.string v,.bool fd,.slice P pn pc,.bool ov]] w (AnsV g a0 a1 a2 a3 a4 a5 a6 a7 a8 a9 a10 a11 a12 a13 a14 a20 H m kk nx ⟨x.seq,false,r,x.txn⟩ r w):=by
 have hlt:=blk_lt hg
 have HF:=h_ hf
 have HP:=h_ hP
 clear hf hP
 have HB:Hid (Only g w w):=h_ (Only.refl _ _)
 have KG:=h_ hg
 clear hg
 have HR:=h_ hL
 clear hL
 obtain⟨G0,Gf0,G1,Gf1,G2,Gf2,G3,Gf3,G4,Gf4,G5,Gf5,G6,Gf6,G7,Gf7,G8,Gf8,G9,Gf9,G10,Gf10,G11,Gf11,G12,Gf12,G13,Gf13,G14,Gf14,G15,Gf15,G16,Gf16,G17,Gf17,G18,Gf18,G19,Gf19,G20,Gf20,G21,Gf21⟩:=cells22 KG.out
 go_enter Tryz.func76,Tryz.ntmps76
 have nG:g≠w.heap.size:=Nat.ne_of_lt hlt
 go_wp2_with fail
 refine(ses_find _ _ _ _ _ _ nx x _ (Rs.below HR.out (one _ _))).mono ?_
 rintro e w1 ⟨rfl,hb⟩
 clear G0 Gf0 G1 Gf1 G2 Gf2 G3 Gf3 G4 Gf4 G5 Gf5 G6 Gf6 G7 Gf7 G8 Gf8 G9 Gf9 G10 Gf10 G11 Gf11 G12 Gf12 G13 Gf13 G14 Gf14 G15 Gf15 G16 Gf16 G17 Gf17 G18 Gf18 G19 Gf19 G20 Gf20 G21 Gf21
 obtain⟨hz,_,hb,KB⟩:=na1 hb
 obtain⟨hz,KG,HR,HP,HB⟩:=m4 hb KG HR HP HB
 go_upto_region 3 with(fail)
 refine nm fun w2 hb=>?_
 obtain⟨hz,_,hb,KX⟩:=na1 hb
 obtain⟨hz,KG,KB,HR,HP,HB⟩:=m5 hb KG KB HR HP HB
 refine rg1 KX fun u1 hb hHeld=>?_
 obtain⟨hz,KG,KB,KX,HR,HP,HB⟩:=m6 hb KG KB KX HR HP HB
 refine t_ 0 ?_
 refine t_ 1 ?_
 refine tq 2 (fun _ k=>bq k 1) ?_
 refine t_ 3 ?_
 refine rd 4 fun K hK=>?_
 obtain⟨B0,Bf0,B1,Bf1,B2,Bf2,B3,Bf3,B4,Bf4,B5,Bf5,B6,Bf6,B7,Bf7⟩:=cells8 KB.out
 go_simp
 clear B0 Bf0 B1 Bf1 B2 Bf2 B3 Bf3 B4 Bf4 B5 Bf5 B6 Bf6 B7 Bf7
 refine ns KB fun u2 ho kB=>?_
 obtain⟨hz,KG,KX,HR,HP,HB⟩:=o5 ho KG KX HR HP HB
 replace KB:=kB
 clear kB
 refine bk hK KX.out fun hHeld=>?_
 refine t_ 5 ?_
 refine rd 6 fun K hK=>?_
 obtain⟨B0,Bf0,B1,Bf1,B2,Bf2,B3,Bf3,B4,Bf4,B5,Bf5,B6,Bf6,B7,Bf7⟩:=cells8 KB.out
 go_simp
 clear B0 Bf0 B1 Bf1 B2 Bf2 B3 Bf3 B4 Bf4 B5 Bf5 B6 Bf6 B7 Bf7
 refine ns KB fun u3 ho kB=>?_
 obtain⟨hz,KG,KX,HR,HP,HB⟩:=o5 ho KG KX HR HP HB
 replace KB:=kB
 clear kB
 refine bk hK KX.out fun hHeld=>?_
 refine d_ ?_
 go_upto_region 4 with(fail)
 refine nm fun w3 hb=>?_
 obtain⟨hz,KG,KB,KX,HR,HP,HB⟩:=m6 hb KG KB KX HR HP HB
 obtain⟨B0,Bf0,B1,Bf1,B2,Bf2,B3,Bf3,B4,Bf4,B5,Bf5,B6,Bf6,B7,Bf7⟩:=cells8 KB.out
 go_wp2_with fail
 refine(srv_bytes k g 0 1 x.seq er v fd P pn pc l ov r _ (bq KG.out 15) HP.out hl HF.out).mono ?_
 rintro e w4 ⟨rfl,hb⟩
 clear B0 Bf0 B1 Bf1 B2 Bf2 B3 Bf3 B4 Bf4 B5 Bf5 B6 Bf6 B7 Bf7
 obtain⟨hz,KG,KB,KX,HR,HP,HB⟩:=m6 hb KG KB KX HR HP HB
 obtain⟨G0,Gf0,G1,Gf1,G2,Gf2,G3,Gf3,G4,Gf4,G5,Gf5,G6,Gf6,G7,Gf7,G8,Gf8,G9,Gf9,G10,Gf10,G11,Gf11,G12,Gf12,G13,Gf13,G14,Gf14,G15,Gf15,G16,Gf16,G17,Gf17,G18,Gf18,G19,Gf19,G20,Gf20,G21,Gf21⟩:=cells22 KG.out
 go_wp2_with fail
 refine(ses_answer _ _ _ _ _ _ nx x r _ HR.out).mono ?_
 rintro e w5 ⟨A2,n2,c2,rfl,hR2,hb⟩
 have HR2:=h_ hR2
 clear hR2 HR
 clear G0 Gf0 G1 Gf1 G2 Gf2 G3 Gf3 G4 Gf4 G5 Gf5 G6 Gf6 G7 Gf7 G8 Gf8 G9 Gf9 G10 Gf10 G11 Gf11 G12 Gf12 G13 Gf13 G14 Gf14 G15 Gf15 G16 Gf16 G17 Gf17 G18 Gf18 G19 Gf19 G20 Gf20 G21 Gf21
 obtain⟨hz,KG,KB,KX,HP,HB⟩:=m5 hb KG KB KX HP HB
 obtain⟨G0,Gf0,G1,Gf1,G2,Gf2,G3,Gf3,G4,Gf4,G5,Gf5,G6,Gf6,G7,Gf7,G8,Gf8,G9,Gf9,G10,Gf10,G11,Gf11,G12,Gf12,G13,Gf13,G14,Gf14,G15,Gf15,G16,Gf16,G17,Gf17,G18,Gf18,G19,Gf19,G20,Gf20,G21,Gf21⟩:=cells22 KG.out
 obtain⟨X0,Xf0,X1,Xf1,X2,Xf2,X3,Xf3,X4,Xf4,X5,Xf5⟩:=cells6 KX.out
 clear HP
 go_upto_region 6 with(fail)
 refine nm fun w6 hb=>?_
 clear G0 Gf0 G1 Gf1 G2 Gf2 G3 Gf3 G4 Gf4 G5 Gf5 G6 Gf6 G7 Gf7 G8 Gf8 G9 Gf9 G10 Gf10 G11 Gf11 G12 Gf12 G13 Gf13 G14 Gf14 G15 Gf15 G16 Gf16 G17 Gf17 G18 Gf18 G19 Gf19 G20 Gf20 G21 Gf21 X0 Xf0 X1 Xf1 X2 Xf2 X3 Xf3 X4 Xf4 X5 Xf5
 obtain⟨ho,kG⟩:=pw 15 [.int .i64 1,.slice A2 n2 c2,.slice H m kk,.int .i64 (nx),.int .u64 0] KG hb
 obtain⟨hz,KB,KX,HR2,HB⟩:=o4 ho KB KX HR2 HB
 replace KG:=kG
 clear kG
 obtain⟨X0,Xf0,X1,Xf1,X2,Xf2,X3,Xf3,X4,Xf4,X5,Xf5⟩:=cells6 KX.out
 go_wp2_with fail
 refine(srv_mail g #[a0,a1,a2,a3,a4,a5,a6,a7,a8,a9,a10,a11,a12,a13,a14,.int .i64 1,.slice A2 n2 c2,.slice H m kk,.int .i64 (nx),.int .u64 0,a20,.slice none 0 0] r _ KG.out rfl h).mono ?_
 rintro e w7 ⟨M,cap,rfl,hb,hk,hR,hm⟩
 have HK:=h_ hk
 have HR:=h_ hR
 clear hk hR
 have HR3:=h_ (Rs.only HR2.out hb KG.out (by decide))
 have HB2:=h_ (Only.trans HB.out hb)
 clear hb
 go_wp2
 go_end0
 exact⟨_,_,_,M,cap,rfl,HB2.out,HK.out,HR3.out,HR.out⟩
structure Dn where
 er:Int
 v:ByteArray
 fd:Bool
 P:Option Addr
 pn:Nat
 pc:Nat
 ov:Bool
def tyDn:Ty Dn:=⟨6,fun x=> [.int .i64 1,.int .i64 x.er,.string x.v,.bool x.fd,.slice x.P x.pn x.pc,.bool x.ov],fun _=>rfl,by intro x u hu;simp at hu;rcases hu with rfl|rfl|rfl|rfl|rfl|rfl <;> rfl,by decide⟩
theorem infoDn:(Tryz.prog.info? 243).map (fun i=>(i.zero,i.size,i.bytes))=some (some (.agg #[.int .i64 0,.int .i64 0,.string ByteArray.empty,.bool false,.slice none 0 0,.bool false]),6,72):=by kernel_rfl
theorem el0_Dn {e:TypeId}{w:World}{b n c:Nat}{l:List Dn}(h:Rs tyDn e w (.slice (some ⟨b,0,none⟩) n c) l)(x:Dn)(hi:l[0]? =some x):w.cell? ⟨b,0,none⟩=some (.int .i64 1)∧w.cell? ⟨b,1,none⟩=some (.int .i64 x.er)∧w.cell? ⟨b,2,none⟩=some (.string x.v)∧w.cell? ⟨b,3,none⟩=some (.bool x.fd)∧w.cell? ⟨b,4,none⟩=some (.slice x.P x.pn x.pc)∧w.cell? ⟨b,5,none⟩=some (.bool x.ov):=by
 obtain⟨hl,hx⟩:=List.getElem?_eq_some_iff.1 hi
 obtain⟨b',c',hv',_,_,hcell⟩:=h.at_ 0 hl
 cases hv'
 rw[hx] at hcell
 simp only[Nat.zero_mul,Nat.zero_add] at hcell
 exact⟨hcell 0 _ rfl,hcell 1 _ rfl,hcell 2 _ rfl,hcell 3 _ rfl,hcell 4 _ rfl,hcell 5 _ rfl⟩
theorem head_Dn {e:TypeId}{w:World}{v:Value}{l:List Dn}(h:Rs tyDn e w v l)(hl:0<l.length):∃b c,v= .slice (some ⟨b,0,none⟩) l.length c∧l.length≤c∧b<w.heap.size:=by
 obtain⟨b,c,h1,h2,h3,_⟩:=h.cells hl
 exact⟨b,c,h1,h2,h3⟩
theorem srv_dones_keep (k g:Nat)(a0 a1 a2 a3 a4 a5 a6 a7 a8 a9 a10 a11 a12 a13 a14 a20:Value)(A H:Option Addr)(n c m kk:Nat)(nx:Int)(x:Sn)(d:Dn)(E:Option Addr)(en ec:Nat)(l:List Pr)(r:ByteArray)(w:World)(hg:w.heap[g]? =some (.cells #[a0,a1,a2,a3,a4,a5,a6,a7,a8,a9,a10,a11,a12,a13,a14,.int .i64 1,.slice A n c,.slice H m kk,.int .i64 (nx),.int .u64 0,a20,.slice none 0 0] 81 (0,0)))
  (hL:Rs tySn 71 w (.slice A n c) [x]) (hx:x.txn=1) (hD:Rs tyDn 243 w (.slice E en ec) [d]) (ho:d.ov=false) (hP:Rs tyPr 123 w (.slice d.P d.pn d.pc) l) (hl:l.length≤100000) (hf:wire_Reply.f k 1 1 x.seq d.er d.v d.fd (l.map toS) false=some (r,0)) (h:r.size≤2048):
  Calls Tryz.prog 78 #[.pointer (some ⟨g,0,none⟩),.slice E en ec] w (AnsV g a0 a1 a2 a3 a4 a5 a6 a7 a8 a9 a10 a11 a12 a13 a14 a20 H m kk nx ⟨x.seq,false,r,x.txn⟩ r w):=by
 have hlt:=blk_lt hg
 have HX:=h_ hx
 have HF:=h_ hf
 clear hf hx
 obtain⟨b,c',e1,_,hbw⟩:=head_Dn hD (by simp)
 cases e1
 obtain⟨x0,x1,x2,x3,x4,x5⟩:=el0_Dn hD d rfl
 rw[ho] at x5
 clear ho hD
 have HB:Hid (Only g w w):=h_ (Only.refl _ _)
 have HG0:=h_ hg
 have KG:=h_ hg
 clear hg
 have HR:=h_ hL
 clear hL
 have HP:=h_ hP
 clear hP
 go_enter Tryz.func78,Tryz.ntmps78
 go_wp2
 refine wp_loop_rounds 2 ?_
 rw[rounds_succ]
 go_upto_region 3 with(fail)
 refine nm fun w1 hb=>?_
 obtain⟨hz,_,hb,KD⟩:=na1 hb
 obtain⟨hz,KG,HB⟩:=m2 hb KG HB
 clear x0 x1 x2 x3 x4 x5
 go_cut [6,7] from 14 (fun s6 s7 wx=>∃n_X,s6= .pointer (some ⟨n_X,0,none⟩)∧s7= .bool true∧wx.heap[g]? =some (.cells #[a0,a1,a2,a3,a4,a5,a6,a7,a8,a9,a10,a11,a12,a13,a14,.int .i64 1,.slice A n c,.slice H m kk,.int .i64 (nx),.int .u64 0,a20,.slice none 0 0] 81 (0,0))∧wx.heap[w.heap.size]? =some (.cells #[.int .i64 1,.int .i64 d.er,.string d.v,.bool d.fd,.slice d.P d.pn d.pc,.bool false] 243 (0,0))∧wx.heap[n_X]? =some (.cells #[.int .i64 1,.int .i64 x.seq,.bool x.busy,.string x.last,.int .i64 x.txn,.int .i64 0] 71 (0,0))∧w1.heap.size≤n_X∧Only g w wx)
 case first=>
  refine rg2 KG KD fun u1 hb hHeld=>?_
  obtain⟨hz,KG,KD,HB⟩:=m3 hb KG KD HB
  refine t_ 0 ?_
  refine t_ 1 ?_
  refine t_ 2 ?_
  refine t_ 3 ?_
  refine tl 4 15 5 (fun _ k=>k.1) Tryz.underlying47 ?_
  refine t_ 5 ?_
  refine tq 6 (fun _ k=>bq k.2 0) ?_
  refine wpAnyH_ready (rs:= [7,11]) (by kernel_rfl) (by simp) ?_
  refine AllReadyH.cons rfl (fun K hK=>?_) ?_
  ·go_simp
   go_at_call 136
   refine(ses_of _ _ _ _ _ _ nx x _ (Rs.only HR.out HB.out HG0.out (by decide)) HX.out).mono ?_
   rintro e w2 ⟨rfl,hb⟩
   obtain⟨hz,KG,KD,HB⟩:=m3 hb KG KD HB
   refine bk hK ⟨KG.out,KD.out⟩ fun hHeld=>?_
   refine t_ 8 ?_
   refine t_ 9 ?_
   refine t_ 10 ?_
   refine rd 11 fun K hK=>?_
   go_simp
   refine na fun u2 hb KX=>?_
   obtain⟨hz,KG,KD,HB⟩:=m3 hb KG KD HB
   have Xlt:=blk_lt KX.out
   refine bk hK ⟨KG.out,KD.out⟩ fun hHeld=>?_
   refine rd 12 fun K hK=>?_
   refine sm 0 [.int .i64 1,.int .i64 x.seq,.bool x.busy,.string x.last,.int .i64 x.txn,.int .i64 0] KX fun u3 ho kX=>?_
   obtain⟨hz,KG,KD,HB⟩:=o3 ho KG KD HB
   replace KX:=kX
   clear kX
   refine bk hK ⟨KG.out,KD.out⟩ fun hHeld=>?_
   refine t_ 13 ?_
   refine d_ ?_
   go_wp2_with fail
   go_meet
   exact⟨w2.heap.size,rfl,rfl,KG.out,KD.out,KX.out,by omega,HB.out⟩
  refine AllReadyH.cons rfl (fun K hK=>?_) AllReadyH.nil
  go_simp
  refine na fun u4 hb KX=>?_
  obtain⟨hz,KG,KD,HB⟩:=m3 hb KG KD HB
  have Xlt:=blk_lt KX.out
  refine bk hK ⟨KG.out,KD.out⟩ fun hHeld=>?_
  refine rd 7 fun K hK=>?_
  go_simp
  go_at_call 136
  refine(ses_of _ _ _ _ _ _ nx x _ (Rs.only HR.out HB.out HG0.out (by decide)) HX.out).mono ?_
  rintro e w2 ⟨rfl,hb⟩
  obtain⟨hz,KG,KD,KX,HB⟩:=m4 hb KG KD KX HB
  refine bk hK ⟨KG.out,KD.out⟩ fun hHeld=>?_
  refine t_ 8 ?_
  refine t_ 9 ?_
  refine t_ 10 ?_
  refine rd 12 fun K hK=>?_
  refine sm 0 [.int .i64 1,.int .i64 x.seq,.bool x.busy,.string x.last,.int .i64 x.txn,.int .i64 0] KX fun u5 ho kX=>?_
  obtain⟨hz,KG,KD,HB⟩:=o3 ho KG KD HB
  replace KX:=kX
  clear kX
  refine bk hK ⟨KG.out,KD.out⟩ fun hHeld=>?_
  refine t_ 13 ?_
  refine d_ ?_
  go_wp2_with fail
  go_meet
  exact⟨u1.heap.size,rfl,rfl,KG.out,KD.out,KX.out,by omega,HB.out⟩
 case rest=>
  rename World=>wc1
  clear KG KD HB
  obtain⟨n_X,rfl,rfl,kG,kD,kX,Xge,hB⟩:=hcut
  obtain⟨KG,G1lt,G1ne,G1en⟩:=hid_mv kG
  clear kG
  obtain⟨KD,D1lt,D1ne,D1en⟩:=hid_mv kD
  clear kD
  obtain⟨KX,X1lt,X1ne,X1en⟩:=hid_mv kX
  clear kX
  have HB:=h_ hB
  have hs1_:=HB.out.size
  clear hB
  go_upto_region 4 with(fail)
  refine nm fun w3 hb=>?_
  obtain⟨hz,KG,KD,KX,HB⟩:=m4 hb KG KD KX HB
  have CD:=cells6 KD.out
  go_upto_region 7 with(fail)
  refine nm fun w5 hb=>?_
  clear CD
  obtain⟨hz,KG,KD,KX,HB⟩:=m4 hb KG KD KX HB
  have CD:=cells6 KD.out
  have CX:=cells6 KX.out
  go_wp2_with fail
  refine(srv_answer k g a0 a1 a2 a3 a4 a5 a6 a7 a8 a9 a10 a11 a12 a13 a14 a20 _ _ _ _ _ _ nx x d.er d.v d.fd d.P d.pn d.pc l false r _ KG.out (Rs.only HR.out HB.out HG0.out (by decide)) (Rs.only HP.out HB.out HG0.out (by decide)) hl HF.out h).mono ?_
  rintro e w6 ⟨A3,n3,c3,M,cap,rfl,hb,hk,hR,hM⟩
  have HK:=h_ hk
  have HR3:=h_ hR
  have HM:=h_ hM
  have HB2:=h_ (Only.trans HB.out hb)
  clear hk hR hM hb
  go_wp2
  rw[rounds_succ]
  go_wp2
  go_end0
  exact⟨_,_,_,M,cap,rfl,HB2.out,HK.out,HR3.out,HM.out⟩
theorem srv_dones_over (k g:Nat)(a0 a1 a2 a3 a4 a5 a6 a7 a8 a9 a10 a11 a12 a13 a14 a20:Value)(A H:Option Addr)(n c m kk:Nat)(nx:Int)(x:Sn)(d:Dn)(E:Option Addr)(en ec:Nat)(l:List Pr)(r:ByteArray)(w:World)(hg:w.heap[g]? =some (.cells #[a0,a1,a2,a3,a4,a5,a6,a7,a8,a9,a10,a11,a12,a13,a14,.int .i64 1,.slice A n c,.slice H m kk,.int .i64 (nx),.int .u64 0,a20,.slice none 0 0] 81 (0,0)))
  (hL:Rs tySn 71 w (.slice A n c) [x]) (hx:x.txn=1) (hD:Rs tyDn 243 w (.slice E en ec) [d]) (ho:d.ov=true) (hP:Rs tyPr 123 w (.slice d.P d.pn d.pc) l) (hl:l.length≤100000) (hf:wire_Reply.f k 1 1 x.seq d.er d.v d.fd (l.map toS) true=some (r,0)) (h:r.size≤2048):
  Calls Tryz.prog 78 #[.pointer (some ⟨g,0,none⟩),.slice E en ec] w (AnsV g a0 a1 a2 a3 a4 a5 a6 a7 a8 a9 a10 a11 a12 a13 a14 a20 H m kk nx ⟨x.seq,false,r,0⟩ r w):=by
 have hlt:=blk_lt hg
 have HX:=h_ hx
 have HF:=h_ hf
 clear hf hx
 obtain⟨b,c',e1,_,hbw⟩:=head_Dn hD (by simp)
 cases e1
 obtain⟨x0,x1,x2,x3,x4,x5⟩:=el0_Dn hD d rfl
 rw[ho] at x5
 clear ho hD
 have HB:Hid (Only g w w):=h_ (Only.refl _ _)
 have HG0:=h_ hg
 have KG:=h_ hg
 clear hg
 have HR:=h_ hL
 clear hL
 have HP:=h_ hP
 clear hP
 go_enter Tryz.func78,Tryz.ntmps78
 go_wp2
 refine wp_loop_rounds 2 ?_
 rw[rounds_succ]
 go_upto_region 3 with(fail)
 refine nm fun w1 hb=>?_
 obtain⟨hz,_,hb,KD⟩:=na1 hb
 obtain⟨hz,KG,HB⟩:=m2 hb KG HB
 clear x0 x1 x2 x3 x4 x5
 go_cut [6,7] from 14 (fun s6 s7 wx=>∃n_X,s6= .pointer (some ⟨n_X,0,none⟩)∧s7= .bool true∧wx.heap[g]? =some (.cells #[a0,a1,a2,a3,a4,a5,a6,a7,a8,a9,a10,a11,a12,a13,a14,.int .i64 1,.slice A n c,.slice H m kk,.int .i64 (nx),.int .u64 0,a20,.slice none 0 0] 81 (0,0))∧wx.heap[w.heap.size]? =some (.cells #[.int .i64 1,.int .i64 d.er,.string d.v,.bool d.fd,.slice d.P d.pn d.pc,.bool true] 243 (0,0))∧wx.heap[n_X]? =some (.cells #[.int .i64 1,.int .i64 x.seq,.bool x.busy,.string x.last,.int .i64 x.txn,.int .i64 0] 71 (0,0))∧w1.heap.size≤n_X∧Only g w wx)
 case first=>
  refine rg2 KG KD fun u1 hb hHeld=>?_
  obtain⟨hz,KG,KD,HB⟩:=m3 hb KG KD HB
  refine t_ 0 ?_
  refine t_ 1 ?_
  refine t_ 2 ?_
  refine t_ 3 ?_
  refine tl 4 15 5 (fun _ k=>k.1) Tryz.underlying47 ?_
  refine t_ 5 ?_
  refine tq 6 (fun _ k=>bq k.2 0) ?_
  refine wpAnyH_ready (rs:= [7,11]) (by kernel_rfl) (by simp) ?_
  refine AllReadyH.cons rfl (fun K hK=>?_) ?_
  ·go_simp
   go_at_call 136
   refine(ses_of _ _ _ _ _ _ nx x _ (Rs.only HR.out HB.out HG0.out (by decide)) HX.out).mono ?_
   rintro e w2 ⟨rfl,hb⟩
   obtain⟨hz,KG,KD,HB⟩:=m3 hb KG KD HB
   refine bk hK ⟨KG.out,KD.out⟩ fun hHeld=>?_
   refine t_ 8 ?_
   refine t_ 9 ?_
   refine t_ 10 ?_
   refine rd 11 fun K hK=>?_
   go_simp
   refine na fun u2 hb KX=>?_
   obtain⟨hz,KG,KD,HB⟩:=m3 hb KG KD HB
   have Xlt:=blk_lt KX.out
   refine bk hK ⟨KG.out,KD.out⟩ fun hHeld=>?_
   refine rd 12 fun K hK=>?_
   refine sm 0 [.int .i64 1,.int .i64 x.seq,.bool x.busy,.string x.last,.int .i64 x.txn,.int .i64 0] KX fun u3 ho kX=>?_
   obtain⟨hz,KG,KD,HB⟩:=o3 ho KG KD HB
   replace KX:=kX
   clear kX
   refine bk hK ⟨KG.out,KD.out⟩ fun hHeld=>?_
   refine t_ 13 ?_
   refine d_ ?_
   go_wp2_with fail
   go_meet
   exact⟨w2.heap.size,rfl,rfl,KG.out,KD.out,KX.out,by omega,HB.out⟩
  refine AllReadyH.cons rfl (fun K hK=>?_) AllReadyH.nil
  go_simp
  refine na fun u4 hb KX=>?_
  obtain⟨hz,KG,KD,HB⟩:=m3 hb KG KD HB
  have Xlt:=blk_lt KX.out
  refine bk hK ⟨KG.out,KD.out⟩ fun hHeld=>?_
  refine rd 7 fun K hK=>?_
  go_simp
  go_at_call 136
  refine(ses_of _ _ _ _ _ _ nx x _ (Rs.only HR.out HB.out HG0.out (by decide)) HX.out).mono ?_
  rintro e w2 ⟨rfl,hb⟩
  obtain⟨hz,KG,KD,KX,HB⟩:=m4 hb KG KD KX HB
  refine bk hK ⟨KG.out,KD.out⟩ fun hHeld=>?_
  refine t_ 8 ?_
  refine t_ 9 ?_
  refine t_ 10 ?_
  refine rd 12 fun K hK=>?_
  refine sm 0 [.int .i64 1,.int .i64 x.seq,.bool x.busy,.string x.last,.int .i64 x.txn,.int .i64 0] KX fun u5 ho kX=>?_
  obtain⟨hz,KG,KD,HB⟩:=o3 ho KG KD HB
  replace KX:=kX
  clear kX
  refine bk hK ⟨KG.out,KD.out⟩ fun hHeld=>?_
  refine t_ 13 ?_
  refine d_ ?_
  go_wp2_with fail
  go_meet
  exact⟨u1.heap.size,rfl,rfl,KG.out,KD.out,KX.out,by omega,HB.out⟩
 case rest=>
  rename World=>wc1
  clear KG KD HB
  obtain⟨n_X,rfl,rfl,kG,kD,kX,Xge,hB⟩:=hcut
  obtain⟨KG,G1lt,G1ne,G1en⟩:=hid_mv kG
  clear kG
  obtain⟨KD,D1lt,D1ne,D1en⟩:=hid_mv kD
  clear kD
  obtain⟨KX,X1lt,X1ne,X1en⟩:=hid_mv kX
  clear kX
  have HB:=h_ hB
  have hs1_:=HB.out.size
  clear hB
  go_upto_region 4 with(fail)
  refine nm fun w3 hb=>?_
  obtain⟨hz,KG,KD,KX,HB⟩:=m4 hb KG KD KX HB
  have CD:=cells6 KD.out
  go_upto_region 6 with(fail)
  refine nm fun w3b hb=>?_
  clear CD
  obtain⟨hz,KG,KD,KX,HB⟩:=m4 hb KG KD KX HB
  refine rl2 15 KG KX fun u6 hb=>?_
  obtain⟨hz,KG,KD,KX,HB⟩:=m4 hb KG KD KX HB
  refine l_ 0 (.inr ⟨KG.out,KX.out⟩) ?_
  refine l_ 1 (.inr ⟨KG.out,KX.out⟩) ?_
  refine l_ 2 (.inr ⟨KG.out,KX.out⟩) ?_
  refine l_ 3 (.inr ⟨KG.out,KX.out⟩) ?_
  refine l_ 4 (.inr ⟨KG.out,KX.out⟩) ?_
  refine ll 5 15 5 (fun _ k=>k.1) ⟨KG.out,KX.out⟩ Tryz.underlying47 ?_
  refine l_ 6 (.inr ⟨KG.out,KX.out⟩) ?_
  refine lq 7 (fun _ k=>bq k.2 0) ⟨KG.out,KX.out⟩ ?_
  refine ld 8 fun K hK=>?_
  go_simp
  go_at_call 126
  refine(ses_bind _ _ _ _ _ _ nx x 0 _ (Rs.only HR.out HB.out HG0.out (by decide))).mono ?_
  rintro e w4 ⟨A2,n2,c2,rfl,hR2,hb⟩
  have HR2:=h_ hR2
  clear hR2
  obtain⟨hz,KG,KD,KX,HB⟩:=m4 hb KG KD KX HB
  refine b_ hK (.inr ⟨KG.out,KX.out⟩) ?_
  refine l_ 9 (.inr ⟨KG.out,KX.out⟩) ?_
  refine l_ 10 (.inr ⟨KG.out,KX.out⟩) ?_
  refine l_ 11 (.inr ⟨KG.out,KX.out⟩) ?_
  refine l_ 12 (.inr ⟨KG.out,KX.out⟩) ?_
  refine l_ 13 (.inr ⟨KG.out,KX.out⟩) ?_
  refine l_ 14 (.inr ⟨KG.out,KX.out⟩) ?_
  refine ld 15 fun K hK=>?_
  refine sm 15 [.int .i64 1,.slice A2 n2 c2,.slice H m kk,.int .i64 (nx),.int .u64 0] KG fun u7 ho kG=>?_
  obtain⟨hz,KD,KX,HR2,HB⟩:=o4 ho KD KX HR2 HB
  replace KG:=kG
  clear kG
  refine b_ hK (.inl (by kernel_rfl)) ?_
  refine dl ?_
  go_upto_region 7 with(fail)
  refine nm fun w5 hb=>?_
  obtain⟨hz,KG,KD,KX,HR2,HB⟩:=m5 hb KG KD KX HR2 HB
  have CD:=cells6 KD.out
  have CX:=cells6 KX.out
  go_wp2_with fail
  refine(srv_answer k g a0 a1 a2 a3 a4 a5 a6 a7 a8 a9 a10 a11 a12 a13 a14 a20 _ _ _ _ _ _ nx (⟨x.seq,x.busy,x.last,0⟩:Sn) d.er d.v d.fd d.P d.pn d.pc l true r _ KG.out HR2.out (Rs.only HP.out HB.out HG0.out (by decide)) hl HF.out h).mono ?_
  rintro e w6 ⟨A3,n3,c3,M,cap,rfl,hb,hk,hR,hM⟩
  have HK:=h_ hk
  have HR3:=h_ hR
  have HM:=h_ hM
  have HB2:=h_ (Only.trans HB.out hb)
  clear hk hR hM hb
  go_wp2
  rw[rounds_succ]
  go_wp2
  go_end0
  exact⟨_,_,_,M,cap,rfl,HB2.out,HK.out,HR3.out,HM.out⟩
def SOpenV (g:Nat)(a0 a1 a2 a3 a4 a5 a6 a7 a8 a9 a10 a11 a12 a13 a14 a20:Value)(r:ByteArray)(w:World)(en:Ending)(w':World):Prop:=∃A n c H m kk M cap,en= .returned (.tuple #[])∧Only g w w'∧w'.heap[g]? =some (.cells #[a0,a1,a2,a3,a4,a5,a6,a7,a8,a9,a10,a11,a12,a13,a14,.int .i64 1,.slice A n c,.slice H m kk,.int .i64 2,.int .u64 0,a20,.slice (some ⟨M,0,none⟩) 1 cap] 81 (0,0))∧Rs tySn 71 w' (.slice A n c) [⟨0,false,⟨#[]⟩,0⟩]∧HAl w' (.slice H m kk)∧Rs tyMl 73 w' (.slice (some ⟨M,0,none⟩) 1 cap) [⟨Wire.textW r⟩]
theorem srv_open (k g:Nat)(a0 a1 a2 a3 a4 a5 a6 a7 a8 a9 a10 a11 a12 a13 a14 a20:Value)(kd ep se sq ok mo:Int)(tk key vl lo hi:ByteArray)(r:ByteArray)(w:World)(hg:w.heap[g]? =some (.cells #[a0,a1,a2,a3,a4,a5,a6,a7,a8,a9,a10,a11,a12,a13,a14,.int .i64 1,.slice none 0 0,.slice none 0 0,.int .i64 1,.int .u64 0,a20,.slice none 0 0] 81 (0,0)))(hf:wire_Reply.f k 1 1 sq 0 ⟨#[]⟩ false [] false=some (r,0))(h:r.size≤2048):
  Calls Tryz.prog 33 #[.pointer (some ⟨g,0,none⟩),.int .i64 0,.agg #[.int .i64 kd,.int .i64 ep,.int .i64 se,.int .i64 sq,.string tk,.int .i64 ok,.string key,.string vl,.string lo,.string hi,.int .i64 mo]] w (SOpenV g a0 a1 a2 a3 a4 a5 a6 a7 a8 a9 a10 a11 a12 a13 a14 a20 r w):=by
 have hlt:=blk_lt hg
 have HF:=h_ hf
 clear hf
 have HB:Hid (Only g w w):=h_ (Only.refl _ _)
 have KG:=h_ hg
 clear hg
 have CG:=cells22 KG.out
 have nG:g≠w.heap.size:=Nat.ne_of_lt hlt
 go_enter Tryz.func33,Tryz.ntmps33
 go_wp2_with fail
 refine(ses_open _).mono ?_
 rintro e w1 ⟨A1,n1,c1,H1,m1,k1,rfl,hR,hA,hb⟩
 have HR1:=h_ hR
 have HA1:=h_ hA
 clear hR hA
 clear CG
 obtain⟨hz,_,hb,KQ⟩:=na1 hb
 obtain⟨hz,KG,HB⟩:=m2 hb KG HB
 have CG:=cells22 KG.out
 go_upto_region 2 with(fail)
 refine nm fun w2 hb=>?_
 clear CG
 obtain⟨hz,_,hb,KN⟩:=na1 hb
 obtain⟨hz,KG,KQ,HR1,HA1,HB⟩:=m5 hb KG KQ HR1 HA1 HB
 have CG:=cells22 KG.out
 have CN:=cells5 KN.out
 go_upto_region 4 with(fail)
 refine nm fun w3 hb=>?_
 clear CG CN
 obtain⟨ho,kG⟩:=pw 15 [.int .i64 1,.slice A1 n1 c1,.slice H1 m1 k1,.int .i64 2,.int .u64 0] KG hb
 obtain⟨hz,KQ,KN,HR1,HA1,HB⟩:=o5 ho KQ KN HR1 HA1 HB
 replace KG:=kG
 clear kG
 have CQ:=cells11 KQ.out
 go_upto_region 5 with(fail)
 refine nm fun w4 hb=>?_
 clear CQ
 obtain⟨ho,kQ⟩:=ps KQ hb
 obtain⟨hz,KG,KN,HR1,HA1,HB⟩:=o5 ho KG KN HR1 HA1 HB
 replace KQ:=kQ
 clear kQ
 have CQ:=cells11 KQ.out
 go_wp2_with fail
 refine(srv_refuse k g #[a0,a1,a2,a3,a4,a5,a6,a7,a8,a9,a10,a11,a12,a13,a14,.int .i64 1,.slice A1 n1 c1,.slice H1 m1 k1,.int .i64 2,.int .u64 0,a20,.slice none 0 0] kd ep 1 sq ok mo tk key vl lo hi 0 r _ KG.out rfl rfl HF.out h).mono ?_
 rintro e w5 ⟨M,cap,rfl,hb,hk,hR,hm⟩
 have HK:=h_ hk
 have HR:=h_ hR
 clear hk hR
 have HR3:=h_ (Rs.only HR1.out hb KG.out (by decide))
 have HA3:=h_ (HAl.only (HAl.map (fun _ h=>h) HA1.out) hb KG.out (by decide))
 have HB2:=h_ (Only.trans HB.out hb)
 clear hb
 go_wp2
 go_end0
 exact⟨_,_,_,_,_,_,M,cap,rfl,HB2.out,HK.out,HR3.out,HA3.out,HR.out⟩
def SBeginV (g:Nat)(V H:Option Addr)(vn vc m kk:Nat)(room nx:Int)(b:Value)(tok:ByteArray)(y:Sn)(r:ByteArray)(w:World)(en:Ending)(w':World):Prop:=∃T tn tc A n c M cap,en= .returned (.tuple #[])∧Only g w w'∧w'.heap[g]? =some (.cells #[.slice V vn vc,.int .i64 (room),.int .i64 (-1),.bool false,.int .i64 1,.int .i64 1,.int .i64 0,.slice none 0 0,.slice none 0 0,.bool false,.slice none 0 0,.slice none 0 0,.slice T tn tc,.int .i64 2,.int .u64 0,.int .i64 1,.slice A n c,.slice H m kk,.int .i64 (nx),.int .u64 0,b,.slice (some ⟨M,0,none⟩) 1 cap] 81 (0,0))∧Rs tyTx 237 w' (.slice T tn tc) [⟨tok,none,0,0⟩]∧Rs tySn 71 w' (.slice A n c) [y]∧Rs tyMl 73 w' (.slice (some ⟨M,0,none⟩) 1 cap) [⟨Wire.textW r⟩]
theorem srv_begin (k g:Nat)(V A H:Option Addr)(vn vc n c m kk:Nat)(room nx s:Int)(last tok:ByteArray)(b:Value)(r:ByteArray)(w:World)(hg:w.heap[g]? =some (.cells #[.slice V vn vc,.int .i64 (room),.int .i64 (-1),.bool false,.int .i64 1,.int .i64 1,.int .i64 0,.slice none 0 0,.slice none 0 0,.bool false,.slice none 0 0,.slice none 0 0,.slice none 0 0,.int .i64 1,.int .u64 0,.int .i64 1,.slice A n c,.slice H m kk,.int .i64 (nx),.int .u64 0,b,.slice none 0 0] 81 (0,0)))(hL:Rs tySn 71 w (.slice A n c) [⟨s,true,last,0⟩])(h1:1≤tok.size)(h2:tok.size≤16)(hf:wire_Reply.f k 1 1 s 0 ⟨#[]⟩ false [] false=some (r,0))(h:r.size≤2048):
  Calls Tryz.prog 74 #[.pointer (some ⟨g,0,none⟩),.agg #[.int .i64 1,.int .i64 s,.bool true,.string last,.int .i64 0,.int .i64 0],.string tok] w (SBeginV g V H vn vc m kk room nx b tok ⟨s,false,r,1⟩ r w):=by
 have hlt:=blk_lt hg
 have HF:=h_ hf
 clear hf
 have HB:Hid (Only g w w):=h_ (Only.refl _ _)
 have HG0:=h_ hg
 have KG:=h_ hg
 clear hg
 have HR:=h_ hL
 clear hL
 have CG:=cells22 KG.out
 have nG:g≠w.heap.size:=Nat.ne_of_lt hlt
 go_enter Tryz.func74,Tryz.ntmps74
 go_wp2_with fail
 refine(eng_begin V vn vc room tok _ h1 h2).mono ?_
 rintro e w1 ⟨T,tn,tc,rfl,hR,hb⟩
 have HT:=h_ hR
 clear hR
 clear CG
 obtain⟨hz,_,hb,KX⟩:=na1 hb
 obtain⟨hz,KG,HB⟩:=m2 hb KG HB
 have CG:=cells22 KG.out
 go_upto_region 4 with(fail)
 refine nm fun w2 hb=>?_
 clear CG
 obtain⟨hz,_,hb,KN⟩:=na1 hb
 obtain⟨hz,KG,KX,HT,HB⟩:=m4 hb KG KX HT HB
 have CG:=cells22 KG.out
 have CN:=cells15 KN.out
 go_upto_region 6 with(fail)
 refine nm fun w3 hb=>?_
 clear CG CN
 obtain⟨ho,kG⟩:=pw 0 [.slice V vn vc,.int .i64 (room),.int .i64 (-1),.bool false,.int .i64 1,.int .i64 1,.int .i64 0,.slice none 0 0,.slice none 0 0,.bool false,.slice none 0 0,.slice none 0 0,.slice T tn tc,.int .i64 2,.int .u64 0] KG hb
 obtain⟨hz,KX,KN,HT,HB⟩:=o4 ho KX KN HT HB
 replace KG:=kG
 clear kG
 refine rl2 16 KG KX fun u1 hb=>?_
 obtain⟨hz,KG,KX,KN,HT,HB⟩:=m5 hb KG KX KN HT HB
 refine l_ 0 (.inr ⟨KG.out,KX.out⟩) ?_
 refine l_ 1 (.inr ⟨KG.out,KX.out⟩) ?_
 refine l_ 2 (.inr ⟨KG.out,KX.out⟩) ?_
 refine l_ 3 (.inr ⟨KG.out,KX.out⟩) ?_
 refine l_ 4 (.inr ⟨KG.out,KX.out⟩) ?_
 refine ll 5 15 5 (fun _ k=>k.1) ⟨KG.out,KX.out⟩ Tryz.underlying47 ?_
 refine l_ 6 (.inr ⟨KG.out,KX.out⟩) ?_
 refine lq 7 (fun _ k=>bq k.2 0) ⟨KG.out,KX.out⟩ ?_
 refine l_ 8 (.inr ⟨KG.out,KX.out⟩) ?_
 refine ld 9 fun K hK=>?_
 go_simp
 go_at_call 126
 refine(ses_bind _ _ _ _ _ _ nx (⟨s,true,last,0⟩:Sn) 1 _ (Rs.only HR.out HB.out HG0.out (by decide))).mono ?_
 rintro e w4 ⟨A2,n2,c2,rfl,hR2,hb⟩
 have HR2:=h_ hR2
 clear hR2
 obtain⟨hz,KG,KX,KN,HT,HB⟩:=m5 hb KG KX KN HT HB
 refine b_ hK (.inr ⟨KG.out,KX.out⟩) ?_
 refine l_ 10 (.inr ⟨KG.out,KX.out⟩) ?_
 refine l_ 11 (.inr ⟨KG.out,KX.out⟩) ?_
 refine l_ 12 (.inr ⟨KG.out,KX.out⟩) ?_
 refine l_ 13 (.inr ⟨KG.out,KX.out⟩) ?_
 refine l_ 14 (.inr ⟨KG.out,KX.out⟩) ?_
 refine l_ 15 (.inr ⟨KG.out,KX.out⟩) ?_
 refine ld 16 fun K hK=>?_
 refine sm 15 [.int .i64 1,.slice A2 n2 c2,.slice H m kk,.int .i64 (nx),.int .u64 0] KG fun u2 ho kG=>?_
 obtain⟨hz,KX,KN,HT,HR2,HB⟩:=o5 ho KX KN HT HR2 HB
 replace KG:=kG
 clear kG
 refine b_ hK (.inl (by kernel_rfl)) ?_
 refine dl ?_
 go_upto_region 7 with(fail)
 refine nm fun w5 hb=>?_
 obtain⟨hz,KG,KX,KN,HT,HR2,HB⟩:=m6 hb KG KX KN HT HR2 HB
 have CX:=cells6 KX.out
 go_wp2_with fail
 refine(srv_answer k g (.slice V vn vc) (.int .i64 (room)) (.int .i64 (-1)) (.bool false) (.int .i64 1) (.int .i64 1) (.int .i64 0) (.slice none 0 0) (.slice none 0 0) (.bool false) (.slice none 0 0) (.slice none 0 0) (.slice T tn tc) (.int .i64 2) (.int .u64 0) b _ _ _ _ _ _ nx (⟨s,true,last,1⟩:Sn) 0 ⟨#[]⟩ false none 0 0 [] false r _ KG.out HR2.out (Rs.nil _ _ _) (by decide) HF.out h).mono ?_
 rintro e w6 ⟨A3,n3,c3,M,cap,rfl,hb,hk,hR,hM⟩
 have HK:=h_ hk
 have HR3:=h_ hR
 have HM:=h_ hM
 have HT3:=h_ (Rs.only HT.out hb KG.out (by decide))
 have HB2:=h_ (Only.trans HB.out hb)
 clear hk hR hM hb
 go_wp2
 go_end0
 exact⟨_,_,_,_,_,_,M,cap,rfl,HB2.out,HK.out,HT3.out,HR3.out,HM.out⟩
end Go.Proofs.YtmgmdiekpmffbaaGreatDoor.Top
namespace Go.Proofs.YtmgmdiekpmffbaaGreatDoor.Top
open Go Go.RowKit Go.Proofs.YtmgmdiekpmffbaaGreatDoorW.PrintWords
def DoesV (V KA HA:Option Addr)(vn vc kn kc hn hc:Nat)(room nx:Int)(g:Nat)(A':Tx→Dn→List Wr→List Pr→Prop)(w:World)(en:Ending)(w':World):Prop:=∃T n c y E en2 ec d l m,en= .returned (.tuple #[])∧Only g w w'∧w'.heap[g]? =some (.cells #[.slice V vn vc,.int .i64 (room),.int .i64 (-1),.bool false,.int .i64 1,.int .i64 1,.int .i64 0,.slice none 0 0,.slice KA kn kc,.bool false,.slice HA hn hc,.slice none 0 0,.slice T n c,.int .i64 nx,.int .u64 0,.slice E en2 ec] 248 (0,0))∧Rs tyTx 237 w' (.slice T n c) [y]∧Rs tyWr 212 w' (.slice y.A y.n y.c) l∧Rs tyDn 243 w' (.slice E en2 ec) [d]∧Rs tyPr 123 w' (.slice d.P d.pn d.pc) m∧A' y d l m
def WriteR (t:Tx)(l:List Wr)(x:Wr)(y:Tx)(d:Dn)(l':List Wr)(m:List Pr):Prop:=y.token=t.token∧d.v=⟨#[]⟩∧d.ov=false∧m= []∧((d.er=4∧l'=l)∨(d.er=0∧SetR l x l'∧l'.length≤24∧sizeW l'≤512))
def GetRR (t:Tx)(l:List Wr)(y:Tx)(d:Dn)(l':List Wr)(m:List Pr):Prop:=y=t∧l'=l∧GetR l d.v∧d.er=0∧d.ov=false∧m= []
def ScanRR (t:Tx)(l:List Wr)(most:Int)(y:Tx)(d:Dn)(l':List Wr)(m:List Pr):Prop:=y=t∧l'=l∧d.v=⟨#[]⟩∧d.er=0∧d.ov=false∧m.Sublist (applied l)∧(m.length:Int)≤most
theorem eng_does_get (V KA HA TA:Option Addr)(vn vc kn kc hn hc tn tc:Nat)(room nx:Int)(g:Nat)(t:Tx)(l:List Wr)(key vl lo hi:ByteArray)(mo:Int)(w:World)(hg:w.heap[g]? =some (.cells #[.slice V vn vc,.int .i64 (room),.int .i64 (-1),.bool false,.int .i64 1,.int .i64 1,.int .i64 0,.slice none 0 0,.slice KA kn kc,.bool false,.slice HA hn hc,.slice none 0 0,.slice TA tn tc,.int .i64 nx,.int .u64 0,.slice none 0 0] 248 (0,0)))(hT:Rs tyTx 237 w (.slice TA tn tc) [t])(hW:Rs tyWr 212 w (.slice t.A t.n t.c) l)(hl:l.length≤1000):
  Calls Tryz.prog 185 #[.pointer (some ⟨g,0,none⟩),.agg #[.int .i64 1,.string t.token,.slice t.A t.n t.c,.bool false,.int .i64 0,.string ⟨#[]⟩,.string ⟨#[]⟩,.string ⟨#[]⟩,.string ⟨#[]⟩,.int .i64 0],.agg #[.int .i64 1,.string key,.string vl,.string lo,.string hi,.int .i64 mo]] w (DoesV V KA HA vn vc kn kc hn hc room nx g (GetRR t l) w):=by
 have hlt:=blk_lt hg
 have HB:Hid (Only g w w):=h_ (Only.refl _ _)
 have HG0:=h_ hg
 have KG:=h_ hg
 clear hg
 have HT:=h_ hT
 clear hT
 have HW:=h_ hW
 clear hW
 go_enter Tryz.func185,Tryz.ntmps185
 have nG:g≠w.heap.size:=Nat.ne_of_lt hlt
 go_upto_region 8 with(fail)
 refine nm fun w1 hb=>?_
 have kTB:=hid_mv (show w1.heap[w.heap.size]? =some (.cells #[.int .i64 1,.string t.token,.slice t.A t.n t.c,.bool false,.int .i64 0,.string ⟨#[]⟩,.string ⟨#[]⟩,.string ⟨#[]⟩,.string ⟨#[]⟩,.int .i64 0] 237 (0,0))from bb (bb (bb (bb (blk_new' _ _ _ (by simp)) (one _ _)) (one _ _)) (one _ _)) hb)
 have kOP:=hid_mv (show w1.heap[w.heap.size+1]? =some (.cells #[.int .i64 1,.string key,.string vl,.string lo,.string hi,.int .i64 mo] 59 (0,0))from bb (bb (bb (blk_new' _ _ _ (by simp)) (one _ _)) (one _ _)) hb)
 have kD:=hid_mv (show w1.heap[w.heap.size+1+1]? =some (.cells #[.int .i64 1,.int .i64 0,.string ⟨#[]⟩,.bool false,.slice none 0 0,.bool false] 243 (0,0))from bb (bb (blk_new' _ _ _ (by simp)) (one _ _)) hb)
 have kX:=hid_mv (show w1.heap[w.heap.size+1+1+1]? =some (.cells #[.string key,.string ⟨#[]⟩,.bool false] 212 (0,0))from bb (blk_new' _ _ _ (by simp)) hb)
 have hz:=(hb).size
 replace KG:=h_ (bb (bb (bb (bb (bb KG.out (one _ _)) (one _ _)) (one _ _)) (one _ _)) hb)
 obtain⟨KTB,TB0lt,TB0ne,TB0en⟩:=kTB
 obtain⟨KOP,OP0lt,OP0ne,OP0en⟩:=kOP
 obtain⟨KD,D0lt,D0ne,D0en⟩:=kD
 obtain⟨KX,X0lt,X0ne,X0en⟩:=kX
 replace HB:=h_ (only_call (only_alloc (only_alloc (only_alloc (only_alloc HB.out _) _) _) _) hb)
 have hs0_:=HB.out.size
 clear hb
 refine rg3 KTB KG KOP fun u1 hb hHeld=>?_
 obtain⟨hz,KG,KTB,KOP,KD,KX,HB⟩:=m6 hb KG KTB KOP KD KX HB
 refine t_ 0 ?_
 refine tq 1 (fun _ k=>bq k.1 2) ?_
 refine t_ 2 ?_
 refine t_ 3 ?_
 refine t_ 4 ?_
 refine t_ 5 ?_
 refine t_ 6 ?_
 refine t_ 7 ?_
 refine tq 8 (fun _ k=>bq k.2.1 7) ?_
 refine t_ 9 ?_
 refine tq 10 (fun _ k=>bq k.2.2 1) ?_
 refine rd 11 fun K hK=>?_
 go_simp
 go_at_call 221
 refine(view_get _ l key _ (Rs.only HW.out HB.out HG0.out (by decide)) hl).mono ?_
 rintro e w2 ⟨v,fd,rfl,hgr1,hb⟩
 have hgr0:=h_ hgr1
 clear hgr1
 obtain⟨hz,KG,KTB,KOP,KD,KX,HB⟩:=m6 hb KG KTB KOP KD KX HB
 refine bk hK ⟨KTB.out,KG.out,KOP.out⟩ fun hHeld=>?_
 refine t_ 12 ?_
 refine t_ 13 ?_
 refine t_ 14 ?_
 refine t_ 15 ?_
 refine rd 16 fun K hK=>?_
 have CD:=cells6 KD.out
 go_simp
 clear CD
 refine ns KD fun u2 ho kD=>?_
 obtain⟨hz,KG,KTB,KOP,KX,HB⟩:=o5 ho KG KTB KOP KX HB
 replace KD:=kD
 clear kD
 refine bk hK ⟨KTB.out,KG.out,KOP.out⟩ fun hHeld=>?_
 refine t_ 17 ?_
 refine rd 18 fun K hK=>?_
 have CD:=cells6 KD.out
 go_simp
 clear CD
 refine ns KD fun u3 ho kD=>?_
 obtain⟨hz,KG,KTB,KOP,KX,HB⟩:=o5 ho KG KTB KOP KX HB
 replace KD:=kD
 clear kD
 refine bk hK ⟨KTB.out,KG.out,KOP.out⟩ fun hHeld=>?_
 refine d_ ?_
 go_upto_region 18 with(fail)
 refine nm fun w8 hb=>?_
 obtain⟨hz,KG,KTB,KOP,KD,KX,HB⟩:=m6 hb KG KTB KOP KD KX HB
 refine rl2 10 KG KD fun u4 hb=>?_
 obtain⟨hz,KG,KTB,KOP,KD,KX,HB⟩:=m6 hb KG KTB KOP KD KX HB
 refine l_ 0 (.inr ⟨KG.out,KD.out⟩) ?_
 refine l_ 1 (.inr ⟨KG.out,KD.out⟩) ?_
 refine l_ 2 (.inr ⟨KG.out,KD.out⟩) ?_
 refine l_ 3 (.inr ⟨KG.out,KD.out⟩) ?_
 refine lq 4 (fun _ k=>bq k.1 15) ⟨KG.out,KD.out⟩ ?_
 refine ll 5 0 6 (fun _ k=>k.2) ⟨KG.out,KD.out⟩ Tryz.underlying243 ?_
 refine ld 6 fun K hK=>?_
 go_simp
 refine na fun u5 hb KY=>?_
 obtain⟨hz,KG,KTB,KOP,KD,KX,HB⟩:=m6 hb KG KTB KOP KD KX HB
 have Ylt:=blk_lt KY.out
 refine b_ hK (.inr ⟨KG.out,KD.out⟩) ?_
 refine ld 7 fun K hK=>?_
 obtain⟨i0,hInf,hz0,hz1,hz2⟩:=info_parts infoDn
 refine step_append_lies _ (by rfl) _ _ 172 (by rfl) _ 243 i0 _ 6 72 Tryz.underlying172 hInf hz0 hz1 hz2 rfl (by decide) (.slice none 0 0) 0 [] rfl (World.ownsRow_nil _ _ _ _) _ 1 1 (tyDn.enc (⟨0,v,fd,none,0,0,false⟩:Dn)) rfl rfl (World.news_of_block KY.out) (tyDn.one _) (by decide) (by decide) (by decide) (Nat.le_refl _) _ rfl ?_
 intro e ecap w9 hown hgr hat _
 have hb:=below_grown hgr
 have ege:u5.heap.size≤e:=hat.elim (fun h=>by cases h) (fun h=>by omega)
 have HDR:=h_ (Rs.of_own (T:=tyDn) (l:= [(⟨0,v,fd,none,0,0,false⟩:Dn)]) hown)
 clear hown hgr hat hInf hz0 hz1 hz2
 obtain⟨hz,KG,KTB,KOP,KD,KX,HB⟩:=m6 hb KG KTB KOP KD KX HB
 refine b_ hK (.inr ⟨KG.out,KD.out⟩) ?_
 refine l_ 8 (.inr ⟨KG.out,KD.out⟩) ?_
 refine l_ 9 (.inr ⟨KG.out,KD.out⟩) ?_
 refine ld 10 fun K hK=>?_
 have CG:=cells16 KG.out
 go_simp
 clear CG
 refine ns KG fun u6 ho kG=>?_
 obtain⟨hz,KTB,KOP,KD,KX,HDR,HB⟩:=o6 ho KTB KOP KD KX HDR HB
 replace KG:=kG
 clear kG
 refine b_ hK (.inl (by kernel_rfl)) ?_
 refine dl ?_
 go_wp2
 go_end0
 exact⟨_,_,_,t,_,_,_,(⟨0,v,fd,none,0,0,false⟩:Dn),l,[],rfl,HB.out,KG.out,(Rs.only HT.out HB.out HG0.out (by decide)),(Rs.only HW.out HB.out HG0.out (by decide)),HDR.out,Rs.nil _ _ _,rfl,rfl,hgr0.out,rfl,rfl,rfl⟩
theorem eng_does_scan (V KA HA TA:Option Addr)(vn vc kn kc hn hc tn tc:Nat)(room nx:Int)(g:Nat)(t:Tx)(l:List Wr)(key vl lo hi:ByteArray)(mo:Int)(w:World)(hg:w.heap[g]? =some (.cells #[.slice V vn vc,.int .i64 (room),.int .i64 (-1),.bool false,.int .i64 1,.int .i64 1,.int .i64 0,.slice none 0 0,.slice KA kn kc,.bool false,.slice HA hn hc,.slice none 0 0,.slice TA tn tc,.int .i64 nx,.int .u64 0,.slice none 0 0] 248 (0,0)))(hT:Rs tyTx 237 w (.slice TA tn tc) [t])(hW:Rs tyWr 212 w (.slice t.A t.n t.c) l)(hl:l.length≤1000)(hr:Hid (Rises l))(hm0:1≤mo)(hm1:mo≤16):
  Calls Tryz.prog 185 #[.pointer (some ⟨g,0,none⟩),.agg #[.int .i64 1,.string t.token,.slice t.A t.n t.c,.bool false,.int .i64 0,.string ⟨#[]⟩,.string ⟨#[]⟩,.string ⟨#[]⟩,.string ⟨#[]⟩,.int .i64 0],.agg #[.int .i64 4,.string key,.string vl,.string lo,.string hi,.int .i64 mo]] w (DoesV V KA HA vn vc kn kc hn hc room nx g (ScanRR t l mo) w):=by
 have hlt:=blk_lt hg
 have HB:Hid (Only g w w):=h_ (Only.refl _ _)
 have HG0:=h_ hg
 have KG:=h_ hg
 clear hg
 have HT:=h_ hT
 clear hT
 have HW:=h_ hW
 clear hW
 go_enter Tryz.func185,Tryz.ntmps185
 have nG:g≠w.heap.size:=Nat.ne_of_lt hlt
 go_upto_region 9 with(fail)
 refine nm fun w1 hb=>?_
 have kTB:=hid_mv (show w1.heap[w.heap.size]? =some (.cells #[.int .i64 1,.string t.token,.slice t.A t.n t.c,.bool false,.int .i64 0,.string ⟨#[]⟩,.string ⟨#[]⟩,.string ⟨#[]⟩,.string ⟨#[]⟩,.int .i64 0] 237 (0,0))from bb (bb (bb (bb (blk_new' _ _ _ (by simp)) (one _ _)) (one _ _)) (one _ _)) hb)
 have kOP:=hid_mv (show w1.heap[w.heap.size+1]? =some (.cells #[.int .i64 4,.string key,.string vl,.string lo,.string hi,.int .i64 mo] 59 (0,0))from bb (bb (bb (blk_new' _ _ _ (by simp)) (one _ _)) (one _ _)) hb)
 have kD:=hid_mv (show w1.heap[w.heap.size+1+1]? =some (.cells #[.int .i64 1,.int .i64 0,.string ⟨#[]⟩,.bool false,.slice none 0 0,.bool false] 243 (0,0))from bb (bb (blk_new' _ _ _ (by simp)) (one _ _)) hb)
 have kX:=hid_mv (show w1.heap[w.heap.size+1+1+1]? =some (.cells #[.string key,.string ⟨#[]⟩,.bool false] 212 (0,0))from bb (blk_new' _ _ _ (by simp)) hb)
 have hz:=(hb).size
 replace KG:=h_ (bb (bb (bb (bb (bb KG.out (one _ _)) (one _ _)) (one _ _)) (one _ _)) hb)
 obtain⟨KTB,TB0lt,TB0ne,TB0en⟩:=kTB
 obtain⟨KOP,OP0lt,OP0ne,OP0en⟩:=kOP
 obtain⟨KD,D0lt,D0ne,D0en⟩:=kD
 obtain⟨KX,X0lt,X0ne,X0en⟩:=kX
 replace HB:=h_ (only_call (only_alloc (only_alloc (only_alloc (only_alloc HB.out _) _) _) _) hb)
 have hs0_:=HB.out.size
 clear hb
 refine rg3 KTB KG KOP fun u1 hb hHeld=>?_
 obtain⟨hz,KG,KTB,KOP,KD,KX,HB⟩:=m6 hb KG KTB KOP KD KX HB
 refine t_ 0 ?_
 refine tq 1 (fun _ k=>bq k.1 2) ?_
 refine t_ 2 ?_
 refine t_ 3 ?_
 refine t_ 4 ?_
 refine t_ 5 ?_
 refine t_ 6 ?_
 refine t_ 7 ?_
 refine tq 8 (fun _ k=>bq k.2.1 7) ?_
 refine t_ 9 ?_
 refine tq 10 (fun _ k=>bq k.2.2 3) ?_
 refine t_ 11 ?_
 refine tq 12 (fun _ k=>bq k.2.2 4) ?_
 refine t_ 13 ?_
 refine tq 14 (fun _ k=>bq k.2.2 5) ?_
 refine rd 15 fun K hK=>?_
 go_simp
 go_at_call 222
 refine(view_scan _ l lo hi mo _ (Rs.only HW.out HB.out HG0.out (by decide)) hl hr.out hm0 hm1).mono ?_
 rintro e w2 ⟨m,⟨v2,rfl,hR2,hb⟩,h1,h2⟩
 obtain⟨P,pc,rfl,_⟩:=hR2.slice
 have HP:=h_ hR2
 have hm2:=h_ h1
 have hm3:=h_ h2
 clear hR2 h1 h2
 obtain⟨hz,KG,KTB,KOP,KD,KX,HB⟩:=m6 hb KG KTB KOP KD KX HB
 refine bk hK ⟨KTB.out,KG.out,KOP.out⟩ fun hHeld=>?_
 refine t_ 16 ?_
 refine rd 17 fun K hK=>?_
 have CD:=cells6 KD.out
 go_simp
 clear CD
 refine ns KD fun u2 ho kD=>?_
 obtain⟨hz,KG,KTB,KOP,KX,HP,HB⟩:=o6 ho KG KTB KOP KX HP HB
 replace KD:=kD
 clear kD
 refine bk hK ⟨KTB.out,KG.out,KOP.out⟩ fun hHeld=>?_
 refine d_ ?_
 go_upto_region 18 with(fail)
 refine nm fun w8 hb=>?_
 obtain⟨hz,KG,KTB,KOP,KD,KX,HP,HB⟩:=m7 hb KG KTB KOP KD KX HP HB
 refine rl2 10 KG KD fun u3 hb=>?_
 obtain⟨hz,KG,KTB,KOP,KD,KX,HP,HB⟩:=m7 hb KG KTB KOP KD KX HP HB
 refine l_ 0 (.inr ⟨KG.out,KD.out⟩) ?_
 refine l_ 1 (.inr ⟨KG.out,KD.out⟩) ?_
 refine l_ 2 (.inr ⟨KG.out,KD.out⟩) ?_
 refine l_ 3 (.inr ⟨KG.out,KD.out⟩) ?_
 refine lq 4 (fun _ k=>bq k.1 15) ⟨KG.out,KD.out⟩ ?_
 refine ll 5 0 6 (fun _ k=>k.2) ⟨KG.out,KD.out⟩ Tryz.underlying243 ?_
 refine ld 6 fun K hK=>?_
 go_simp
 refine na fun u4 hb KY=>?_
 obtain⟨hz,KG,KTB,KOP,KD,KX,HP,HB⟩:=m7 hb KG KTB KOP KD KX HP HB
 have Ylt:=blk_lt KY.out
 refine b_ hK (.inr ⟨KG.out,KD.out⟩) ?_
 refine ld 7 fun K hK=>?_
 obtain⟨i0,hInf,hz0,hz1,hz2⟩:=info_parts infoDn
 refine step_append_lies _ (by rfl) _ _ 172 (by rfl) _ 243 i0 _ 6 72 Tryz.underlying172 hInf hz0 hz1 hz2 rfl (by decide) (.slice none 0 0) 0 [] rfl (World.ownsRow_nil _ _ _ _) _ 1 1 (tyDn.enc (⟨0,⟨#[]⟩,false,P,m.length,pc,false⟩:Dn)) rfl rfl (World.news_of_block KY.out) (tyDn.one _) (by decide) (by decide) (by decide) (Nat.le_refl _) _ rfl ?_
 intro e ecap w9 hown hgr hat _
 have hb:=below_grown hgr
 have ege:u4.heap.size≤e:=hat.elim (fun h=>by cases h) (fun h=>by omega)
 have HDR:=h_ (Rs.of_own (T:=tyDn) (l:= [(⟨0,⟨#[]⟩,false,P,m.length,pc,false⟩:Dn)]) hown)
 clear hown hgr hat hInf hz0 hz1 hz2
 obtain⟨hz,KG,KTB,KOP,KD,KX,HP,HB⟩:=m7 hb KG KTB KOP KD KX HP HB
 refine b_ hK (.inr ⟨KG.out,KD.out⟩) ?_
 refine l_ 8 (.inr ⟨KG.out,KD.out⟩) ?_
 refine l_ 9 (.inr ⟨KG.out,KD.out⟩) ?_
 refine ld 10 fun K hK=>?_
 have CG:=cells16 KG.out
 go_simp
 clear CG
 refine ns KG fun u5 ho kG=>?_
 obtain⟨hz,KTB,KOP,KD,KX,HP,HDR,HB⟩:=o7 ho KTB KOP KD KX HP HDR HB
 replace KG:=kG
 clear kG
 refine b_ hK (.inl (by kernel_rfl)) ?_
 refine dl ?_
 go_wp2
 go_end0
 exact⟨_,_,_,t,_,_,_,(⟨0,⟨#[]⟩,false,P,m.length,pc,false⟩:Dn),l,m,rfl,HB.out,KG.out,(Rs.only HT.out HB.out HG0.out (by decide)),(Rs.only HW.out HB.out HG0.out (by decide)),HDR.out,HP.out,rfl,rfl,rfl,rfl,rfl,hm2.out,hm3.out⟩
theorem sizeW_app (l m:List Wr):sizeW (l++m)=sizeW l+sizeW m:=by simp[sizeW]
theorem sizeW_cons (x:Wr)(l:List Wr):sizeW (x :: l)=x.key.size+x.val.size+sizeW l:=by simp[sizeW]
theorem setR_size {l l':List Wr}{x:Wr}(h:SetR l x l'):sizeW l'≤sizeW l+(x.key.size+x.val.size):=by
 rcases h with⟨i,hi,_,rfl⟩|⟨_,⟨_,rfl⟩|⟨i,hi,_,_,rfl⟩⟩
 ·have e1:l.set i x=l.take i++x :: l.drop (i+1):=List.set_eq_take_append_cons_drop.trans (if_pos hi)
  have e2:l=l.take i++l[i] :: l.drop (i+1):=by rw[List.getElem_cons_drop];exact(List.take_append_drop i l).symm
  have e3:sizeW l=sizeW (l.take i)+(l[i].key.size+l[i].val.size+sizeW (l.drop (i+1))):=by
   conv=>lhs;rw[e2]
   rw[sizeW_app,sizeW_cons]
  rw[e1,sizeW_app,sizeW_cons]
  omega
 ·rw [sizeW_app,sizeW_cons]
  simp[sizeW]
 ·have e3:sizeW l=sizeW (l.take i)+sizeW (l.drop i):=by rw[←sizeW_app,List.take_append_drop]
  rw[sizeW_app,sizeW_cons]
  omega
theorem eng_does_put (V KA HA TA:Option Addr)(vn vc kn kc hn hc tn tc:Nat)(room nx:Int)(g:Nat)(t:Tx)(l:List Wr)(key vl lo hi:ByteArray)(mo:Int)(w:World)(hg:w.heap[g]? =some (.cells #[.slice V vn vc,.int .i64 (room),.int .i64 (-1),.bool false,.int .i64 1,.int .i64 1,.int .i64 0,.slice none 0 0,.slice KA kn kc,.bool false,.slice HA hn hc,.slice none 0 0,.slice TA tn tc,.int .i64 nx,.int .u64 0,.slice none 0 0] 248 (0,0)))(hT:Rs tyTx 237 w (.slice TA tn tc) [t])(hW:Rs tyWr 212 w (.slice t.A t.n t.c) l)(hl:l.length≤1000)(hsz0:Hid (sizeW l≤512))(hk0:key.size≤32)(hv0:vl.size≤64):
  Calls Tryz.prog 185 #[.pointer (some ⟨g,0,none⟩),.agg #[.int .i64 1,.string t.token,.slice t.A t.n t.c,.bool false,.int .i64 0,.string ⟨#[]⟩,.string ⟨#[]⟩,.string ⟨#[]⟩,.string ⟨#[]⟩,.int .i64 0],.agg #[.int .i64 2,.string key,.string vl,.string lo,.string hi,.int .i64 mo]] w (DoesV V KA HA vn vc kn kc hn hc room nx g (WriteR t l (⟨key,vl,false⟩:Wr)) w):=by
 have hlt:=blk_lt hg
 have HB:Hid (Only g w w):=h_ (Only.refl _ _)
 have HG0:=h_ hg
 have KG:=h_ hg
 clear hg
 have HT:=h_ hT
 clear hT
 have HW:=h_ hW
 clear hW
 go_enter Tryz.func185,Tryz.ntmps185
 have nG:g≠w.heap.size:=Nat.ne_of_lt hlt
 go_upto_region 13 with(fail)
 refine nm fun w1 hb=>?_
 have kTB:=hid_mv (show w1.heap[w.heap.size]? =some (.cells #[.int .i64 1,.string t.token,.slice t.A t.n t.c,.bool false,.int .i64 0,.string ⟨#[]⟩,.string ⟨#[]⟩,.string ⟨#[]⟩,.string ⟨#[]⟩,.int .i64 0] 237 (0,0))from bb (bb (bb (bb (blk_new' _ _ _ (by simp)) (one _ _)) (one _ _)) (one _ _)) hb)
 have kOP:=hid_mv (show w1.heap[w.heap.size+1]? =some (.cells #[.int .i64 2,.string key,.string vl,.string lo,.string hi,.int .i64 mo] 59 (0,0))from bb (bb (bb (blk_new' _ _ _ (by simp)) (one _ _)) (one _ _)) hb)
 have kD:=hid_mv (show w1.heap[w.heap.size+1+1]? =some (.cells #[.int .i64 1,.int .i64 0,.string ⟨#[]⟩,.bool false,.slice none 0 0,.bool false] 243 (0,0))from bb (bb (blk_new' _ _ _ (by simp)) (one _ _)) hb)
 have kX:=hid_mv (show w1.heap[w.heap.size+1+1+1]? =some (.cells #[.string key,.string vl,.bool false] 212 (0,0))from bb (blk_new' _ _ _ (by simp)) hb)
 have hz:=(hb).size
 replace KG:=h_ (bb (bb (bb (bb (bb KG.out (one _ _)) (one _ _)) (one _ _)) (one _ _)) hb)
 obtain⟨KTB,TB0lt,TB0ne,TB0en⟩:=kTB
 obtain⟨KOP,OP0lt,OP0ne,OP0en⟩:=kOP
 obtain⟨KD,D0lt,D0ne,D0en⟩:=kD
 obtain⟨KX,X0lt,X0ne,X0en⟩:=kX
 replace HB:=h_ (only_call (only_alloc (only_alloc (only_alloc (only_alloc HB.out _) _) _) _) hb)
 have hs0_:=HB.out.size
 clear hb
 have CTB:=cells10 KTB.out
 have CX:=cells3 KX.out
 go_wp2_with fail
 refine(view_set _ l (⟨key,vl,false⟩:Wr) _ (Rs.only HW.out HB.out HG0.out (by decide)) hl).mono ?_
 rintro e w2 ⟨l2,⟨v2,rfl,hR2,hb⟩,hS1⟩
 obtain⟨A2,k2,rfl,_⟩:=hR2.slice
 have HW2:=h_ hR2
 have hsz:=setR_size hS1
 have hS:=h_ hS1
 have hsz2:Hid (sizeW l2≤1000000000):=h_ (by have:=hsz0.out;simp only at hsz;have e0:(⟨#[]⟩:ByteArray).size=0:=rfl;omega)
 clear hR2 hS1 hsz
 clear CTB CX
 obtain⟨hz,KG,KTB,KOP,KD,KX,HB⟩:=m6 hb KG KTB KOP KD KX HB
 by_cases h24:24<l2.length
 ·have c1:((24:Int)<(l2.length:Int))=True:=eq_true (by omega)
  go_upto_region 15 with(fail)
  refine nm fun w3 hb=>?_
  obtain⟨hz,KG,KTB,KOP,KD,KX,HW2,HB⟩:=m7 hb KG KTB KOP KD KX HW2 HB
  have CD:=cells6 KD.out
  go_upto_region 18 with(fail)
  refine nm fun w8 hb=>?_
  clear CD
  obtain⟨ho,kD⟩:=ps KD hb
  obtain⟨hz,KG,KTB,KOP,KX,HW2,HB⟩:=o6 ho KG KTB KOP KX HW2 HB
  replace KD:=kD
  clear kD
  refine rl2 10 KG KD fun u1 hb=>?_
  obtain⟨hz,KG,KTB,KOP,KD,KX,HW2,HB⟩:=m7 hb KG KTB KOP KD KX HW2 HB
  refine l_ 0 (.inr ⟨KG.out,KD.out⟩) ?_
  refine l_ 1 (.inr ⟨KG.out,KD.out⟩) ?_
  refine l_ 2 (.inr ⟨KG.out,KD.out⟩) ?_
  refine l_ 3 (.inr ⟨KG.out,KD.out⟩) ?_
  refine lq 4 (fun _ k=>bq k.1 15) ⟨KG.out,KD.out⟩ ?_
  refine ll 5 0 6 (fun _ k=>k.2) ⟨KG.out,KD.out⟩ Tryz.underlying243 ?_
  refine ld 6 fun K hK=>?_
  go_simp
  refine na fun u2 hb KY=>?_
  obtain⟨hz,KG,KTB,KOP,KD,KX,HW2,HB⟩:=m7 hb KG KTB KOP KD KX HW2 HB
  have Ylt:=blk_lt KY.out
  refine b_ hK (.inr ⟨KG.out,KD.out⟩) ?_
  refine ld 7 fun K hK=>?_
  obtain⟨i0,hInf,hz0,hz1,hz2⟩:=info_parts infoDn
  refine step_append_lies _ (by rfl) _ _ 172 (by rfl) _ 243 i0 _ 6 72 Tryz.underlying172 hInf hz0 hz1 hz2 rfl (by decide) (.slice none 0 0) 0 [] rfl (World.ownsRow_nil _ _ _ _) _ 1 1 (tyDn.enc (⟨4,⟨#[]⟩,false,none,0,0,false⟩:Dn)) rfl rfl (World.news_of_block KY.out) (tyDn.one _) (by decide) (by decide) (by decide) (Nat.le_refl _) _ rfl ?_
  intro e ecap w9 hown hgr hat _
  have hb:=below_grown hgr
  have ege:u2.heap.size≤e:=hat.elim (fun h=>by cases h) (fun h=>by omega)
  have HDR:=h_ (Rs.of_own (T:=tyDn) (l:= [(⟨4,⟨#[]⟩,false,none,0,0,false⟩:Dn)]) hown)
  clear hown hgr hat hInf hz0 hz1 hz2
  obtain⟨hz,KG,KTB,KOP,KD,KX,HW2,HB⟩:=m7 hb KG KTB KOP KD KX HW2 HB
  refine b_ hK (.inr ⟨KG.out,KD.out⟩) ?_
  refine l_ 8 (.inr ⟨KG.out,KD.out⟩) ?_
  refine l_ 9 (.inr ⟨KG.out,KD.out⟩) ?_
  refine ld 10 fun K hK=>?_
  have CG:=cells16 KG.out
  go_simp
  clear CG
  refine ns KG fun u3 ho kG=>?_
  obtain⟨hz,KTB,KOP,KD,KX,HW2,HDR,HB⟩:=o7 ho KTB KOP KD KX HW2 HDR HB
  replace KG:=kG
  clear kG
  refine b_ hK (.inl (by kernel_rfl)) ?_
  refine dl ?_
  go_wp2
  go_end0
  exact⟨_,_,_,t,_,_,_,(⟨4,⟨#[]⟩,false,none,0,0,false⟩:Dn),l,[],rfl,HB.out,KG.out,(Rs.only HT.out HB.out HG0.out (by decide)),(Rs.only HW.out HB.out HG0.out (by decide)),HDR.out,Rs.nil _ _ _,rfl,rfl,rfl,rfl,.inl ⟨rfl,rfl⟩⟩
 ·have c1:((24:Int)<(l2.length:Int))=False:=eq_false (by omega)
  go_wp2_with fail
  refine(view_size _ l2 _ HW2.out (by omega) hsz2.out).mono ?_
  rintro e w3 ⟨rfl,hb⟩
  obtain⟨hz,KG,KTB,KOP,KD,KX,HW2,HB⟩:=m7 hb KG KTB KOP KD KX HW2 HB
  by_cases h512:512<sizeW l2
  ·have c2:((512:Int)<(sizeW l2:Int))=True:=eq_true (by omega)
   go_upto_region 15 with(fail)
   refine nm fun w4 hb=>?_
   obtain⟨hz,KG,KTB,KOP,KD,KX,HW2,HB⟩:=m7 hb KG KTB KOP KD KX HW2 HB
   have CD:=cells6 KD.out
   go_upto_region 18 with(fail)
   refine nm fun w8 hb=>?_
   clear CD
   obtain⟨ho,kD⟩:=ps KD hb
   obtain⟨hz,KG,KTB,KOP,KX,HW2,HB⟩:=o6 ho KG KTB KOP KX HW2 HB
   replace KD:=kD
   clear kD
   refine rl2 10 KG KD fun u1 hb=>?_
   obtain⟨hz,KG,KTB,KOP,KD,KX,HW2,HB⟩:=m7 hb KG KTB KOP KD KX HW2 HB
   refine l_ 0 (.inr ⟨KG.out,KD.out⟩) ?_
   refine l_ 1 (.inr ⟨KG.out,KD.out⟩) ?_
   refine l_ 2 (.inr ⟨KG.out,KD.out⟩) ?_
   refine l_ 3 (.inr ⟨KG.out,KD.out⟩) ?_
   refine lq 4 (fun _ k=>bq k.1 15) ⟨KG.out,KD.out⟩ ?_
   refine ll 5 0 6 (fun _ k=>k.2) ⟨KG.out,KD.out⟩ Tryz.underlying243 ?_
   refine ld 6 fun K hK=>?_
   go_simp
   refine na fun u2 hb KY=>?_
   obtain⟨hz,KG,KTB,KOP,KD,KX,HW2,HB⟩:=m7 hb KG KTB KOP KD KX HW2 HB
   have Ylt:=blk_lt KY.out
   refine b_ hK (.inr ⟨KG.out,KD.out⟩) ?_
   refine ld 7 fun K hK=>?_
   obtain⟨i0,hInf,hz0,hz1,hz2⟩:=info_parts infoDn
   refine step_append_lies _ (by rfl) _ _ 172 (by rfl) _ 243 i0 _ 6 72 Tryz.underlying172 hInf hz0 hz1 hz2 rfl (by decide) (.slice none 0 0) 0 [] rfl (World.ownsRow_nil _ _ _ _) _ 1 1 (tyDn.enc (⟨4,⟨#[]⟩,false,none,0,0,false⟩:Dn)) rfl rfl (World.news_of_block KY.out) (tyDn.one _) (by decide) (by decide) (by decide) (Nat.le_refl _) _ rfl ?_
   intro e ecap w9 hown hgr hat _
   have hb:=below_grown hgr
   have ege:u2.heap.size≤e:=hat.elim (fun h=>by cases h) (fun h=>by omega)
   have HDR:=h_ (Rs.of_own (T:=tyDn) (l:= [(⟨4,⟨#[]⟩,false,none,0,0,false⟩:Dn)]) hown)
   clear hown hgr hat hInf hz0 hz1 hz2
   obtain⟨hz,KG,KTB,KOP,KD,KX,HW2,HB⟩:=m7 hb KG KTB KOP KD KX HW2 HB
   refine b_ hK (.inr ⟨KG.out,KD.out⟩) ?_
   refine l_ 8 (.inr ⟨KG.out,KD.out⟩) ?_
   refine l_ 9 (.inr ⟨KG.out,KD.out⟩) ?_
   refine ld 10 fun K hK=>?_
   have CG:=cells16 KG.out
   go_simp
   clear CG
   refine ns KG fun u3 ho kG=>?_
   obtain⟨hz,KTB,KOP,KD,KX,HW2,HDR,HB⟩:=o7 ho KTB KOP KD KX HW2 HDR HB
   replace KG:=kG
   clear kG
   refine b_ hK (.inl (by kernel_rfl)) ?_
   refine dl ?_
   go_wp2
   go_end0
   exact⟨_,_,_,t,_,_,_,(⟨4,⟨#[]⟩,false,none,0,0,false⟩:Dn),l,[],rfl,HB.out,KG.out,(Rs.only HT.out HB.out HG0.out (by decide)),(Rs.only HW.out HB.out HG0.out (by decide)),HDR.out,Rs.nil _ _ _,rfl,rfl,rfl,rfl,.inl ⟨rfl,rfl⟩⟩
  ·have c2:((512:Int)<(sizeW l2:Int))=False:=eq_false (by omega)
   go_upto_region 16 with(fail)
   refine nm fun w4 hb=>?_
   obtain⟨hz,KG,KTB,KOP,KD,KX,HW2,HB⟩:=m7 hb KG KTB KOP KD KX HW2 HB
   have CTB:=cells10 KTB.out
   go_upto_region 17 with(fail)
   refine nm fun w5 hb=>?_
   clear CTB
   obtain⟨ho,kTB⟩:=ps KTB hb
   obtain⟨hz,KG,KOP,KD,KX,HW2,HB⟩:=o6 ho KG KOP KD KX HW2 HB
   replace KTB:=kTB
   clear kTB
   have CTB:=cells10 KTB.out
   go_wp2_with fail
   refine(eng_put V none KA HA TA vn vc 0 0 kn kc hn hc tn tc room nx g t (⟨t.token,A2,l2.length,k2⟩:Tx) none 0 0 _ KG.out (Rs.only HT.out HB.out HG0.out (by decide))).mono ?_
   rintro e w6 ⟨T2,tn2,tc2,rfl,hb,hk,hRT⟩
   have HT2:=h_ hRT
   clear hRT
   clear CTB
   obtain⟨hz,KTB,KOP,KD,KX,HW2,HB⟩:=o6 hb KTB KOP KD KX HW2 HB
   replace KG:=h_ hk
   clear hk
   go_upto_region 18 with(fail)
   refine nm fun w8 hb=>?_
   obtain⟨hz,KG,KTB,KOP,KD,KX,HW2,HT2,HB⟩:=m8 hb KG KTB KOP KD KX HW2 HT2 HB
   refine rl2 10 KG KD fun u1 hb=>?_
   obtain⟨hz,KG,KTB,KOP,KD,KX,HW2,HT2,HB⟩:=m8 hb KG KTB KOP KD KX HW2 HT2 HB
   refine l_ 0 (.inr ⟨KG.out,KD.out⟩) ?_
   refine l_ 1 (.inr ⟨KG.out,KD.out⟩) ?_
   refine l_ 2 (.inr ⟨KG.out,KD.out⟩) ?_
   refine l_ 3 (.inr ⟨KG.out,KD.out⟩) ?_
   refine lq 4 (fun _ k=>bq k.1 15) ⟨KG.out,KD.out⟩ ?_
   refine ll 5 0 6 (fun _ k=>k.2) ⟨KG.out,KD.out⟩ Tryz.underlying243 ?_
   refine ld 6 fun K hK=>?_
   go_simp
   refine na fun u2 hb KY=>?_
   obtain⟨hz,KG,KTB,KOP,KD,KX,HW2,HT2,HB⟩:=m8 hb KG KTB KOP KD KX HW2 HT2 HB
   have Ylt:=blk_lt KY.out
   refine b_ hK (.inr ⟨KG.out,KD.out⟩) ?_
   refine ld 7 fun K hK=>?_
   obtain⟨i0,hInf,hz0,hz1,hz2⟩:=info_parts infoDn
   refine step_append_lies _ (by rfl) _ _ 172 (by rfl) _ 243 i0 _ 6 72 Tryz.underlying172 hInf hz0 hz1 hz2 rfl (by decide) (.slice none 0 0) 0 [] rfl (World.ownsRow_nil _ _ _ _) _ 1 1 (tyDn.enc (⟨0,⟨#[]⟩,false,none,0,0,false⟩:Dn)) rfl rfl (World.news_of_block KY.out) (tyDn.one _) (by decide) (by decide) (by decide) (Nat.le_refl _) _ rfl ?_
   intro e ecap w9 hown hgr hat _
   have hb:=below_grown hgr
   have ege:u2.heap.size≤e:=hat.elim (fun h=>by cases h) (fun h=>by omega)
   have HDR:=h_ (Rs.of_own (T:=tyDn) (l:= [(⟨0,⟨#[]⟩,false,none,0,0,false⟩:Dn)]) hown)
   clear hown hgr hat hInf hz0 hz1 hz2
   obtain⟨hz,KG,KTB,KOP,KD,KX,HW2,HT2,HB⟩:=m8 hb KG KTB KOP KD KX HW2 HT2 HB
   refine b_ hK (.inr ⟨KG.out,KD.out⟩) ?_
   refine l_ 8 (.inr ⟨KG.out,KD.out⟩) ?_
   refine l_ 9 (.inr ⟨KG.out,KD.out⟩) ?_
   refine ld 10 fun K hK=>?_
   have CG:=cells16 KG.out
   go_simp
   clear CG
   refine ns KG fun u3 ho kG=>?_
   obtain⟨hz,KTB,KOP,KD,KX,HW2,HT2,HDR,HB⟩:=o8 ho KTB KOP KD KX HW2 HT2 HDR HB
   replace KG:=kG
   clear kG
   refine b_ hK (.inl (by kernel_rfl)) ?_
   refine dl ?_
   go_wp2
   go_end0
   exact⟨_,_,_,(⟨t.token,A2,l2.length,k2⟩:Tx),_,_,_,(⟨0,⟨#[]⟩,false,none,0,0,false⟩:Dn),l2,[],rfl,HB.out,KG.out,HT2.out,HW2.out,HDR.out,Rs.nil _ _ _,rfl,rfl,rfl,rfl,.inr ⟨rfl,hS.out,by omega,by omega⟩⟩
theorem eng_does_del (V KA HA TA:Option Addr)(vn vc kn kc hn hc tn tc:Nat)(room nx:Int)(g:Nat)(t:Tx)(l:List Wr)(key vl lo hi:ByteArray)(mo:Int)(w:World)(hg:w.heap[g]? =some (.cells #[.slice V vn vc,.int .i64 (room),.int .i64 (-1),.bool false,.int .i64 1,.int .i64 1,.int .i64 0,.slice none 0 0,.slice KA kn kc,.bool false,.slice HA hn hc,.slice none 0 0,.slice TA tn tc,.int .i64 nx,.int .u64 0,.slice none 0 0] 248 (0,0)))(hT:Rs tyTx 237 w (.slice TA tn tc) [t])(hW:Rs tyWr 212 w (.slice t.A t.n t.c) l)(hl:l.length≤1000)(hsz0:Hid (sizeW l≤512))(hk0:key.size≤32)(hv0:vl.size≤64):
  Calls Tryz.prog 185 #[.pointer (some ⟨g,0,none⟩),.agg #[.int .i64 1,.string t.token,.slice t.A t.n t.c,.bool false,.int .i64 0,.string ⟨#[]⟩,.string ⟨#[]⟩,.string ⟨#[]⟩,.string ⟨#[]⟩,.int .i64 0],.agg #[.int .i64 3,.string key,.string vl,.string lo,.string hi,.int .i64 mo]] w (DoesV V KA HA vn vc kn kc hn hc room nx g (WriteR t l (⟨key,⟨#[]⟩,true⟩:Wr)) w):=by
 have hlt:=blk_lt hg
 have HB:Hid (Only g w w):=h_ (Only.refl _ _)
 have HG0:=h_ hg
 have KG:=h_ hg
 clear hg
 have HT:=h_ hT
 clear hT
 have HW:=h_ hW
 clear hW
 go_enter Tryz.func185,Tryz.ntmps185
 have nG:g≠w.heap.size:=Nat.ne_of_lt hlt
 go_upto_region 11 with(fail)
 refine nm fun w0 hb=>?_
 have kTB:=hid_mv (show w0.heap[w.heap.size]? =some (.cells #[.int .i64 1,.string t.token,.slice t.A t.n t.c,.bool false,.int .i64 0,.string ⟨#[]⟩,.string ⟨#[]⟩,.string ⟨#[]⟩,.string ⟨#[]⟩,.int .i64 0] 237 (0,0))from bb (bb (bb (bb (blk_new' _ _ _ (by simp)) (one _ _)) (one _ _)) (one _ _)) hb)
 have kOP:=hid_mv (show w0.heap[w.heap.size+1]? =some (.cells #[.int .i64 3,.string key,.string vl,.string lo,.string hi,.int .i64 mo] 59 (0,0))from bb (bb (bb (blk_new' _ _ _ (by simp)) (one _ _)) (one _ _)) hb)
 have kD:=hid_mv (show w0.heap[w.heap.size+1+1]? =some (.cells #[.int .i64 1,.int .i64 0,.string ⟨#[]⟩,.bool false,.slice none 0 0,.bool false] 243 (0,0))from bb (bb (blk_new' _ _ _ (by simp)) (one _ _)) hb)
 have kX:=hid_mv (show w0.heap[w.heap.size+1+1+1]? =some (.cells #[.string key,.string ⟨#[]⟩,.bool true] 212 (0,0))from bb (blk_new' _ _ _ (by simp)) hb)
 have hz:=(hb).size
 replace KG:=h_ (bb (bb (bb (bb (bb KG.out (one _ _)) (one _ _)) (one _ _)) (one _ _)) hb)
 obtain⟨KTB,TB0lt,TB0ne,TB0en⟩:=kTB
 obtain⟨KOP,OP0lt,OP0ne,OP0en⟩:=kOP
 obtain⟨KD,D0lt,D0ne,D0en⟩:=kD
 obtain⟨KX,X0lt,X0ne,X0en⟩:=kX
 replace HB:=h_ (only_call (only_alloc (only_alloc (only_alloc (only_alloc HB.out _) _) _) _) hb)
 have hs0_:=HB.out.size
 clear hb
 have CX:=cells3 KX.out
 go_upto_region 13 with(fail)
 refine nm fun w1 hb=>?_
 clear CX
 obtain⟨hz,KG,KTB,KOP,KD,KX,HB⟩:=m6 hb KG KTB KOP KD KX HB
 have CTB:=cells10 KTB.out
 have CX:=cells3 KX.out
 go_wp2_with fail
 refine(view_set _ l (⟨key,⟨#[]⟩,true⟩:Wr) _ (Rs.only HW.out HB.out HG0.out (by decide)) hl).mono ?_
 rintro e w2 ⟨l2,⟨v2,rfl,hR2,hb⟩,hS1⟩
 obtain⟨A2,k2,rfl,_⟩:=hR2.slice
 have HW2:=h_ hR2
 have hsz:=setR_size hS1
 have hS:=h_ hS1
 have hsz2:Hid (sizeW l2≤1000000000):=h_ (by have:=hsz0.out;simp only at hsz;have e0:(⟨#[]⟩:ByteArray).size=0:=rfl;omega)
 clear hR2 hS1 hsz
 clear CTB CX
 obtain⟨hz,KG,KTB,KOP,KD,KX,HB⟩:=m6 hb KG KTB KOP KD KX HB
 by_cases h24:24<l2.length
 ·have c1:((24:Int)<(l2.length:Int))=True:=eq_true (by omega)
  go_upto_region 15 with(fail)
  refine nm fun w3 hb=>?_
  obtain⟨hz,KG,KTB,KOP,KD,KX,HW2,HB⟩:=m7 hb KG KTB KOP KD KX HW2 HB
  have CD:=cells6 KD.out
  go_upto_region 18 with(fail)
  refine nm fun w8 hb=>?_
  clear CD
  obtain⟨ho,kD⟩:=ps KD hb
  obtain⟨hz,KG,KTB,KOP,KX,HW2,HB⟩:=o6 ho KG KTB KOP KX HW2 HB
  replace KD:=kD
  clear kD
  refine rl2 10 KG KD fun u1 hb=>?_
  obtain⟨hz,KG,KTB,KOP,KD,KX,HW2,HB⟩:=m7 hb KG KTB KOP KD KX HW2 HB
  refine l_ 0 (.inr ⟨KG.out,KD.out⟩) ?_
  refine l_ 1 (.inr ⟨KG.out,KD.out⟩) ?_
  refine l_ 2 (.inr ⟨KG.out,KD.out⟩) ?_
  refine l_ 3 (.inr ⟨KG.out,KD.out⟩) ?_
  refine lq 4 (fun _ k=>bq k.1 15) ⟨KG.out,KD.out⟩ ?_
  refine ll 5 0 6 (fun _ k=>k.2) ⟨KG.out,KD.out⟩ Tryz.underlying243 ?_
  refine ld 6 fun K hK=>?_
  go_simp
  refine na fun u2 hb KY=>?_
  obtain⟨hz,KG,KTB,KOP,KD,KX,HW2,HB⟩:=m7 hb KG KTB KOP KD KX HW2 HB
  have Ylt:=blk_lt KY.out
  refine b_ hK (.inr ⟨KG.out,KD.out⟩) ?_
  refine ld 7 fun K hK=>?_
  obtain⟨i0,hInf,hz0,hz1,hz2⟩:=info_parts infoDn
  refine step_append_lies _ (by rfl) _ _ 172 (by rfl) _ 243 i0 _ 6 72 Tryz.underlying172 hInf hz0 hz1 hz2 rfl (by decide) (.slice none 0 0) 0 [] rfl (World.ownsRow_nil _ _ _ _) _ 1 1 (tyDn.enc (⟨4,⟨#[]⟩,false,none,0,0,false⟩:Dn)) rfl rfl (World.news_of_block KY.out) (tyDn.one _) (by decide) (by decide) (by decide) (Nat.le_refl _) _ rfl ?_
  intro e ecap w9 hown hgr hat _
  have hb:=below_grown hgr
  have ege:u2.heap.size≤e:=hat.elim (fun h=>by cases h) (fun h=>by omega)
  have HDR:=h_ (Rs.of_own (T:=tyDn) (l:= [(⟨4,⟨#[]⟩,false,none,0,0,false⟩:Dn)]) hown)
  clear hown hgr hat hInf hz0 hz1 hz2
  obtain⟨hz,KG,KTB,KOP,KD,KX,HW2,HB⟩:=m7 hb KG KTB KOP KD KX HW2 HB
  refine b_ hK (.inr ⟨KG.out,KD.out⟩) ?_
  refine l_ 8 (.inr ⟨KG.out,KD.out⟩) ?_
  refine l_ 9 (.inr ⟨KG.out,KD.out⟩) ?_
  refine ld 10 fun K hK=>?_
  have CG:=cells16 KG.out
  go_simp
  clear CG
  refine ns KG fun u3 ho kG=>?_
  obtain⟨hz,KTB,KOP,KD,KX,HW2,HDR,HB⟩:=o7 ho KTB KOP KD KX HW2 HDR HB
  replace KG:=kG
  clear kG
  refine b_ hK (.inl (by kernel_rfl)) ?_
  refine dl ?_
  go_wp2
  go_end0
  exact⟨_,_,_,t,_,_,_,(⟨4,⟨#[]⟩,false,none,0,0,false⟩:Dn),l,[],rfl,HB.out,KG.out,(Rs.only HT.out HB.out HG0.out (by decide)),(Rs.only HW.out HB.out HG0.out (by decide)),HDR.out,Rs.nil _ _ _,rfl,rfl,rfl,rfl,.inl ⟨rfl,rfl⟩⟩
 ·have c1:((24:Int)<(l2.length:Int))=False:=eq_false (by omega)
  go_wp2_with fail
  refine(view_size _ l2 _ HW2.out (by omega) hsz2.out).mono ?_
  rintro e w3 ⟨rfl,hb⟩
  obtain⟨hz,KG,KTB,KOP,KD,KX,HW2,HB⟩:=m7 hb KG KTB KOP KD KX HW2 HB
  by_cases h512:512<sizeW l2
  ·have c2:((512:Int)<(sizeW l2:Int))=True:=eq_true (by omega)
   go_upto_region 15 with(fail)
   refine nm fun w4 hb=>?_
   obtain⟨hz,KG,KTB,KOP,KD,KX,HW2,HB⟩:=m7 hb KG KTB KOP KD KX HW2 HB
   have CD:=cells6 KD.out
   go_upto_region 18 with(fail)
   refine nm fun w8 hb=>?_
   clear CD
   obtain⟨ho,kD⟩:=ps KD hb
   obtain⟨hz,KG,KTB,KOP,KX,HW2,HB⟩:=o6 ho KG KTB KOP KX HW2 HB
   replace KD:=kD
   clear kD
   refine rl2 10 KG KD fun u1 hb=>?_
   obtain⟨hz,KG,KTB,KOP,KD,KX,HW2,HB⟩:=m7 hb KG KTB KOP KD KX HW2 HB
   refine l_ 0 (.inr ⟨KG.out,KD.out⟩) ?_
   refine l_ 1 (.inr ⟨KG.out,KD.out⟩) ?_
   refine l_ 2 (.inr ⟨KG.out,KD.out⟩) ?_
   refine l_ 3 (.inr ⟨KG.out,KD.out⟩) ?_
   refine lq 4 (fun _ k=>bq k.1 15) ⟨KG.out,KD.out⟩ ?_
   refine ll 5 0 6 (fun _ k=>k.2) ⟨KG.out,KD.out⟩ Tryz.underlying243 ?_
   refine ld 6 fun K hK=>?_
   go_simp
   refine na fun u2 hb KY=>?_
   obtain⟨hz,KG,KTB,KOP,KD,KX,HW2,HB⟩:=m7 hb KG KTB KOP KD KX HW2 HB
   have Ylt:=blk_lt KY.out
   refine b_ hK (.inr ⟨KG.out,KD.out⟩) ?_
   refine ld 7 fun K hK=>?_
   obtain⟨i0,hInf,hz0,hz1,hz2⟩:=info_parts infoDn
   refine step_append_lies _ (by rfl) _ _ 172 (by rfl) _ 243 i0 _ 6 72 Tryz.underlying172 hInf hz0 hz1 hz2 rfl (by decide) (.slice none 0 0) 0 [] rfl (World.ownsRow_nil _ _ _ _) _ 1 1 (tyDn.enc (⟨4,⟨#[]⟩,false,none,0,0,false⟩:Dn)) rfl rfl (World.news_of_block KY.out) (tyDn.one _) (by decide) (by decide) (by decide) (Nat.le_refl _) _ rfl ?_
   intro e ecap w9 hown hgr hat _
   have hb:=below_grown hgr
   have ege:u2.heap.size≤e:=hat.elim (fun h=>by cases h) (fun h=>by omega)
   have HDR:=h_ (Rs.of_own (T:=tyDn) (l:= [(⟨4,⟨#[]⟩,false,none,0,0,false⟩:Dn)]) hown)
   clear hown hgr hat hInf hz0 hz1 hz2
   obtain⟨hz,KG,KTB,KOP,KD,KX,HW2,HB⟩:=m7 hb KG KTB KOP KD KX HW2 HB
   refine b_ hK (.inr ⟨KG.out,KD.out⟩) ?_
   refine l_ 8 (.inr ⟨KG.out,KD.out⟩) ?_
   refine l_ 9 (.inr ⟨KG.out,KD.out⟩) ?_
   refine ld 10 fun K hK=>?_
   have CG:=cells16 KG.out
   go_simp
   clear CG
   refine ns KG fun u3 ho kG=>?_
   obtain⟨hz,KTB,KOP,KD,KX,HW2,HDR,HB⟩:=o7 ho KTB KOP KD KX HW2 HDR HB
   replace KG:=kG
   clear kG
   refine b_ hK (.inl (by kernel_rfl)) ?_
   refine dl ?_
   go_wp2
   go_end0
   exact⟨_,_,_,t,_,_,_,(⟨4,⟨#[]⟩,false,none,0,0,false⟩:Dn),l,[],rfl,HB.out,KG.out,(Rs.only HT.out HB.out HG0.out (by decide)),(Rs.only HW.out HB.out HG0.out (by decide)),HDR.out,Rs.nil _ _ _,rfl,rfl,rfl,rfl,.inl ⟨rfl,rfl⟩⟩
  ·have c2:((512:Int)<(sizeW l2:Int))=False:=eq_false (by omega)
   go_upto_region 16 with(fail)
   refine nm fun w4 hb=>?_
   obtain⟨hz,KG,KTB,KOP,KD,KX,HW2,HB⟩:=m7 hb KG KTB KOP KD KX HW2 HB
   have CTB:=cells10 KTB.out
   go_upto_region 17 with(fail)
   refine nm fun w5 hb=>?_
   clear CTB
   obtain⟨ho,kTB⟩:=ps KTB hb
   obtain⟨hz,KG,KOP,KD,KX,HW2,HB⟩:=o6 ho KG KOP KD KX HW2 HB
   replace KTB:=kTB
   clear kTB
   have CTB:=cells10 KTB.out
   go_wp2_with fail
   refine(eng_put V none KA HA TA vn vc 0 0 kn kc hn hc tn tc room nx g t (⟨t.token,A2,l2.length,k2⟩:Tx) none 0 0 _ KG.out (Rs.only HT.out HB.out HG0.out (by decide))).mono ?_
   rintro e w6 ⟨T2,tn2,tc2,rfl,hb,hk,hRT⟩
   have HT2:=h_ hRT
   clear hRT
   clear CTB
   obtain⟨hz,KTB,KOP,KD,KX,HW2,HB⟩:=o6 hb KTB KOP KD KX HW2 HB
   replace KG:=h_ hk
   clear hk
   go_upto_region 18 with(fail)
   refine nm fun w8 hb=>?_
   obtain⟨hz,KG,KTB,KOP,KD,KX,HW2,HT2,HB⟩:=m8 hb KG KTB KOP KD KX HW2 HT2 HB
   refine rl2 10 KG KD fun u1 hb=>?_
   obtain⟨hz,KG,KTB,KOP,KD,KX,HW2,HT2,HB⟩:=m8 hb KG KTB KOP KD KX HW2 HT2 HB
   refine l_ 0 (.inr ⟨KG.out,KD.out⟩) ?_
   refine l_ 1 (.inr ⟨KG.out,KD.out⟩) ?_
   refine l_ 2 (.inr ⟨KG.out,KD.out⟩) ?_
   refine l_ 3 (.inr ⟨KG.out,KD.out⟩) ?_
   refine lq 4 (fun _ k=>bq k.1 15) ⟨KG.out,KD.out⟩ ?_
   refine ll 5 0 6 (fun _ k=>k.2) ⟨KG.out,KD.out⟩ Tryz.underlying243 ?_
   refine ld 6 fun K hK=>?_
   go_simp
   refine na fun u2 hb KY=>?_
   obtain⟨hz,KG,KTB,KOP,KD,KX,HW2,HT2,HB⟩:=m8 hb KG KTB KOP KD KX HW2 HT2 HB
   have Ylt:=blk_lt KY.out
   refine b_ hK (.inr ⟨KG.out,KD.out⟩) ?_
   refine ld 7 fun K hK=>?_
   obtain⟨i0,hInf,hz0,hz1,hz2⟩:=info_parts infoDn
   refine step_append_lies _ (by rfl) _ _ 172 (by rfl) _ 243 i0 _ 6 72 Tryz.underlying172 hInf hz0 hz1 hz2 rfl (by decide) (.slice none 0 0) 0 [] rfl (World.ownsRow_nil _ _ _ _) _ 1 1 (tyDn.enc (⟨0,⟨#[]⟩,false,none,0,0,false⟩:Dn)) rfl rfl (World.news_of_block KY.out) (tyDn.one _) (by decide) (by decide) (by decide) (Nat.le_refl _) _ rfl ?_
   intro e ecap w9 hown hgr hat _
   have hb:=below_grown hgr
   have ege:u2.heap.size≤e:=hat.elim (fun h=>by cases h) (fun h=>by omega)
   have HDR:=h_ (Rs.of_own (T:=tyDn) (l:= [(⟨0,⟨#[]⟩,false,none,0,0,false⟩:Dn)]) hown)
   clear hown hgr hat hInf hz0 hz1 hz2
   obtain⟨hz,KG,KTB,KOP,KD,KX,HW2,HT2,HB⟩:=m8 hb KG KTB KOP KD KX HW2 HT2 HB
   refine b_ hK (.inr ⟨KG.out,KD.out⟩) ?_
   refine l_ 8 (.inr ⟨KG.out,KD.out⟩) ?_
   refine l_ 9 (.inr ⟨KG.out,KD.out⟩) ?_
   refine ld 10 fun K hK=>?_
   have CG:=cells16 KG.out
   go_simp
   clear CG
   refine ns KG fun u3 ho kG=>?_
   obtain⟨hz,KTB,KOP,KD,KX,HW2,HT2,HDR,HB⟩:=o8 ho KTB KOP KD KX HW2 HT2 HDR HB
   replace KG:=kG
   clear kG
   refine b_ hK (.inl (by kernel_rfl)) ?_
   refine dl ?_
   go_wp2
   go_end0
   exact⟨_,_,_,(⟨t.token,A2,l2.length,k2⟩:Tx),_,_,_,(⟨0,⟨#[]⟩,false,none,0,0,false⟩:Dn),l2,[],rfl,HB.out,KG.out,HT2.out,HW2.out,HDR.out,Rs.nil _ _ _,rfl,rfl,rfl,rfl,.inr ⟨rfl,hS.out,by omega,by omega⟩⟩
end Go.Proofs.YtmgmdiekpmffbaaGreatDoor.Top
