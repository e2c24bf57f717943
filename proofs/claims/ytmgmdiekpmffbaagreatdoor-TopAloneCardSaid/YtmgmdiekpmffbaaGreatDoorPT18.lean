/- Part of the proof of the statement TopAlone, as a card; what is proved, and on which condition, stands at the head of YtmgmdiekpmffbaaGreatDoorPT20 (texts TopEng3, TopEng4, TopSrv4) -/
import Derived.Test.YtmgmdiekpmffbaaGreatDoorPT9
import Derived.Test.YtmgmdiekpmffbaaGreatDoorPT12
import Derived.Test.YtmgmdiekpmffbaaGreatDoorPT17
set_option maxHeartbeats 64000000
set_option maxRecDepth 100000
set_option linter.unusedVariables false
set_option linter.unusedSimpArgs false
namespace Go.Proofs.YtmgmdiekpmffbaaGreatDoor.Top
open Go Go.RowKit Go.Proofs.YtmgmdiekpmffbaaGreatDoorW.PrintWords
def LocksV (V KA:Option Addr)(vn vc kn kc:Nat)(room nx:Int)(g:Nat)(R:Tx→Dn→List Wr→List Pr→Prop)(hl0:List Hd)(w:World)(en:Ending)(w':World):Prop:=∃HA hn hc hl,DoesV V KA HA vn vc kn kc hn hc room nx g R w en w'∧Rs tyHd 351 w' (.slice HA hn hc) hl∧hl.length≤hl0.length+1
def NoR (t:Tx)(l:List Wr)(y:Tx)(d:Dn)(l':List Wr)(m:List Pr):Prop:=y=t∧l'=l∧d.v=⟨#[]⟩∧d.er=1∧d.ov=false∧m= []
theorem eng_locks_ok (V KA HA TA:Option Addr)(vn vc kn kc hn hc tn tc:Nat)(room nx:Int)(g:Nat)(t:Tx)(l:List Wr)(hl0:List Hd)(kd:Int)(key vl lo hi:ByteArray)(mo:Int)(m1:Int)(lo1 hi1:ByteArray)(w:World)(hg:w.heap[g]? =some (.cells #[.slice V vn vc,.int .i64 (room),.int .i64 (-1),.bool false,.int .i64 1,.int .i64 1,.int .i64 0,.slice none 0 0,.slice KA kn kc,.bool false,.slice HA hn hc,.slice none 0 0,.slice TA tn tc,.int .i64 nx,.int .u64 0,.slice none 0 0] 248 (0,0)))(hT:Rs tyTx 237 w (.slice TA tn tc) [t])(hW:Rs tyWr 212 w (.slice t.A t.n t.c) l)(hH:Rs tyHd 351 w (.slice HA hn hc) hl0)(hll:hl0.length≤1000)
  (hwa:QWi.engine_wants.f kd key vl lo hi mo=some (m1,lo1,hi1)) (hmay:mayB m1 lo1 hi1=true) (R:Tx→Dn→List Wr→List Pr→Prop) (hdoes:∀(A:Option Addr) (n c:Nat) (W:World),W.heap[g]? =some (.cells #[.slice V vn vc,.int .i64 (room),.int .i64 (-1),.bool false,.int .i64 1,.int .i64 1,.int .i64 0,.slice none 0 0,.slice KA kn kc,.bool false,.slice A n c,.slice none 0 0,.slice TA tn tc,.int .i64 nx,.int .u64 0,.slice none 0 0] 248 (0,0))→Rs tyTx 237 W (.slice TA tn tc) [t]→Rs tyWr 212 W (.slice t.A t.n t.c) l→Calls Tryz.prog 185 #[.pointer (some ⟨g,0,none⟩),.agg #[.int .i64 1,.string t.token,.slice t.A t.n t.c,.bool false,.int .i64 0,.string ⟨#[]⟩,.string ⟨#[]⟩,.string ⟨#[]⟩,.string ⟨#[]⟩,.int .i64 0],.agg #[.int .i64 kd,.string key,.string vl,.string lo,.string hi,.int .i64 mo]] W (DoesV V KA A vn vc kn kc n c room nx g R W)):
  Calls Tryz.prog 135 #[.pointer (some ⟨g,0,none⟩),.agg #[.int .i64 1,.string t.token,.slice t.A t.n t.c,.bool false,.int .i64 0,.string ⟨#[]⟩,.string ⟨#[]⟩,.string ⟨#[]⟩,.string ⟨#[]⟩,.int .i64 0],.agg #[.int .i64 kd,.string key,.string vl,.string lo,.string hi,.int .i64 mo]] w (LocksV V KA vn vc kn kc room nx g R hl0 w):=by
 have hlt:=blk_lt hg
 have HWA:=h_ hwa
 have HMAY:=h_ hmay
 have HLL:=h_ hll
 clear hwa hmay hll
 have HD:=h_ hdoes
 clear hdoes
 have HB:Hid (Only g w w):=h_ (Only.refl _ _)
 have HG0:=h_ hg
 have KG:=h_ hg
 clear hg
 have HT:=h_ hT
 clear hT
 have HW:=h_ hW
 clear hW
 have HH:=h_ hH
 clear hH
 go_enter Tryz.func135,Tryz.ntmps135
 have nG:g≠w.heap.size:=Nat.ne_of_lt hlt
 go_upto_region 1 with(fail)
 refine nm fun w1 hb=>?_
 obtain⟨hz,_,hb,KTB,KOP⟩:=na2 hb
 obtain⟨hz,KG,HB⟩:=m2 hb KG HB
 go_cut [6,7] from 10 (fun s6 s7 wx=>∃n_N A5 n5 c5 l5,s6= .pointer (some ⟨n_N,0,none⟩)∧s7= .int .i64 0∧wx.heap[g]? =some (.cells #[.slice V vn vc,.int .i64 (room),.int .i64 (-1),.bool false,.int .i64 1,.int .i64 1,.int .i64 0,.slice none 0 0,.slice KA kn kc,.bool false,.slice HA hn hc,.slice none 0 0,.slice TA tn tc,.int .i64 nx,.int .u64 0,.slice none 0 0] 248 (0,0))∧wx.heap[w.heap.size]? =some (.cells #[.int .i64 1,.string t.token,.slice t.A t.n t.c,.bool false,.int .i64 0,.string ⟨#[]⟩,.string ⟨#[]⟩,.string ⟨#[]⟩,.string ⟨#[]⟩,.int .i64 0] 237 (0,0))∧wx.heap[w.heap.size+1]? =some (.cells #[.int .i64 kd,.string key,.string vl,.string lo,.string hi,.int .i64 mo] 59 (0,0))∧wx.heap[n_N]? =some (.cells #[.slice A5 n5 c5,.slice none 0 0] 39 (0,0))∧Rs tyHd 351 wx (.slice A5 n5 c5) (l5)∧(l5=hl0∨l5=hl0++ [⟨m1,lo1,hi1⟩])∧w1.heap.size≤n_N∧Only g w wx)
 case first=>
  refine rg3 KG KTB KOP fun u1 hb hHeld=>?_
  obtain⟨hz,KG,KTB,KOP,HB⟩:=m4 hb KG KTB KOP HB
  refine t_ 0 ?_
  refine t_ 1 ?_
  refine t_ 2 ?_
  refine t_ 3 ?_
  refine tl 4 10 2 (fun _ k=>k.1) Tryz.underlying39 ?_
  refine t_ 5 ?_
  refine tq 6 (fun _ k=>bq k.2.1 0) ?_
  refine tl 7 0 6 (fun _ k=>k.2.2) Tryz.underlying59 ?_
  refine t_ 9 ?_
  refine t_ 10 ?_
  refine t_ 11 ?_
  refine t_ 12 ?_
  refine tq 13 (fun _ k=>bq k.1 14) ?_
  refine wpAnyH_ready (rs:= [8,19]) (by kernel_rfl) (by simp) ?_
  refine AllReadyH.cons rfl (fun K hK=>?_) ?_
  ·go_simp
   go_at_call 183
   refine(QWi.engine_wants.calls kd key vl lo hi mo m1 lo1 hi1 _ HWA.out).mono ?_
   rintro e w2 ⟨rfl,hb⟩
   obtain⟨hz,KG,KTB,KOP,HB⟩:=m4 hb KG KTB KOP HB
   refine bk hK ⟨KG.out,KTB.out,KOP.out⟩ fun hHeld=>?_
   refine wpAnyH_ready (rs:= [14,19]) (by kernel_rfl) (by simp) ?_
   refine AllReadyH.cons rfl (fun K hK=>?_) ?_
   ·go_simp
    go_at_call 184
    refine(eng_until _).mono ?_
    rintro e w3 ⟨rfl,hw⟩
    have hb:=below_of_eq hw
    clear hw
    obtain⟨hz,KG,KTB,KOP,HB⟩:=m4 hb KG KTB KOP HB
    refine bk hK ⟨KG.out,KTB.out,KOP.out⟩ fun hHeld=>?_
    refine wpAnyH_ready (rs:= [15,19]) (by kernel_rfl) (by simp) ?_
    refine AllReadyH.cons rfl (fun K hK=>?_) ?_
    ·go_simp
     go_at_call 182
     refine(lock_ask_ok HA hn hc hl0 m1 lo1 hi1 _ (Rs.only HH.out HB.out HG0.out (by decide)) (by have:=HLL.out;omega) HMAY.out).mono ?_
     rintro e w5 ⟨A5,n5,c5,l5,rfl,hR5,h5,hb⟩
     have HR5:=h_ hR5
     have H5:=h_ h5
     clear hR5 h5
     obtain⟨hz,KG,KTB,KOP,HB⟩:=m4 hb KG KTB KOP HB
     refine bk hK ⟨KG.out,KTB.out,KOP.out⟩ fun hHeld=>?_
     refine t_ 16 ?_
     refine t_ 17 ?_
     refine t_ 18 ?_
     refine rd 19 fun K hK=>?_
     go_simp
     refine na fun u2 hb KN=>?_
     obtain⟨hz,KG,KTB,KOP,HR5,HB⟩:=m5 hb KG KTB KOP HR5 HB
     have Nlt:=blk_lt KN.out
     refine bk hK ⟨KG.out,KTB.out,KOP.out⟩ fun hHeld=>?_
     refine rd 20 fun K hK=>?_
     refine sm 0 [.slice A5 n5 c5,.slice none 0 0] KN fun u3 ho kN=>?_
     obtain⟨hz,KG,KTB,KOP,HR5,HB⟩:=o5 ho KG KTB KOP HR5 HB
     replace KN:=kN
     clear kN
     refine bk hK ⟨KG.out,KTB.out,KOP.out⟩ fun hHeld=>?_
     refine t_ 21 ?_
     refine d_ ?_
     go_wp2_with fail
     go_meet
     exact⟨w5.heap.size,A5,n5,c5,l5,rfl,rfl,KG.out,KTB.out,KOP.out,KN.out,HR5.out,H5.out,by omega,HB.out⟩
    refine AllReadyH.cons rfl (fun K hK=>?_) AllReadyH.nil
    go_simp
    refine na fun u4 hb KN=>?_
    obtain⟨hz,KG,KTB,KOP,HB⟩:=m4 hb KG KTB KOP HB
    have Nlt:=blk_lt KN.out
    refine bk hK ⟨KG.out,KTB.out,KOP.out⟩ fun hHeld=>?_
    refine rd 15 fun K hK=>?_
    go_simp
    go_at_call 182
    refine(lock_ask_ok HA hn hc hl0 m1 lo1 hi1 _ (Rs.only HH.out HB.out HG0.out (by decide)) (by have:=HLL.out;omega) HMAY.out).mono ?_
    rintro e w5 ⟨A5,n5,c5,l5,rfl,hR5,h5,hb⟩
    have HR5:=h_ hR5
    have H5:=h_ h5
    clear hR5 h5
    obtain⟨hz,KG,KTB,KOP,KN,HB⟩:=m5 hb KG KTB KOP KN HB
    refine bk hK ⟨KG.out,KTB.out,KOP.out⟩ fun hHeld=>?_
    refine t_ 16 ?_
    refine t_ 17 ?_
    refine t_ 18 ?_
    refine rd 20 fun K hK=>?_
    refine sm 0 [.slice A5 n5 c5,.slice none 0 0] KN fun u5 ho kN=>?_
    obtain⟨hz,KG,KTB,KOP,HR5,HB⟩:=o5 ho KG KTB KOP HR5 HB
    replace KN:=kN
    clear kN
    refine bk hK ⟨KG.out,KTB.out,KOP.out⟩ fun hHeld=>?_
    refine t_ 21 ?_
    refine d_ ?_
    go_wp2_with fail
    go_meet
    exact⟨w3.heap.size,A5,n5,c5,l5,rfl,rfl,KG.out,KTB.out,KOP.out,KN.out,HR5.out,H5.out,by omega,HB.out⟩
   refine AllReadyH.cons rfl (fun K hK=>?_) AllReadyH.nil
   go_simp
   refine na fun u6 hb KN=>?_
   obtain⟨hz,KG,KTB,KOP,HB⟩:=m4 hb KG KTB KOP HB
   have Nlt:=blk_lt KN.out
   refine bk hK ⟨KG.out,KTB.out,KOP.out⟩ fun hHeld=>?_
   refine rd 14 fun K hK=>?_
   go_simp
   go_at_call 184
   refine(eng_until _).mono ?_
   rintro e w3 ⟨rfl,hw⟩
   have hb:=below_of_eq hw
   clear hw
   obtain⟨hz,KG,KTB,KOP,KN,HB⟩:=m5 hb KG KTB KOP KN HB
   refine bk hK ⟨KG.out,KTB.out,KOP.out⟩ fun hHeld=>?_
   refine rd 15 fun K hK=>?_
   go_simp
   go_at_call 182
   refine(lock_ask_ok HA hn hc hl0 m1 lo1 hi1 _ (Rs.only HH.out HB.out HG0.out (by decide)) (by have:=HLL.out;omega) HMAY.out).mono ?_
   rintro e w5 ⟨A5,n5,c5,l5,rfl,hR5,h5,hb⟩
   have HR5:=h_ hR5
   have H5:=h_ h5
   clear hR5 h5
   obtain⟨hz,KG,KTB,KOP,KN,HB⟩:=m5 hb KG KTB KOP KN HB
   refine bk hK ⟨KG.out,KTB.out,KOP.out⟩ fun hHeld=>?_
   refine t_ 16 ?_
   refine t_ 17 ?_
   refine t_ 18 ?_
   refine rd 20 fun K hK=>?_
   refine sm 0 [.slice A5 n5 c5,.slice none 0 0] KN fun u7 ho kN=>?_
   obtain⟨hz,KG,KTB,KOP,HR5,HB⟩:=o5 ho KG KTB KOP HR5 HB
   replace KN:=kN
   clear kN
   refine bk hK ⟨KG.out,KTB.out,KOP.out⟩ fun hHeld=>?_
   refine t_ 21 ?_
   refine d_ ?_
   go_wp2_with fail
   go_meet
   exact⟨w2.heap.size,A5,n5,c5,l5,rfl,rfl,KG.out,KTB.out,KOP.out,KN.out,HR5.out,H5.out,by omega,HB.out⟩
  refine AllReadyH.cons rfl (fun K hK=>?_) AllReadyH.nil
  go_simp
  refine na fun u8 hb KN=>?_
  obtain⟨hz,KG,KTB,KOP,HB⟩:=m4 hb KG KTB KOP HB
  have Nlt:=blk_lt KN.out
  refine bk hK ⟨KG.out,KTB.out,KOP.out⟩ fun hHeld=>?_
  refine rd 8 fun K hK=>?_
  go_simp
  go_at_call 183
  refine(QWi.engine_wants.calls kd key vl lo hi mo m1 lo1 hi1 _ HWA.out).mono ?_
  rintro e w2 ⟨rfl,hb⟩
  obtain⟨hz,KG,KTB,KOP,KN,HB⟩:=m5 hb KG KTB KOP KN HB
  refine bk hK ⟨KG.out,KTB.out,KOP.out⟩ fun hHeld=>?_
  refine rd 14 fun K hK=>?_
  go_simp
  go_at_call 184
  refine(eng_until _).mono ?_
  rintro e w3 ⟨rfl,hw⟩
  have hb:=below_of_eq hw
  clear hw
  obtain⟨hz,KG,KTB,KOP,KN,HB⟩:=m5 hb KG KTB KOP KN HB
  refine bk hK ⟨KG.out,KTB.out,KOP.out⟩ fun hHeld=>?_
  refine rd 15 fun K hK=>?_
  go_simp
  go_at_call 182
  refine(lock_ask_ok HA hn hc hl0 m1 lo1 hi1 _ (Rs.only HH.out HB.out HG0.out (by decide)) (by have:=HLL.out;omega) HMAY.out).mono ?_
  rintro e w5 ⟨A5,n5,c5,l5,rfl,hR5,h5,hb⟩
  have HR5:=h_ hR5
  have H5:=h_ h5
  clear hR5 h5
  obtain⟨hz,KG,KTB,KOP,KN,HB⟩:=m5 hb KG KTB KOP KN HB
  refine bk hK ⟨KG.out,KTB.out,KOP.out⟩ fun hHeld=>?_
  refine t_ 16 ?_
  refine t_ 17 ?_
  refine t_ 18 ?_
  refine rd 20 fun K hK=>?_
  refine sm 0 [.slice A5 n5 c5,.slice none 0 0] KN fun u9 ho kN=>?_
  obtain⟨hz,KG,KTB,KOP,HR5,HB⟩:=o5 ho KG KTB KOP HR5 HB
  replace KN:=kN
  clear kN
  refine bk hK ⟨KG.out,KTB.out,KOP.out⟩ fun hHeld=>?_
  refine t_ 21 ?_
  refine d_ ?_
  go_wp2_with fail
  go_meet
  exact⟨u1.heap.size,A5,n5,c5,l5,rfl,rfl,KG.out,KTB.out,KOP.out,KN.out,HR5.out,H5.out,by omega,HB.out⟩
 case rest=>
  rename World=>wc1
  clear KG KTB KOP HB
  obtain⟨n_N,A5,n5,c5,l5,rfl,rfl,kG,kTB,kOP,kN,hR5,p_H5,Nge,hB⟩:=hcut
  obtain⟨KG,G1lt,G1ne,G1en⟩:=hid_mv kG
  clear kG
  obtain⟨KTB,TB1lt,TB1ne,TB1en⟩:=hid_mv kTB
  clear kTB
  obtain⟨KOP,OP1lt,OP1ne,OP1en⟩:=hid_mv kOP
  clear kOP
  obtain⟨KN,N1lt,N1ne,N1en⟩:=hid_mv kN
  clear kN
  have HR5:=h_ hR5
  clear hR5
  have H5:=h_ p_H5
  clear p_H5
  have HB:=h_ hB
  have hs1_:=HB.out.size
  clear hB
  go_upto_region 2 with(fail)
  refine nm fun w6 hb=>?_
  obtain⟨hz,KG,KTB,KOP,KN,HR5,HB⟩:=m6 hb KG KTB KOP KN HR5 HB
  have CG:=cells16 KG.out
  have CN:=cells2 KN.out
  go_upto_region 6 with(fail)
  refine nm fun w7 hb=>?_
  clear CG CN
  obtain⟨ho,kG⟩:=pw 10 [.slice A5 n5 c5,.slice none 0 0] KG hb
  obtain⟨hz,KTB,KOP,KN,HR5,HB⟩:=o5 ho KTB KOP KN HR5 HB
  replace KG:=kG
  clear kG
  have CTB:=cells10 KTB.out
  have COP:=cells6 KOP.out
  go_wp2_with fail
  refine(HD.out A5 n5 c5 _ KG.out (Rs.only HT.out HB.out HG0.out (by decide)) (Rs.only HW.out HB.out HG0.out (by decide))).mono ?_
  rintro e w9 ⟨T9,n9,c9,y9,E9,m9,k9,d9,l9,p9,rfl,hO,hk,hRT,hRW,hRD,hRP,hA⟩
  have HO9:=h_ (Only.trans HB.out hO)
  have HH9:=h_ (Rs.only HR5.out hO KG.out (by decide))
  have HX:=h_ (And.intro hk (And.intro hRT (And.intro hRW (And.intro hRD (And.intro hRP hA)))))
  clear hO hk hRT hRW hRD hRP hA
  go_wp2
  exact bodyPost_ret (v:= .tuple #[]) (by simp[results,Tryz.results135,go_sem]) rfl ⟨A5,n5,c5,l5,⟨T9,n9,c9,y9,E9,m9,k9,d9,l9,p9,rfl,HO9.out,HX.out.1,HX.out.2.1,HX.out.2.2.1,HX.out.2.2.2.1,HX.out.2.2.2.2.1,HX.out.2.2.2.2.2⟩,HH9.out,by rcases H5.out with h|h <;> rw[h] <;> simp⟩
theorem eng_locks_no (V KA HA TA:Option Addr)(vn vc kn kc hn hc tn tc:Nat)(room nx:Int)(g:Nat)(t:Tx)(l:List Wr)(hl0:List Hd)(kd:Int)(key vl lo hi:ByteArray)(mo:Int)(m1:Int)(lo1 hi1:ByteArray)(w:World)(hg:w.heap[g]? =some (.cells #[.slice V vn vc,.int .i64 (room),.int .i64 (-1),.bool false,.int .i64 1,.int .i64 1,.int .i64 0,.slice none 0 0,.slice KA kn kc,.bool false,.slice HA hn hc,.slice none 0 0,.slice TA tn tc,.int .i64 nx,.int .u64 0,.slice none 0 0] 248 (0,0)))(hT:Rs tyTx 237 w (.slice TA tn tc) [t])(hW:Rs tyWr 212 w (.slice t.A t.n t.c) l)(hH:Rs tyHd 351 w (.slice HA hn hc) hl0)(hll:hl0.length≤1000)
  (hwa:QWi.engine_wants.f kd key vl lo hi mo=some (m1,lo1,hi1)) (hmay:mayB m1 lo1 hi1=false):
  Calls Tryz.prog 135 #[.pointer (some ⟨g,0,none⟩),.agg #[.int .i64 1,.string t.token,.slice t.A t.n t.c,.bool false,.int .i64 0,.string ⟨#[]⟩,.string ⟨#[]⟩,.string ⟨#[]⟩,.string ⟨#[]⟩,.int .i64 0],.agg #[.int .i64 kd,.string key,.string vl,.string lo,.string hi,.int .i64 mo]] w (DoesV V KA HA vn vc kn kc hn hc room nx g (NoR t l) w):=by
 have hlt:=blk_lt hg
 have HWA:=h_ hwa
 have HMAY:=h_ hmay
 have HLL:=h_ hll
 clear hwa hmay hll
 have HB:Hid (Only g w w):=h_ (Only.refl _ _)
 have HG0:=h_ hg
 have KG:=h_ hg
 clear hg
 have HT:=h_ hT
 clear hT
 have HW:=h_ hW
 clear hW
 have HH:=h_ hH
 clear hH
 go_enter Tryz.func135,Tryz.ntmps135
 have nG:g≠w.heap.size:=Nat.ne_of_lt hlt
 go_upto_region 1 with(fail)
 refine nm fun w1 hb=>?_
 obtain⟨hz,_,hb,KTB,KOP⟩:=na2 hb
 obtain⟨hz,KG,HB⟩:=m2 hb KG HB
 go_cut [6,7] from 10 (fun s6 s7 wx=>∃n_N,s6= .pointer (some ⟨n_N,0,none⟩)∧s7= .int .i64 1∧wx.heap[g]? =some (.cells #[.slice V vn vc,.int .i64 (room),.int .i64 (-1),.bool false,.int .i64 1,.int .i64 1,.int .i64 0,.slice none 0 0,.slice KA kn kc,.bool false,.slice HA hn hc,.slice none 0 0,.slice TA tn tc,.int .i64 nx,.int .u64 0,.slice none 0 0] 248 (0,0))∧wx.heap[w.heap.size]? =some (.cells #[.int .i64 1,.string t.token,.slice t.A t.n t.c,.bool false,.int .i64 0,.string ⟨#[]⟩,.string ⟨#[]⟩,.string ⟨#[]⟩,.string ⟨#[]⟩,.int .i64 0] 237 (0,0))∧wx.heap[w.heap.size+1]? =some (.cells #[.int .i64 kd,.string key,.string vl,.string lo,.string hi,.int .i64 mo] 59 (0,0))∧wx.heap[n_N]? =some (.cells #[.slice HA hn hc,.slice none 0 0] 39 (0,0))∧w1.heap.size≤n_N∧Only g w wx)
 case first=>
  refine rg3 KG KTB KOP fun u1 hb hHeld=>?_
  obtain⟨hz,KG,KTB,KOP,HB⟩:=m4 hb KG KTB KOP HB
  refine t_ 0 ?_
  refine t_ 1 ?_
  refine t_ 2 ?_
  refine t_ 3 ?_
  refine tl 4 10 2 (fun _ k=>k.1) Tryz.underlying39 ?_
  refine t_ 5 ?_
  refine tq 6 (fun _ k=>bq k.2.1 0) ?_
  refine tl 7 0 6 (fun _ k=>k.2.2) Tryz.underlying59 ?_
  refine t_ 9 ?_
  refine t_ 10 ?_
  refine t_ 11 ?_
  refine t_ 12 ?_
  refine tq 13 (fun _ k=>bq k.1 14) ?_
  refine wpAnyH_ready (rs:= [8,19]) (by kernel_rfl) (by simp) ?_
  refine AllReadyH.cons rfl (fun K hK=>?_) ?_
  ·go_simp
   go_at_call 183
   refine(QWi.engine_wants.calls kd key vl lo hi mo m1 lo1 hi1 _ HWA.out).mono ?_
   rintro e w2 ⟨rfl,hb⟩
   obtain⟨hz,KG,KTB,KOP,HB⟩:=m4 hb KG KTB KOP HB
   refine bk hK ⟨KG.out,KTB.out,KOP.out⟩ fun hHeld=>?_
   refine wpAnyH_ready (rs:= [14,19]) (by kernel_rfl) (by simp) ?_
   refine AllReadyH.cons rfl (fun K hK=>?_) ?_
   ·go_simp
    go_at_call 184
    refine(eng_until _).mono ?_
    rintro e w3 ⟨rfl,hw⟩
    have hb:=below_of_eq hw
    clear hw
    obtain⟨hz,KG,KTB,KOP,HB⟩:=m4 hb KG KTB KOP HB
    refine bk hK ⟨KG.out,KTB.out,KOP.out⟩ fun hHeld=>?_
    refine wpAnyH_ready (rs:= [15,19]) (by kernel_rfl) (by simp) ?_
    refine AllReadyH.cons rfl (fun K hK=>?_) ?_
    ·go_simp
     go_at_call 182
     refine(lock_ask_no HA hn hc hl0 m1 lo1 hi1 _ (Rs.only HH.out HB.out HG0.out (by decide)) (by have:=HLL.out;omega) HMAY.out).mono ?_
     rintro e w5 ⟨rfl,hb⟩
     obtain⟨hz,KG,KTB,KOP,HB⟩:=m4 hb KG KTB KOP HB
     refine bk hK ⟨KG.out,KTB.out,KOP.out⟩ fun hHeld=>?_
     refine t_ 16 ?_
     refine t_ 17 ?_
     refine t_ 18 ?_
     refine rd 19 fun K hK=>?_
     go_simp
     refine na fun u2 hb KN=>?_
     obtain⟨hz,KG,KTB,KOP,HB⟩:=m4 hb KG KTB KOP HB
     have Nlt:=blk_lt KN.out
     refine bk hK ⟨KG.out,KTB.out,KOP.out⟩ fun hHeld=>?_
     refine rd 20 fun K hK=>?_
     refine sm 0 [.slice HA hn hc,.slice none 0 0] KN fun u3 ho kN=>?_
     obtain⟨hz,KG,KTB,KOP,HB⟩:=o4 ho KG KTB KOP HB
     replace KN:=kN
     clear kN
     refine bk hK ⟨KG.out,KTB.out,KOP.out⟩ fun hHeld=>?_
     refine t_ 21 ?_
     refine d_ ?_
     go_wp2_with fail
     go_meet
     exact⟨w5.heap.size,rfl,rfl,KG.out,KTB.out,KOP.out,KN.out,by omega,HB.out⟩
    refine AllReadyH.cons rfl (fun K hK=>?_) AllReadyH.nil
    go_simp
    refine na fun u4 hb KN=>?_
    obtain⟨hz,KG,KTB,KOP,HB⟩:=m4 hb KG KTB KOP HB
    have Nlt:=blk_lt KN.out
    refine bk hK ⟨KG.out,KTB.out,KOP.out⟩ fun hHeld=>?_
    refine rd 15 fun K hK=>?_
    go_simp
    go_at_call 182
    refine(lock_ask_no HA hn hc hl0 m1 lo1 hi1 _ (Rs.only HH.out HB.out HG0.out (by decide)) (by have:=HLL.out;omega) HMAY.out).mono ?_
    rintro e w5 ⟨rfl,hb⟩
    obtain⟨hz,KG,KTB,KOP,KN,HB⟩:=m5 hb KG KTB KOP KN HB
    refine bk hK ⟨KG.out,KTB.out,KOP.out⟩ fun hHeld=>?_
    refine t_ 16 ?_
    refine t_ 17 ?_
    refine t_ 18 ?_
    refine rd 20 fun K hK=>?_
    refine sm 0 [.slice HA hn hc,.slice none 0 0] KN fun u5 ho kN=>?_
    obtain⟨hz,KG,KTB,KOP,HB⟩:=o4 ho KG KTB KOP HB
    replace KN:=kN
    clear kN
    refine bk hK ⟨KG.out,KTB.out,KOP.out⟩ fun hHeld=>?_
    refine t_ 21 ?_
    refine d_ ?_
    go_wp2_with fail
    go_meet
    exact⟨w3.heap.size,rfl,rfl,KG.out,KTB.out,KOP.out,KN.out,by omega,HB.out⟩
   refine AllReadyH.cons rfl (fun K hK=>?_) AllReadyH.nil
   go_simp
   refine na fun u6 hb KN=>?_
   obtain⟨hz,KG,KTB,KOP,HB⟩:=m4 hb KG KTB KOP HB
   have Nlt:=blk_lt KN.out
   refine bk hK ⟨KG.out,KTB.out,KOP.out⟩ fun hHeld=>?_
   refine rd 14 fun K hK=>?_
   go_simp
   go_at_call 184
   refine(eng_until _).mono ?_
   rintro e w3 ⟨rfl,hw⟩
   have hb:=below_of_eq hw
   clear hw
   obtain⟨hz,KG,KTB,KOP,KN,HB⟩:=m5 hb KG KTB KOP KN HB
   refine bk hK ⟨KG.out,KTB.out,KOP.out⟩ fun hHeld=>?_
   refine rd 15 fun K hK=>?_
   go_simp
   go_at_call 182
   refine(lock_ask_no HA hn hc hl0 m1 lo1 hi1 _ (Rs.only HH.out HB.out HG0.out (by decide)) (by have:=HLL.out;omega) HMAY.out).mono ?_
   rintro e w5 ⟨rfl,hb⟩
   obtain⟨hz,KG,KTB,KOP,KN,HB⟩:=m5 hb KG KTB KOP KN HB
   refine bk hK ⟨KG.out,KTB.out,KOP.out⟩ fun hHeld=>?_
   refine t_ 16 ?_
   refine t_ 17 ?_
   refine t_ 18 ?_
   refine rd 20 fun K hK=>?_
   refine sm 0 [.slice HA hn hc,.slice none 0 0] KN fun u7 ho kN=>?_
   obtain⟨hz,KG,KTB,KOP,HB⟩:=o4 ho KG KTB KOP HB
   replace KN:=kN
   clear kN
   refine bk hK ⟨KG.out,KTB.out,KOP.out⟩ fun hHeld=>?_
   refine t_ 21 ?_
   refine d_ ?_
   go_wp2_with fail
   go_meet
   exact⟨w2.heap.size,rfl,rfl,KG.out,KTB.out,KOP.out,KN.out,by omega,HB.out⟩
  refine AllReadyH.cons rfl (fun K hK=>?_) AllReadyH.nil
  go_simp
  refine na fun u8 hb KN=>?_
  obtain⟨hz,KG,KTB,KOP,HB⟩:=m4 hb KG KTB KOP HB
  have Nlt:=blk_lt KN.out
  refine bk hK ⟨KG.out,KTB.out,KOP.out⟩ fun hHeld=>?_
  refine rd 8 fun K hK=>?_
  go_simp
  go_at_call 183
  refine(QWi.engine_wants.calls kd key vl lo hi mo m1 lo1 hi1 _ HWA.out).mono ?_
  rintro e w2 ⟨rfl,hb⟩
  obtain⟨hz,KG,KTB,KOP,KN,HB⟩:=m5 hb KG KTB KOP KN HB
  refine bk hK ⟨KG.out,KTB.out,KOP.out⟩ fun hHeld=>?_
  refine rd 14 fun K hK=>?_
  go_simp
  go_at_call 184
  refine(eng_until _).mono ?_
  rintro e w3 ⟨rfl,hw⟩
  have hb:=below_of_eq hw
  clear hw
  obtain⟨hz,KG,KTB,KOP,KN,HB⟩:=m5 hb KG KTB KOP KN HB
  refine bk hK ⟨KG.out,KTB.out,KOP.out⟩ fun hHeld=>?_
  refine rd 15 fun K hK=>?_
  go_simp
  go_at_call 182
  refine(lock_ask_no HA hn hc hl0 m1 lo1 hi1 _ (Rs.only HH.out HB.out HG0.out (by decide)) (by have:=HLL.out;omega) HMAY.out).mono ?_
  rintro e w5 ⟨rfl,hb⟩
  obtain⟨hz,KG,KTB,KOP,KN,HB⟩:=m5 hb KG KTB KOP KN HB
  refine bk hK ⟨KG.out,KTB.out,KOP.out⟩ fun hHeld=>?_
  refine t_ 16 ?_
  refine t_ 17 ?_
  refine t_ 18 ?_
  refine rd 20 fun K hK=>?_
  refine sm 0 [.slice HA hn hc,.slice none 0 0] KN fun u9 ho kN=>?_
  obtain⟨hz,KG,KTB,KOP,HB⟩:=o4 ho KG KTB KOP HB
  replace KN:=kN
  clear kN
  refine bk hK ⟨KG.out,KTB.out,KOP.out⟩ fun hHeld=>?_
  refine t_ 21 ?_
  refine d_ ?_
  go_wp2_with fail
  go_meet
  exact⟨u1.heap.size,rfl,rfl,KG.out,KTB.out,KOP.out,KN.out,by omega,HB.out⟩
 case rest=>
  rename World=>wc1
  clear KG KTB KOP HB
  obtain⟨n_N,rfl,rfl,kG,kTB,kOP,kN,Nge,hB⟩:=hcut
  obtain⟨KG,G1lt,G1ne,G1en⟩:=hid_mv kG
  clear kG
  obtain⟨KTB,TB1lt,TB1ne,TB1en⟩:=hid_mv kTB
  clear kTB
  obtain⟨KOP,OP1lt,OP1ne,OP1en⟩:=hid_mv kOP
  clear kOP
  obtain⟨KN,N1lt,N1ne,N1en⟩:=hid_mv kN
  clear kN
  have HB:=h_ hB
  have hs1_:=HB.out.size
  clear hB
  go_upto_region 2 with(fail)
  refine nm fun w6 hb=>?_
  obtain⟨hz,KG,KTB,KOP,KN,HB⟩:=m5 hb KG KTB KOP KN HB
  have CG:=cells16 KG.out
  have CN:=cells2 KN.out
  go_upto_region 4 with(fail)
  refine nm fun w7 hb=>?_
  clear CG CN
  obtain⟨ho,kG⟩:=pw 10 [.slice HA hn hc,.slice none 0 0] KG hb
  obtain⟨hz,KTB,KOP,KN,HB⟩:=o4 ho KTB KOP KN HB
  replace KG:=kG
  clear kG
  refine rl2 13 KG KTB fun u10 hb=>?_
  obtain⟨hz,KG,KTB,KOP,KN,HB⟩:=m5 hb KG KTB KOP KN HB
  refine l_ 0 (.inr ⟨KG.out,KTB.out⟩) ?_
  refine l_ 1 (.inr ⟨KG.out,KTB.out⟩) ?_
  refine l_ 2 (.inr ⟨KG.out,KTB.out⟩) ?_
  refine l_ 3 (.inr ⟨KG.out,KTB.out⟩) ?_
  refine lq 4 (fun _ k=>bq k.1 15) ⟨KG.out,KTB.out⟩ ?_
  refine l_ 5 (.inr ⟨KG.out,KTB.out⟩) ?_
  refine lq 6 (fun _ k=>bq k.2 0) ⟨KG.out,KTB.out⟩ ?_
  refine l_ 7 (.inr ⟨KG.out,KTB.out⟩) ?_
  refine l_ 8 (.inr ⟨KG.out,KTB.out⟩) ?_
  refine ld 9 fun K hK=>?_
  go_simp
  refine na fun u11 hb KY=>?_
  obtain⟨hz,KG,KTB,KOP,KN,HB⟩:=m5 hb KG KTB KOP KN HB
  have Ylt:=blk_lt KY.out
  refine b_ hK (.inr ⟨KG.out,KTB.out⟩) ?_
  refine ld 10 fun K hK=>?_
  obtain⟨i0,hInf,hz0,hz1,hz2⟩:=info_parts infoDn
  refine step_append_lies _ (by rfl) _ _ 172 (by rfl) _ 243 i0 _ 6 72 Tryz.underlying172 hInf hz0 hz1 hz2 rfl (by decide) (.slice none 0 0) 0 [] rfl (World.ownsRow_nil _ _ _ _) _ 1 1 (tyDn.enc (⟨1,⟨#[]⟩,false,none,0,0,false⟩:Dn)) rfl rfl (World.news_of_block KY.out) (tyDn.one _) (by decide) (by decide) (by decide) (Nat.le_refl _) _ rfl ?_
  intro e ecap w9 hown hgr hat _
  have hb:=below_grown hgr
  have ege:u11.heap.size≤e:=hat.elim (fun h=>by cases h) (fun h=>by omega)
  have HDR:=h_ (Rs.of_own (T:=tyDn) (l:= [(⟨1,⟨#[]⟩,false,none,0,0,false⟩:Dn)]) hown)
  clear hown hgr hat hInf hz0 hz1 hz2
  obtain⟨hz,KG,KTB,KOP,KN,HB⟩:=m5 hb KG KTB KOP KN HB
  refine b_ hK (.inr ⟨KG.out,KTB.out⟩) ?_
  refine l_ 11 (.inr ⟨KG.out,KTB.out⟩) ?_
  refine l_ 12 (.inr ⟨KG.out,KTB.out⟩) ?_
  refine ld 13 fun K hK=>?_
  have CG:=cells16 KG.out
  go_simp
  clear CG
  refine ns KG fun u12 ho kG=>?_
  obtain⟨hz,KTB,KOP,KN,HDR,HB⟩:=o5 ho KTB KOP KN HDR HB
  replace KG:=kG
  clear kG
  refine b_ hK (.inl (by kernel_rfl)) ?_
  refine dl ?_
  go_wp2
  exact bodyPost_ret (v:= .tuple #[]) (by simp[results,Tryz.results135,go_sem]) rfl ⟨_,_,_,t,_,_,_,(⟨1,⟨#[]⟩,false,none,0,0,false⟩:Dn),l,[],rfl,HB.out,KG.out,(Rs.only HT.out HB.out HG0.out (by decide)),(Rs.only HW.out HB.out HG0.out (by decide)),HDR.out,Rs.nil _ _ _,rfl,rfl,rfl,rfl,rfl,rfl⟩
def EAskV (V KA:Option Addr)(vn vc kn kc:Nat)(room nx:Int)(R:Tx→Dn→List Wr→List Pr→Prop)(hl0:List Hd)(w:World)(en:Ending)(w':World):Prop:=∃HA hn hc hl T n c y E en2 ec d l m,en= .returned (.tuple #[.agg #[.slice V vn vc,.int .i64 (room),.int .i64 (-1),.bool false,.int .i64 1,.int .i64 1,.int .i64 0,.slice none 0 0,.slice KA kn kc,.bool false,.slice HA hn hc,.slice none 0 0,.slice T n c,.int .i64 nx,.int .u64 0],.slice E en2 ec])∧Below w.heap.size w w'∧Rs tyTx 237 w' (.slice T n c) [y]∧Rs tyWr 212 w' (.slice y.A y.n y.c) l∧Rs tyDn 243 w' (.slice E en2 ec) [d]∧Rs tyPr 123 w' (.slice d.P d.pn d.pc) m∧Rs tyHd 351 w' (.slice HA hn hc) hl∧hl.length≤hl0.length+1∧R y d l m
theorem eng_locks_no' (V KA HA TA:Option Addr)(vn vc kn kc hn hc tn tc:Nat)(room nx:Int)(g:Nat)(t:Tx)(l:List Wr)(hl0:List Hd)(kd:Int)(key vl lo hi:ByteArray)(mo:Int)(m1:Int)(lo1 hi1:ByteArray)(w:World)(hg:w.heap[g]? =some (.cells #[.slice V vn vc,.int .i64 (room),.int .i64 (-1),.bool false,.int .i64 1,.int .i64 1,.int .i64 0,.slice none 0 0,.slice KA kn kc,.bool false,.slice HA hn hc,.slice none 0 0,.slice TA tn tc,.int .i64 nx,.int .u64 0,.slice none 0 0] 248 (0,0)))(hT:Rs tyTx 237 w (.slice TA tn tc) [t])(hW:Rs tyWr 212 w (.slice t.A t.n t.c) l)(hH:Rs tyHd 351 w (.slice HA hn hc) hl0)(hll:hl0.length≤1000)
  (hwa:QWi.engine_wants.f kd key vl lo hi mo=some (m1,lo1,hi1)) (hmay:mayB m1 lo1 hi1=false):
  Calls Tryz.prog 135 #[.pointer (some ⟨g,0,none⟩),.agg #[.int .i64 1,.string t.token,.slice t.A t.n t.c,.bool false,.int .i64 0,.string ⟨#[]⟩,.string ⟨#[]⟩,.string ⟨#[]⟩,.string ⟨#[]⟩,.int .i64 0],.agg #[.int .i64 kd,.string key,.string vl,.string lo,.string hi,.int .i64 mo]] w (LocksV V KA vn vc kn kc room nx g (NoR t l) hl0 w):=
 (eng_locks_no V KA HA TA vn vc kn kc hn hc tn tc room nx g t l hl0 kd key vl lo hi mo m1 lo1 hi1 w hg hT hW hH hll hwa hmay).mono fun e w' h=>by
  obtain⟨T,n,c,y,E,en2,ec,d,l',m,rfl,hO,h⟩:=h
  exact⟨HA,hn,hc,hl0,⟨T,n,c,y,E,en2,ec,d,l',m,rfl,hO,h⟩,Rs.only hH hO hg (by decide),Nat.le_succ _⟩
def Ask1V (V KA HA TA:Option Addr)(vn vc kn kc hn hc tn tc:Nat)(room nx:Int)(w:World)(en:Ending)(w':World):Prop:=∃y,en= .returned (.tuple #[.agg #[.slice V vn vc,.int .i64 (room),.int .i64 (-1),.bool false,.int .i64 1,.int .i64 1,.int .i64 0,.slice none 0 0,.slice KA kn kc,.bool false,.slice HA hn hc,.slice none 0 0,.slice TA tn tc,.int .i64 nx,.int .u64 0],.slice (some ⟨y,0,none⟩) 1 1])∧Rs tyDn 243 w' (.slice (some ⟨y,0,none⟩) 1 1) [⟨1,⟨#[]⟩,false,none,0,0,false⟩]∧Below w.heap.size w w'
theorem eng_ask1 (V KA HA TA:Option Addr)(vn vc kn kc hn hc tn tc:Nat)(room nx:Int)(B0 B1:Nat)(w:World)(h0:w.heap[B0]? =some (.cells #[.slice V vn vc,.int .i64 (room),.int .i64 (-1),.bool false,.int .i64 1,.int .i64 1,.int .i64 0,.slice none 0 0,.slice KA kn kc,.bool false,.slice HA hn hc,.slice none 0 0,.slice TA tn tc,.int .i64 nx,.int .u64 0] 43 (0,0)))(h1:w.heap[B1]? =some (.cells #[.int .i64 1] 3 (0,0))):
  Calls Tryz.prog 131 #[.int .i64 1,.pointer (some ⟨B0,0,none⟩),.pointer (some ⟨B1,0,none⟩)] w (Ask1V V KA HA TA vn vc kn kc hn hc tn tc room nx w):=by
 have l0:=blk_lt h0
 have l1:=blk_lt h1
 have HB:Hid (Below w.heap.size w w):=h_ (Below.refl _ _)
 have KE:=h_ h0
 clear h0
 have KI:=h_ h1
 clear h1
 go_enter Tryz.func131,Tryz.ntmps131
 go_upto_region 1 with(fail)
 refine nm fun w1 hb=>?_
 obtain⟨hz,_,hb,KQ⟩:=na1 hb
 obtain⟨hz,KE,KI,HB⟩:=m3 hb KE KI HB
 refine rg2 KE KI fun u1 hb hHeld=>?_
 obtain⟨hz,KE,KI,KQ,HB⟩:=m4 hb KE KI KQ HB
 refine tl 0 0 15 (fun _ k=>k.1) Tryz.underlying43 ?_
 refine tq 1 (fun _ k=>bq k.2 0) ?_
 refine t_ 2 ?_
 refine t_ 3 ?_
 refine wpAnyH_ready (rs:= [4,5]) (by kernel_rfl) (by simp) ?_
 refine AllReadyH.cons rfl (fun K hK=>?_) ?_
 ·go_simp
  refine na fun u2 hb KY=>?_
  obtain⟨hz,KE,KI,KQ,HB⟩:=m4 hb KE KI KQ HB
  have Ylt:=blk_lt KY.out
  refine bk hK ⟨KE.out,KI.out⟩ fun hHeld=>?_
  refine rd 5 fun K hK=>?_
  refine sm 0 [.slice V vn vc,.int .i64 (room),.int .i64 (-1),.bool false,.int .i64 1,.int .i64 1,.int .i64 0,.slice none 0 0,.slice KA kn kc,.bool false,.slice HA hn hc,.slice none 0 0,.slice TA tn tc,.int .i64 nx,.int .u64 0] KQ fun u3 ho kQ=>?_
  obtain⟨hz,KE,KI,KY,HB⟩:=o4 ho KE KI KY HB
  replace KQ:=kQ
  clear kQ
  refine bk hK ⟨KE.out,KI.out⟩ fun hHeld=>?_
  refine t_ 6 ?_
  refine d_ ?_
  go_wp2
  skip
  refine bodyPost_ret (res_cell_tmp (cs:=#[.slice V vn vc,.int .i64 (room),.int .i64 (-1),.bool false,.int .i64 1,.int .i64 1,.int .i64 0,.slice none 0 0,.slice KA kn kc,.bool false,.slice HA hn hc,.slice none 0 0,.slice TA tn tc,.int .i64 nx,.int .u64 0]) Tryz.results131 rfl KQ.out Tryz.underlying43 rfl (by kernel_rfl)) rfl ⟨_,rfl,.inr ⟨_,1,_,(0,0),rfl,Nat.le_refl _,KY.out,fun j u hu=>by rw[Ty.all_single] at hu;simpa [tyDn] using hu⟩,HB.out⟩
 refine AllReadyH.cons rfl (fun K hK=>?_) AllReadyH.nil
 refine sm 0 [.slice V vn vc,.int .i64 (room),.int .i64 (-1),.bool false,.int .i64 1,.int .i64 1,.int .i64 0,.slice none 0 0,.slice KA kn kc,.bool false,.slice HA hn hc,.slice none 0 0,.slice TA tn tc,.int .i64 nx,.int .u64 0] KQ fun u4 ho kQ=>?_
 obtain⟨hz,KE,KI,HB⟩:=o3 ho KE KI HB
 replace KQ:=kQ
 clear kQ
 refine bk hK ⟨KE.out,KI.out⟩ fun hHeld=>?_
 refine rd 4 fun K hK=>?_
 go_simp
 refine na fun u5 hb KY=>?_
 obtain⟨hz,KE,KI,KQ,HB⟩:=m4 hb KE KI KQ HB
 have Ylt:=blk_lt KY.out
 refine bk hK ⟨KE.out,KI.out⟩ fun hHeld=>?_
 refine t_ 6 ?_
 refine d_ ?_
 go_wp2
 skip
 refine bodyPost_ret (res_cell_tmp (cs:=#[.slice V vn vc,.int .i64 (room),.int .i64 (-1),.bool false,.int .i64 1,.int .i64 1,.int .i64 0,.slice none 0 0,.slice KA kn kc,.bool false,.slice HA hn hc,.slice none 0 0,.slice TA tn tc,.int .i64 nx,.int .u64 0]) Tryz.results131 rfl KQ.out Tryz.underlying43 rfl (by kernel_rfl)) rfl ⟨_,rfl,.inr ⟨_,1,_,(0,0),rfl,Nat.le_refl _,KY.out,fun j u hu=>by rw[Ty.all_single] at hu;simpa [tyDn] using hu⟩,HB.out⟩
theorem eng_ask_no (V KA HA TA:Option Addr)(vn vc kn kc hn hc tn tc:Nat)(room nx:Int)(t:Tx)(l:List Wr)(hl0:List Hd)(kd:Int)(key vl lo hi:ByteArray)(mo:Int)(w:World)(hT:Rs tyTx 237 w (.slice TA tn tc) [t])(hW:Rs tyWr 212 w (.slice t.A t.n t.c) l)(hH:Rs tyHd 351 w (.slice HA hn hc) hl0)(hmay:QWi.engine_may.f 2 kd key vl lo hi mo=some false):
  Calls Tryz.prog 77 #[.agg #[.slice V vn vc,.int .i64 (room),.int .i64 (-1),.bool false,.int .i64 1,.int .i64 1,.int .i64 0,.slice none 0 0,.slice KA kn kc,.bool false,.slice HA hn hc,.slice none 0 0,.slice TA tn tc,.int .i64 nx,.int .u64 0],.int .i64 1,.agg #[.int .i64 kd,.string key,.string vl,.string lo,.string hi,.int .i64 mo]] w (EAskV V KA vn vc kn kc room nx (NoR t l) hl0 w):=by
 have HMAY:=h_ hmay
 clear hmay
 have HB:Hid (Below w.heap.size w w):=h_ (Below.refl _ _)
 have HT:=h_ hT
 clear hT
 have HW:=h_ hW
 clear hW
 have HH:=h_ hH
 clear hH
 go_enter Tryz.func77,Tryz.ntmps77
 go_wp2_with fail
 refine(eng_find V none KA HA TA vn vc 0 0 kn kc hn hc tn tc room nx t _ (Rs.below HT.out (below_alloc (below_alloc (below_alloc (below_alloc HB.out _) _) _) _))).mono ?_
 rintro e w1 ⟨rfl,hb⟩
 have kE:=hid_mv (show w1.heap[w.heap.size]? =some (.cells #[.slice V vn vc,.int .i64 (room),.int .i64 (-1),.bool false,.int .i64 1,.int .i64 1,.int .i64 0,.slice none 0 0,.slice KA kn kc,.bool false,.slice HA hn hc,.slice none 0 0,.slice TA tn tc,.int .i64 nx,.int .u64 0] 43 (0,0))from bb (bb (bb (bb (blk_new' _ _ _ (by simp)) (one _ _)) (one _ _)) (one _ _)) hb)
 have kI:=hid_mv (show w1.heap[w.heap.size+1]? =some (.cells #[.int .i64 1] 3 (0,0))from bb (bb (bb (blk_new' _ _ _ (by simp)) (one _ _)) (one _ _)) hb)
 have kOP:=hid_mv (show w1.heap[w.heap.size+1+1]? =some (.cells #[.int .i64 kd,.string key,.string vl,.string lo,.string hi,.int .i64 mo] 59 (0,0))from bb (bb (blk_new' _ _ _ (by simp)) (one _ _)) hb)
 have kQ:=hid_mv (show w1.heap[w.heap.size+1+1+1]? =some (.cells #[.slice none 0 0,.int .i64 0,.int .i64 0,.bool false,.int .i64 0,.int .i64 0,.int .i64 0,.slice none 0 0,.slice none 0 0,.bool false,.slice none 0 0,.slice none 0 0,.slice none 0 0,.int .i64 0,.int .u64 0] 43 (0,0))from bb (blk_new' _ _ _ (by simp)) hb)
 have hz:=(hb).size
 skip
 obtain⟨KE,E0lt,E0ne,E0en⟩:=kE
 obtain⟨KI,I0lt,I0ne,I0en⟩:=kI
 obtain⟨KOP,OP0lt,OP0ne,OP0en⟩:=kOP
 obtain⟨KQ,Q0lt,Q0ne,Q0en⟩:=kQ
 replace HB:=h_ (below_call (below_alloc (below_alloc (below_alloc (below_alloc HB.out _) _) _) _) hb)
 have hs0_:=HB.out.size
 clear hb
 go_upto_region 7 with(fail)
 refine nm fun w2 hb=>?_
 obtain⟨hz,_,hb,KTB⟩:=na1 hb
 obtain⟨hz,KE,KI,KOP,KQ,HB⟩:=m5 hb KE KI KOP KQ HB
 have COP:=cells6 KOP.out
 go_wp2_with fail
 refine(QWi.engine_may.calls 2 kd key vl lo hi mo false _ HMAY.out).mono ?_
 rintro e w3 ⟨rfl,hb⟩
 clear COP
 obtain⟨hz,KE,KI,KOP,KQ,KTB,HB⟩:=m6 hb KE KI KOP KQ KTB HB
 go_upto_region 8 with(fail)
 refine nm fun w4 hb=>?_
 obtain⟨hz,KE,KI,KOP,KQ,KTB,HB⟩:=m6 hb KE KI KOP KQ KTB HB
 go_wp2_with fail
 refine(eng_ask1 V KA HA TA vn vc kn kc hn hc tn tc room nx _ _ _ KE.out KI.out).mono ?_
 rintro e w5 ⟨y,rfl,hR,hb⟩
 have HDR:=h_ hR
 clear hR
 obtain⟨hz,KE,KI,KOP,KQ,KTB,HB⟩:=m6 hb KE KI KOP KQ KTB HB
 have CQ:=cells15 KQ.out
 go_wp2
 refine bodyPost_ret (res_cell_tmp (cs:=#[.slice V vn vc,.int .i64 (room),.int .i64 (-1),.bool false,.int .i64 1,.int .i64 1,.int .i64 0,.slice none 0 0,.slice KA kn kc,.bool false,.slice HA hn hc,.slice none 0 0,.slice TA tn tc,.int .i64 nx,.int .u64 0]) Tryz.results77 rfl (blk_put KQ.out 0 [.slice V vn vc,.int .i64 (room),.int .i64 (-1),.bool false,.int .i64 1,.int .i64 1,.int .i64 0,.slice none 0 0,.slice KA kn kc,.bool false,.slice HA hn hc,.slice none 0 0,.slice TA tn tc,.int .i64 nx,.int .u64 0] (Nat.le_of_ble_eq_true rfl)) Tryz.underlying43 rfl (by kernel_rfl)) rfl ⟨HA,hn,hc,hl0,_,_,_,t,_,_,_,_,l,[],rfl,(below_puts HB.out (w.heap.size+1+1+1) (by omega) 0 [.slice V vn vc,.int .i64 (room),.int .i64 (-1),.bool false,.int .i64 1,.int .i64 1,.int .i64 0,.slice none 0 0,.slice KA kn kc,.bool false,.slice HA hn hc,.slice none 0 0,.slice TA tn tc,.int .i64 nx,.int .u64 0]),(Rs.below HT.out (below_puts HB.out (w.heap.size+1+1+1) (by omega) 0 [.slice V vn vc,.int .i64 (room),.int .i64 (-1),.bool false,.int .i64 1,.int .i64 1,.int .i64 0,.slice none 0 0,.slice KA kn kc,.bool false,.slice HA hn hc,.slice none 0 0,.slice TA tn tc,.int .i64 nx,.int .u64 0])),(Rs.below HW.out (below_puts HB.out (w.heap.size+1+1+1) (by omega) 0 [.slice V vn vc,.int .i64 (room),.int .i64 (-1),.bool false,.int .i64 1,.int .i64 1,.int .i64 0,.slice none 0 0,.slice KA kn kc,.bool false,.slice HA hn hc,.slice none 0 0,.slice TA tn tc,.int .i64 nx,.int .u64 0])),(Rs.puts HDR.out KQ.out (by decide) 0 [.slice V vn vc,.int .i64 (room),.int .i64 (-1),.bool false,.int .i64 1,.int .i64 1,.int .i64 0,.slice none 0 0,.slice KA kn kc,.bool false,.slice HA hn hc,.slice none 0 0,.slice TA tn tc,.int .i64 nx,.int .u64 0]),Rs.nil _ _ _,(Rs.below HH.out (below_puts HB.out (w.heap.size+1+1+1) (by omega) 0 [.slice V vn vc,.int .i64 (room),.int .i64 (-1),.bool false,.int .i64 1,.int .i64 1,.int .i64 0,.slice none 0 0,.slice KA kn kc,.bool false,.slice HA hn hc,.slice none 0 0,.slice TA tn tc,.int .i64 nx,.int .u64 0])),Nat.le_succ _,rfl,rfl,rfl,rfl,rfl,rfl⟩
theorem eng_ask_ok (V KA HA TA:Option Addr)(vn vc kn kc hn hc tn tc:Nat)(room nx:Int)(t:Tx)(l:List Wr)(hl0:List Hd)(kd:Int)(key vl lo hi:ByteArray)(mo:Int)(w:World)(hT:Rs tyTx 237 w (.slice TA tn tc) [t])(hW:Rs tyWr 212 w (.slice t.A t.n t.c) l)(hH:Rs tyHd 351 w (.slice HA hn hc) hl0)(hmay:QWi.engine_may.f 2 kd key vl lo hi mo=some true)(h5:(kd==5)=false)(h6:(kd==6)=false)(R:Tx→Dn→List Wr→List Pr→Prop)
  (hlocks:∀(g:Nat) (W:World),W.heap[g]? =some (.cells #[.slice V vn vc,.int .i64 (room),.int .i64 (-1),.bool false,.int .i64 1,.int .i64 1,.int .i64 0,.slice none 0 0,.slice KA kn kc,.bool false,.slice HA hn hc,.slice none 0 0,.slice TA tn tc,.int .i64 nx,.int .u64 0,.slice none 0 0] 248 (0,0))→Rs tyTx 237 W (.slice TA tn tc) [t]→Rs tyWr 212 W (.slice t.A t.n t.c) l→Rs tyHd 351 W (.slice HA hn hc) hl0→Calls Tryz.prog 135 #[.pointer (some ⟨g,0,none⟩),.agg #[.int .i64 1,.string t.token,.slice t.A t.n t.c,.bool false,.int .i64 0,.string ⟨#[]⟩,.string ⟨#[]⟩,.string ⟨#[]⟩,.string ⟨#[]⟩,.int .i64 0],.agg #[.int .i64 kd,.string key,.string vl,.string lo,.string hi,.int .i64 mo]] W (LocksV V KA vn vc kn kc room nx g R hl0 W)):
  Calls Tryz.prog 77 #[.agg #[.slice V vn vc,.int .i64 (room),.int .i64 (-1),.bool false,.int .i64 1,.int .i64 1,.int .i64 0,.slice none 0 0,.slice KA kn kc,.bool false,.slice HA hn hc,.slice none 0 0,.slice TA tn tc,.int .i64 nx,.int .u64 0],.int .i64 1,.agg #[.int .i64 kd,.string key,.string vl,.string lo,.string hi,.int .i64 mo]] w (EAskV V KA vn vc kn kc room nx R hl0 w):=by
 have HMAY:=h_ hmay
 clear hmay
 have HLK:=h_ hlocks
 clear hlocks
 have HB:Hid (Below w.heap.size w w):=h_ (Below.refl _ _)
 have HT:=h_ hT
 clear hT
 have HW:=h_ hW
 clear hW
 have HH:=h_ hH
 clear hH
 go_enter Tryz.func77,Tryz.ntmps77
 go_wp2_with fail
 refine(eng_find V none KA HA TA vn vc 0 0 kn kc hn hc tn tc room nx t _ (Rs.below HT.out (below_alloc (below_alloc (below_alloc (below_alloc HB.out _) _) _) _))).mono ?_
 rintro e w1 ⟨rfl,hb⟩
 have kE:=hid_mv (show w1.heap[w.heap.size]? =some (.cells #[.slice V vn vc,.int .i64 (room),.int .i64 (-1),.bool false,.int .i64 1,.int .i64 1,.int .i64 0,.slice none 0 0,.slice KA kn kc,.bool false,.slice HA hn hc,.slice none 0 0,.slice TA tn tc,.int .i64 nx,.int .u64 0] 43 (0,0))from bb (bb (bb (bb (blk_new' _ _ _ (by simp)) (one _ _)) (one _ _)) (one _ _)) hb)
 have kI:=hid_mv (show w1.heap[w.heap.size+1]? =some (.cells #[.int .i64 1] 3 (0,0))from bb (bb (bb (blk_new' _ _ _ (by simp)) (one _ _)) (one _ _)) hb)
 have kOP:=hid_mv (show w1.heap[w.heap.size+1+1]? =some (.cells #[.int .i64 kd,.string key,.string vl,.string lo,.string hi,.int .i64 mo] 59 (0,0))from bb (bb (blk_new' _ _ _ (by simp)) (one _ _)) hb)
 have kQ:=hid_mv (show w1.heap[w.heap.size+1+1+1]? =some (.cells #[.slice none 0 0,.int .i64 0,.int .i64 0,.bool false,.int .i64 0,.int .i64 0,.int .i64 0,.slice none 0 0,.slice none 0 0,.bool false,.slice none 0 0,.slice none 0 0,.slice none 0 0,.int .i64 0,.int .u64 0] 43 (0,0))from bb (blk_new' _ _ _ (by simp)) hb)
 have hz:=(hb).size
 skip
 obtain⟨KE,E0lt,E0ne,E0en⟩:=kE
 obtain⟨KI,I0lt,I0ne,I0en⟩:=kI
 obtain⟨KOP,OP0lt,OP0ne,OP0en⟩:=kOP
 obtain⟨KQ,Q0lt,Q0ne,Q0en⟩:=kQ
 replace HB:=h_ (below_call (below_alloc (below_alloc (below_alloc (below_alloc HB.out _) _) _) _) hb)
 have hs0_:=HB.out.size
 clear hb
 go_upto_region 7 with(fail)
 refine nm fun w2 hb=>?_
 obtain⟨hz,_,hb,KTB⟩:=na1 hb
 obtain⟨hz,KE,KI,KOP,KQ,HB⟩:=m5 hb KE KI KOP KQ HB
 have COP:=cells6 KOP.out
 go_wp2_with fail
 refine(QWi.engine_may.calls 2 kd key vl lo hi mo true _ HMAY.out).mono ?_
 rintro e w3 ⟨rfl,hb⟩
 clear COP
 obtain⟨hz,KE,KI,KOP,KQ,KTB,HB⟩:=m6 hb KE KI KOP KQ KTB HB
 go_upto_region 9 with(fail)
 refine nm fun w4 hb=>?_
 obtain⟨hz,KE,KI,KOP,KQ,KTB,HB⟩:=m6 hb KE KI KOP KQ KTB HB
 have CE:=cells15 KE.out
 go_upto_region 11 with(fail)
 refine nm fun w5 hb=>?_
 clear CE
 obtain⟨hz,_,hb,KG⟩:=na1 hb
 obtain⟨hz,KE,KI,KOP,KQ,KTB,HB⟩:=m6 hb KE KI KOP KQ KTB HB
 have COP:=cells6 KOP.out
 go_upto_region 12 with(fail)
 refine nm fun w6 hb=>?_
 clear COP
 obtain⟨hz,KE,KI,KOP,KQ,KTB,KG,HB⟩:=m7 hb KE KI KOP KQ KTB KG HB
 have COP:=cells6 KOP.out
 have CTB:=cells10 KTB.out
 go_wp2_with fail
 refine(HLK.out _ _ KG.out (Rs.below HT.out HB.out) (Rs.below HW.out HB.out) (Rs.below HH.out HB.out)).mono ?_
 rintro e w7 ⟨A7,n7,c7,l7,⟨T9,n9,c9,y9,E9,m9,k9,d9,l9,p9,rfl,hb,hk,hRT,hRW,hRD,hRP,hA⟩,hRH,hlen⟩
 have HRT:=h_ hRT
 have HRW:=h_ hRW
 have HRD:=h_ hRD
 have HRP:=h_ hRP
 have HRH:=h_ hRH
 have HA9:=h_ hA
 have HKG:=h_ hk
 clear hRT hRW hRD hRP hRH hA hk
 clear COP CTB
 obtain⟨kE,E6lt,E6ne,E6en⟩:=hid_mv (show w7.heap[w.heap.size]? =some (.cells #[.slice V vn vc,.int .i64 (room),.int .i64 (-1),.bool false,.int .i64 1,.int .i64 1,.int .i64 0,.slice none 0 0,.slice KA kn kc,.bool false,.slice HA hn hc,.slice none 0 0,.slice TA tn tc,.int .i64 nx,.int .u64 0] 43 (0,0))from blk_only KE.out hb (by omega))
 obtain⟨kI,I6lt,I6ne,I6en⟩:=hid_mv (show w7.heap[w.heap.size+1]? =some (.cells #[.int .i64 1] 3 (0,0))from blk_only KI.out hb (by omega))
 obtain⟨kOP,OP6lt,OP6ne,OP6en⟩:=hid_mv (show w7.heap[w.heap.size+1+1]? =some (.cells #[.int .i64 kd,.string key,.string vl,.string lo,.string hi,.int .i64 mo] 59 (0,0))from blk_only KOP.out hb (by omega))
 obtain⟨kQ,Q6lt,Q6ne,Q6en⟩:=hid_mv (show w7.heap[w.heap.size+1+1+1]? =some (.cells #[.slice none 0 0,.int .i64 0,.int .i64 0,.bool false,.int .i64 0,.int .i64 0,.int .i64 0,.slice none 0 0,.slice none 0 0,.bool false,.slice none 0 0,.slice none 0 0,.slice none 0 0,.int .i64 0,.int .u64 0] 43 (0,0))from blk_only KQ.out hb (by omega))
 obtain⟨kTB,TB6lt,TB6ne,TB6en⟩:=hid_mv (show w7.heap[w1.heap.size]? =some (.cells #[.int .i64 1,.string t.token,.slice t.A t.n t.c,.bool false,.int .i64 0,.string ⟨#[]⟩,.string ⟨#[]⟩,.string ⟨#[]⟩,.string ⟨#[]⟩,.int .i64 0] 237 (0,0))from blk_only KTB.out hb (by omega))
 have hz:=(hb).size
 clear KE KI KOP KQ KTB
 have KE:=kE
 clear kE
 have KI:=kI
 clear kI
 have KOP:=kOP
 clear kOP
 have KQ:=kQ
 clear kQ
 have KTB:=kTB
 clear kTB
 replace HB:=h_ (below_only HB.out hb (by omega))
 have hs6_:=HB.out.size
 clear hb
 have KG:=HKG
 clear HKG
 go_upto_region 17 with(fail)
 refine nm fun w8 hb=>?_
 obtain⟨hz,KE,KI,KOP,KQ,KTB,KG,HRT,HRW,HRD,HRP,HRH,HB⟩:=m12 hb KE KI KOP KQ KTB KG HRT HRW HRD HRP HRH HB
 refine rg1 KG fun u1 hb hHeld=>?_
 obtain⟨hz,KE,KI,KOP,KQ,KTB,KG,HRT,HRW,HRD,HRP,HRH,HB⟩:=m12 hb KE KI KOP KQ KTB KG HRT HRW HRD HRP HRH HB
 refine t_ 0 ?_
 refine t_ 1 ?_
 refine t_ 2 ?_
 refine tl 3 0 15 (fun _ k=>k) Tryz.underlying43 ?_
 refine t_ 4 ?_
 refine t_ 5 ?_
 refine t_ 6 ?_
 refine tq 7 (fun _ k=>bq k 15) ?_
 refine rd 8 fun K hK=>?_
 refine sm 0 [.slice V vn vc,.int .i64 (room),.int .i64 (-1),.bool false,.int .i64 1,.int .i64 1,.int .i64 0,.slice none 0 0,.slice KA kn kc,.bool false,.slice A7 n7 c7,.slice none 0 0,.slice T9 n9 c9,.int .i64 nx,.int .u64 0] KQ fun u2 ho kQ=>?_
 obtain⟨hz,KE,KI,KOP,KTB,KG,HRT,HRW,HRD,HRP,HRH,HB⟩:=o11 ho KE KI KOP KTB KG HRT HRW HRD HRP HRH HB
 replace KQ:=kQ
 clear kQ
 refine bk hK KG.out fun hHeld=>?_
 refine t_ 9 ?_
 refine d_ ?_
 go_wp2
 skip
 refine bodyPost_ret (res_cell_tmp (cs:=#[.slice V vn vc,.int .i64 (room),.int .i64 (-1),.bool false,.int .i64 1,.int .i64 1,.int .i64 0,.slice none 0 0,.slice KA kn kc,.bool false,.slice A7 n7 c7,.slice none 0 0,.slice T9 n9 c9,.int .i64 nx,.int .u64 0]) Tryz.results77 rfl KQ.out Tryz.underlying43 rfl (by kernel_rfl)) rfl ⟨A7,n7,c7,l7,_,_,_,y9,_,_,_,d9,l9,p9,rfl,HB.out,HRT.out,HRW.out,HRD.out,HRP.out,HRH.out,hlen,HA9.out⟩
end Go.Proofs.YtmgmdiekpmffbaaGreatDoor.Top
namespace Go.Proofs.YtmgmdiekpmffbaaGreatDoor.Top
open Go Go.RowKit Go.Proofs.YtmgmdiekpmffbaaGreatDoorW.PrintWords Go.Proofs.YtmgmdiekpmffbaaGreatDoor.QWi
def TurnBV (g:Nat)(V:Option Addr)(vn vc:Nat)(room nx:Int)(b:Value)(tok:ByteArray)(y:Sn)(r:ByteArray)(w:World)(en:Ending)(w':World):Prop:=∃H m kk,SBeginV g V H vn vc m kk room nx b tok y r w en w'∧HAl w' (.slice H m kk)
theorem srv_turn_begin (k g:Nat)(V A H:Option Addr)(vn vc n c m kk:Nat)(room nx s ok mo:Int)(last tk key vl lo hi:ByteArray)(b:Value)(r:ByteArray)(w:World)(hg:w.heap[g]? =some (.cells #[.slice V vn vc,.int .i64 (room),.int .i64 (-1),.bool false,.int .i64 1,.int .i64 1,.int .i64 0,.slice none 0 0,.slice none 0 0,.bool false,.slice none 0 0,.slice none 0 0,.slice none 0 0,.int .i64 1,.int .u64 0,.int .i64 1,.slice A n c,.slice H m kk,.int .i64 (nx),.int .u64 0,b,.slice none 0 0] 81 (0,0)))(hL:Rs tySn 71 w (.slice A n c) [⟨s,false,last,0⟩])(hA:HAl w (.slice H m kk))(h0:0≤s)(h1:s<1073741824)(ht1:1≤tk.size)(ht2:tk.size≤16)(hf:wire_Reply.f k 1 1 (s+1) 0 ⟨#[]⟩ false [] false=some (r,0))(h:r.size≤2048):
  Calls Tryz.prog 35 #[.pointer (some ⟨g,0,none⟩),.int .i64 0,.agg #[.int .i64 4,.int .i64 1,.int .i64 1,.int .i64 (s+1),.string tk,.int .i64 ok,.string key,.string vl,.string lo,.string hi,.int .i64 mo]] w (TurnBV g V vn vc room nx b tk ⟨s+1,false,r,1⟩ r w):=by
 have hlt:=blk_lt hg
 have HF:=h_ hf
 clear hf
 have HB:Hid (Only g w w):=h_ (Only.refl _ _)
 have HG0:=h_ hg
 have KG:=h_ hg
 clear hg
 have HR:=h_ hL
 clear hL
 have HAla:=h_ hA
 clear hA
 go_enter Tryz.func35,Tryz.ntmps35
 have nG:g≠w.heap.size:=Nat.ne_of_lt hlt
 go_upto_region 1 with(fail)
 refine nm fun w1 hb=>?_
 obtain⟨hz,_,hb,KQ⟩:=na1 hb
 obtain⟨hz,KG,HB⟩:=m2 hb KG HB
 refine rg2 KG KQ fun u1 hb hHeld=>?_
 obtain⟨hz,KG,KQ,HB⟩:=m3 hb KG KQ HB
 refine t_ 0 ?_
 refine t_ 1 ?_
 refine t_ 2 ?_
 refine t_ 3 ?_
 refine tl 4 15 5 (fun _ k=>k.1) Tryz.underlying47 ?_
 refine tl 5 0 11 (fun _ k=>k.2) Tryz.underlying61 ?_
 refine rd 6 fun K hK=>?_
 go_simp
 go_at_call 72
 refine(ses_judge _ _ _ _ _ _ nx s 0 4 (s+1) ok mo last tk key vl lo hi _ (Rs.only HR.out HB.out HG0.out (by decide)) h0 h1 rfl).mono ?_
 rintro e w2 ⟨rfl,hb⟩
 obtain⟨hz,KG,KQ,HB⟩:=m3 hb KG KQ HB
 refine bk hK ⟨KG.out,KQ.out⟩ fun hHeld=>?_
 refine t_ 7 ?_
 refine t_ 8 ?_
 refine t_ 9 ?_
 refine t_ 10 ?_
 refine t_ 11 ?_
 refine d_ ?_
 go_upto_region 8 with(fail)
 refine nm fun w3 hb=>?_
 obtain⟨hz,KG,KQ,HB⟩:=m3 hb KG KQ HB
 go_cut [8,7] from 13 (fun s8 s7 wx=>∃n_N A2 n2 c2 H2 m2 k2,s8= .pointer (some ⟨n_N,0,none⟩)∧s7= .int .i64 0∧wx.heap[g]? =some (.cells #[.slice V vn vc,.int .i64 (room),.int .i64 (-1),.bool false,.int .i64 1,.int .i64 1,.int .i64 0,.slice none 0 0,.slice none 0 0,.bool false,.slice none 0 0,.slice none 0 0,.slice none 0 0,.int .i64 1,.int .u64 0,.int .i64 1,.slice A n c,.slice H m kk,.int .i64 (nx),.int .u64 0,b,.slice none 0 0] 81 (0,0))∧wx.heap[w.heap.size]? =some (.cells #[.int .i64 4,.int .i64 1,.int .i64 1,.int .i64 (s+1),.string tk,.int .i64 ok,.string key,.string vl,.string lo,.string hi,.int .i64 mo] 61 (0,0))∧wx.heap[n_N]? =some (.cells #[.int .i64 1,.slice A2 n2 c2,.slice H2 m2 k2,.int .i64 (nx),.int .u64 0] 47 (0,0))∧Rs tySn 71 wx (.slice A2 n2 c2) ([(⟨s+1,true,⟨#[]⟩,0⟩:Sn)])∧HAl wx (.slice H2 m2 k2)∧w3.heap.size≤n_N∧Only g w wx)
 case first=>
  refine rg2 KG KQ fun u2 hb hHeld=>?_
  obtain⟨hz,KG,KQ,HB⟩:=m3 hb KG KQ HB
  refine t_ 0 ?_
  refine t_ 1 ?_
  refine t_ 2 ?_
  refine t_ 3 ?_
  refine tl 4 15 5 (fun _ k=>k.1) Tryz.underlying47 ?_
  refine t_ 5 ?_
  refine tq 6 (fun _ k=>bq k.2 2) ?_
  refine t_ 7 ?_
  refine wpAnyH_ready (rs:= [8,12]) (by kernel_rfl) (by simp) ?_
  refine AllReadyH.cons rfl (fun K hK=>?_) ?_
  ·go_simp
   go_at_call 73
   refine(ses_take _ _ _ _ _ _ nx (⟨s,false,last,0⟩:Sn) _ (Rs.only HR.out HB.out HG0.out (by decide)) (HAl.map (fun _ h=>(Rs.only h HB.out HG0.out (by decide))) HAla.out) h0 h1).mono ?_
   rintro e w4 ⟨A2,n2,c2,H2,m2,k2,rfl,hR2,hA2,hb⟩
   have HR2:=h_ hR2
   have HA2:=h_ hA2
   clear hR2 hA2
   obtain⟨hz,KG,KQ,HB⟩:=m3 hb KG KQ HB
   refine bk hK ⟨KG.out,KQ.out⟩ fun hHeld=>?_
   refine t_ 9 ?_
   refine t_ 10 ?_
   refine t_ 11 ?_
   refine rd 12 fun K hK=>?_
   go_simp
   refine na fun u3 hb KN=>?_
   obtain⟨hz,KG,KQ,HR2,HA2,HB⟩:=m5 hb KG KQ HR2 HA2 HB
   have Nlt:=blk_lt KN.out
   refine bk hK ⟨KG.out,KQ.out⟩ fun hHeld=>?_
   refine rd 13 fun K hK=>?_
   refine sm 0 [.int .i64 1,.slice A2 n2 c2,.slice H2 m2 k2,.int .i64 (nx),.int .u64 0] KN fun u4 ho kN=>?_
   obtain⟨hz,KG,KQ,HR2,HA2,HB⟩:=o5 ho KG KQ HR2 HA2 HB
   replace KN:=kN
   clear kN
   refine bk hK ⟨KG.out,KQ.out⟩ fun hHeld=>?_
   refine t_ 14 ?_
   refine d_ ?_
   go_wp2_with fail
   go_meet
   exact⟨w4.heap.size,A2,n2,c2,H2,m2,k2,rfl,rfl,KG.out,KQ.out,KN.out,HR2.out,(HAl.map (fun _ h=>h) HA2.out),by omega,HB.out⟩
  refine AllReadyH.cons rfl (fun K hK=>?_) AllReadyH.nil
  go_simp
  refine na fun u5 hb KN=>?_
  obtain⟨hz,KG,KQ,HB⟩:=m3 hb KG KQ HB
  have Nlt:=blk_lt KN.out
  refine bk hK ⟨KG.out,KQ.out⟩ fun hHeld=>?_
  refine rd 8 fun K hK=>?_
  go_simp
  go_at_call 73
  refine(ses_take _ _ _ _ _ _ nx (⟨s,false,last,0⟩:Sn) _ (Rs.only HR.out HB.out HG0.out (by decide)) (HAl.map (fun _ h=>(Rs.only h HB.out HG0.out (by decide))) HAla.out) h0 h1).mono ?_
  rintro e w4 ⟨A2,n2,c2,H2,m2,k2,rfl,hR2,hA2,hb⟩
  have HR2:=h_ hR2
  have HA2:=h_ hA2
  clear hR2 hA2
  obtain⟨hz,KG,KQ,KN,HB⟩:=m4 hb KG KQ KN HB
  refine bk hK ⟨KG.out,KQ.out⟩ fun hHeld=>?_
  refine t_ 9 ?_
  refine t_ 10 ?_
  refine t_ 11 ?_
  refine rd 13 fun K hK=>?_
  refine sm 0 [.int .i64 1,.slice A2 n2 c2,.slice H2 m2 k2,.int .i64 (nx),.int .u64 0] KN fun u6 ho kN=>?_
  obtain⟨hz,KG,KQ,HR2,HA2,HB⟩:=o5 ho KG KQ HR2 HA2 HB
  replace KN:=kN
  clear kN
  refine bk hK ⟨KG.out,KQ.out⟩ fun hHeld=>?_
  refine t_ 14 ?_
  refine d_ ?_
  go_wp2_with fail
  go_meet
  exact⟨u2.heap.size,A2,n2,c2,H2,m2,k2,rfl,rfl,KG.out,KQ.out,KN.out,HR2.out,(HAl.map (fun _ h=>h) HA2.out),by omega,HB.out⟩
 case rest=>
  rename World=>wc1
  clear KG KQ HB
  obtain⟨n_N,A2,n2,c2,H2,m2,k2,rfl,rfl,kG,kQ,kN,hR2,hA2,Nge,hB⟩:=hcut
  obtain⟨KG,G4lt,G4ne,G4en⟩:=hid_mv kG
  clear kG
  obtain⟨KQ,Q4lt,Q4ne,Q4en⟩:=hid_mv kQ
  clear kQ
  obtain⟨KN,N4lt,N4ne,N4en⟩:=hid_mv kN
  clear kN
  have HR2:=h_ hR2
  clear hR2
  have HA2:=h_ hA2
  clear hA2
  have HB:=h_ hB
  have hs4_:=HB.out.size
  clear hB
  obtain⟨rfl,b2,rfl,hb2⟩:=Rs.head1 HR2.out
  go_upto_region 11 with(fail)
  refine nm fun w5 hb=>?_
  obtain⟨hz,KG,KQ,KN,HR2,HA2,HB⟩:=m6 hb KG KQ KN HR2 HA2 HB
  have CG:=cells22 KG.out
  have CN:=cells5 KN.out
  go_upto_region 12 with(fail)
  refine nm fun w6 hb=>?_
  clear CG CN
  obtain⟨ho,kG⟩:=pw 15 [.int .i64 1,.slice (some ⟨b2,0,none⟩) 1 c2,.slice H2 m2 k2,.int .i64 (nx),.int .u64 0] KG hb
  obtain⟨hz,KQ,KN,HR2,HA2,HB⟩:=o5 ho KQ KN HR2 HA2 HB
  replace KG:=kG
  clear kG
  obtain⟨_,b3,e3,hb3⟩:=Rs.head1 HR2.out
  cases e3
  go_cut [9,10] from 13 (fun s9 s10 wx=>∃n_X,s9= .pointer (some ⟨n_X,0,none⟩)∧s10= .bool true∧wx.heap[g]? =some (.cells #[.slice V vn vc,.int .i64 (room),.int .i64 (-1),.bool false,.int .i64 1,.int .i64 1,.int .i64 0,.slice none 0 0,.slice none 0 0,.bool false,.slice none 0 0,.slice none 0 0,.slice none 0 0,.int .i64 1,.int .u64 0,.int .i64 1,.slice (some ⟨b2,0,none⟩) 1 c2,.slice H2 m2 k2,.int .i64 (nx),.int .u64 0,b,.slice none 0 0] 81 (0,0))∧wx.heap[w.heap.size]? =some (.cells #[.int .i64 4,.int .i64 1,.int .i64 1,.int .i64 (s+1),.string tk,.int .i64 ok,.string key,.string vl,.string lo,.string hi,.int .i64 mo] 61 (0,0))∧wx.heap[n_N]? =some (.cells #[.int .i64 1,.slice (some ⟨b2,0,none⟩) 1 c2,.slice H2 m2 k2,.int .i64 (nx),.int .u64 0] 47 (0,0))∧wx.heap[n_X]? =some (.cells #[.int .i64 1,.int .i64 (s+1),.bool true,.string ⟨#[]⟩,.int .i64 0,.int .i64 0] 71 (0,0))∧Rs tySn 71 wx (.slice (some ⟨b2,0,none⟩) 1 c2) ([(⟨s+1,true,⟨#[]⟩,0⟩:Sn)])∧HAl wx (.slice H2 m2 k2)∧w6.heap.size≤n_X∧Only g w wx)
  case first=>
   refine rg2 KG KQ fun u7 hb hHeld=>?_
   obtain⟨hz,KG,KQ,KN,HR2,HA2,HB⟩:=m6 hb KG KQ KN HR2 HA2 HB
   refine t_ 0 ?_
   refine t_ 1 ?_
   refine t_ 2 ?_
   refine t_ 3 ?_
   refine tl 4 15 5 (fun _ k=>k.1) Tryz.underlying47 ?_
   refine t_ 5 ?_
   refine tq 6 (fun _ k=>bq k.2 2) ?_
   refine wpAnyH_ready (rs:= [7,11]) (by kernel_rfl) (by simp) ?_
   refine AllReadyH.cons rfl (fun K hK=>?_) ?_
   ·go_simp
    go_at_call 68
    refine(ses_find _ _ _ _ _ _ nx (⟨s+1,true,⟨#[]⟩,0⟩:Sn) _ HR2.out).mono ?_
    rintro e w7 ⟨rfl,hb⟩
    obtain⟨hz,KG,KQ,KN,HR2,HA2,HB⟩:=m6 hb KG KQ KN HR2 HA2 HB
    refine bk hK ⟨KG.out,KQ.out⟩ fun hHeld=>?_
    refine t_ 8 ?_
    refine t_ 9 ?_
    refine t_ 10 ?_
    refine rd 11 fun K hK=>?_
    go_simp
    refine na fun u8 hb KX=>?_
    obtain⟨hz,KG,KQ,KN,HR2,HA2,HB⟩:=m6 hb KG KQ KN HR2 HA2 HB
    have Xlt:=blk_lt KX.out
    refine bk hK ⟨KG.out,KQ.out⟩ fun hHeld=>?_
    refine rd 12 fun K hK=>?_
    refine sm 0 [.int .i64 1,.int .i64 (s+1),.bool true,.string ⟨#[]⟩,.int .i64 0,.int .i64 0] KX fun u9 ho kX=>?_
    obtain⟨hz,KG,KQ,KN,HR2,HA2,HB⟩:=o6 ho KG KQ KN HR2 HA2 HB
    replace KX:=kX
    clear kX
    refine bk hK ⟨KG.out,KQ.out⟩ fun hHeld=>?_
    refine t_ 13 ?_
    refine d_ ?_
    go_wp2_with fail
    go_meet
    exact⟨w7.heap.size,rfl,rfl,KG.out,KQ.out,KN.out,KX.out,HR2.out,(HAl.map (fun _ h=>h) HA2.out),by omega,HB.out⟩
   refine AllReadyH.cons rfl (fun K hK=>?_) AllReadyH.nil
   go_simp
   refine na fun u10 hb KX=>?_
   obtain⟨hz,KG,KQ,KN,HR2,HA2,HB⟩:=m6 hb KG KQ KN HR2 HA2 HB
   have Xlt:=blk_lt KX.out
   refine bk hK ⟨KG.out,KQ.out⟩ fun hHeld=>?_
   refine rd 7 fun K hK=>?_
   go_simp
   go_at_call 68
   refine(ses_find _ _ _ _ _ _ nx (⟨s+1,true,⟨#[]⟩,0⟩:Sn) _ HR2.out).mono ?_
   rintro e w7 ⟨rfl,hb⟩
   obtain⟨hz,KG,KQ,KN,KX,HR2,HA2,HB⟩:=m7 hb KG KQ KN KX HR2 HA2 HB
   refine bk hK ⟨KG.out,KQ.out⟩ fun hHeld=>?_
   refine t_ 8 ?_
   refine t_ 9 ?_
   refine t_ 10 ?_
   refine rd 12 fun K hK=>?_
   refine sm 0 [.int .i64 1,.int .i64 (s+1),.bool true,.string ⟨#[]⟩,.int .i64 0,.int .i64 0] KX fun u11 ho kX=>?_
   obtain⟨hz,KG,KQ,KN,HR2,HA2,HB⟩:=o6 ho KG KQ KN HR2 HA2 HB
   replace KX:=kX
   clear kX
   refine bk hK ⟨KG.out,KQ.out⟩ fun hHeld=>?_
   refine t_ 13 ?_
   refine d_ ?_
   go_wp2_with fail
   go_meet
   exact⟨u7.heap.size,rfl,rfl,KG.out,KQ.out,KN.out,KX.out,HR2.out,(HAl.map (fun _ h=>h) HA2.out),by omega,HB.out⟩
  case rest=>
   rename World=>wc2
   clear KG KQ KN HR2 HA2 HB
   obtain⟨n_X,rfl,rfl,kG,kQ,kN,kX,hR2,hA2,Xge,hB⟩:=hcut
   obtain⟨KG,G7lt,G7ne,G7en⟩:=hid_mv kG
   clear kG
   obtain⟨KQ,Q7lt,Q7ne,Q7en⟩:=hid_mv kQ
   clear kQ
   obtain⟨KN,N7lt,N7ne,N7en⟩:=hid_mv kN
   clear kN
   obtain⟨KX,X7lt,X7ne,X7en⟩:=hid_mv kX
   clear kX
   have HR2:=h_ hR2
   clear hR2
   have HA2:=h_ hA2
   clear hA2
   have HB:=h_ hB
   have hs7_:=HB.out.size
   clear hB
   go_upto_region 16 with(fail)
   refine nm fun w8 hb=>?_
   obtain⟨hz,KG,KQ,KN,KX,HR2,HA2,HB⟩:=m7 hb KG KQ KN KX HR2 HA2 HB
   have CQ:=cells11 KQ.out
   have CX:=cells6 KX.out
   go_wp2_with fail
   refine(srv_begin k g V _ _ vn vc _ _ _ _ room nx (s+1) ⟨#[]⟩ tk b r _ KG.out HR2.out ht1 ht2 HF.out h).mono ?_
   rintro e w9 ⟨T,tn,tc,A9,n9,c9,M,cap,rfl,hb,hk,hT,hR,hM⟩
   have HX:=h_ (And.intro hk (And.intro hT (And.intro hR hM)))
   have HA9:=h_ (HAl.only (HAl.map (fun _ h=>h) HA2.out) hb KG.out (by decide))
   have HB9:=h_ (Only.trans HB.out hb)
   clear hk hT hR hM hb
   go_wp2
   go_end0
   exact⟨_,_,_,⟨T,tn,tc,A9,n9,c9,M,cap,rfl,HB9.out,HX.out.1,HX.out.2.1,HX.out.2.2.1,HX.out.2.2.2⟩,HA9.out⟩
def TurnOV (g k:Nat)(V KA:Option Addr)(vn vc kn kc:Nat)(room nx snx s:Int)(b:Value)(R:Tx→Dn→List Wr→List Pr→Prop)(hl0:List Hd)(w:World)(en:Ending)(w':World):Prop:=∃HA hn hc hl T tn tc y d l p r A n c H m kk M cap,en= .returned (.tuple #[])∧Only g w w'∧w'.heap[g]? =some (.cells #[.slice V vn vc,.int .i64 (room),.int .i64 (-1),.bool false,.int .i64 1,.int .i64 1,.int .i64 0,.slice none 0 0,.slice KA kn kc,.bool false,.slice HA hn hc,.slice none 0 0,.slice T tn tc,.int .i64 nx,.int .u64 0,.int .i64 1,.slice A n c,.slice H m kk,.int .i64 (snx),.int .u64 0,b,.slice (some ⟨M,0,none⟩) 1 cap] 81 (0,0))∧Rs tyTx 237 w' (.slice T tn tc) [y]∧Rs tyWr 212 w' (.slice y.A y.n y.c) l∧Rs tyHd 351 w' (.slice HA hn hc) hl∧hl.length≤hl0.length+1∧Rs tySn 71 w' (.slice A n c) [⟨s+1,false,r,1⟩]∧HAl w' (.slice H m kk)∧Rs tyMl 73 w' (.slice (some ⟨M,0,none⟩) 1 cap) [⟨Wire.textW r⟩]∧R y d l p∧wire_Reply.f k 1 1 (s+1) d.er d.v d.fd (p.map toS) false=some (r,0)
theorem srv_turn_op (k g:Nat)(V KA HA TA:Option Addr)(vn vc kn kc hn hc tn tc:Nat)(room nx:Int)(A H:Option Addr)(n c m kk:Nat)(snx s ok mo:Int)(last tk key vl lo hi:ByteArray)(b:Value)(t:Tx)(l:List Wr)(hl0:List Hd)(R:Tx→Dn→List Wr→List Pr→Prop)(w:World)(hg:w.heap[g]? =some (.cells #[.slice V vn vc,.int .i64 (room),.int .i64 (-1),.bool false,.int .i64 1,.int .i64 1,.int .i64 0,.slice none 0 0,.slice KA kn kc,.bool false,.slice HA hn hc,.slice none 0 0,.slice TA tn tc,.int .i64 nx,.int .u64 0,.int .i64 1,.slice A n c,.slice H m kk,.int .i64 (snx),.int .u64 0,b,.slice none 0 0] 81 (0,0)))(hL:Rs tySn 71 w (.slice A n c) [⟨s,false,last,1⟩])(hA:HAl w (.slice H m kk))(hT:Rs tyTx 237 w (.slice TA tn tc) [t])(hW:Rs tyWr 212 w (.slice t.A t.n t.c) l)(hH:Rs tyHd 351 w (.slice HA hn hc) hl0)(h0:0≤s)(h1:s<1073741824)
  (hask:∀W:World,Rs tyTx 237 W (.slice TA tn tc) [t]→Rs tyWr 212 W (.slice t.A t.n t.c) l→Rs tyHd 351 W (.slice HA hn hc) hl0→Calls Tryz.prog 77 #[.agg #[.slice V vn vc,.int .i64 (room),.int .i64 (-1),.bool false,.int .i64 1,.int .i64 1,.int .i64 0,.slice none 0 0,.slice KA kn kc,.bool false,.slice HA hn hc,.slice none 0 0,.slice TA tn tc,.int .i64 nx,.int .u64 0],.int .i64 1,.agg #[.int .i64 ok,.string key,.string vl,.string lo,.string hi,.int .i64 mo]] W (EAskV V KA vn vc kn kc room nx R hl0 W))
  (hrep:∀y d l p,R y d l p→∃r,wire_Reply.f k 1 1 (s+1) d.er d.v d.fd (p.map toS) false=some (r,0)∧r.size≤2048∧d.ov=false∧p.length≤100000):
  Calls Tryz.prog 35 #[.pointer (some ⟨g,0,none⟩),.int .i64 0,.agg #[.int .i64 5,.int .i64 1,.int .i64 1,.int .i64 (s+1),.string tk,.int .i64 ok,.string key,.string vl,.string lo,.string hi,.int .i64 mo]] w (TurnOV g k V KA vn vc kn kc room nx snx s b R hl0 w):=by
 have hlt:=blk_lt hg
 have HASK:=h_ hask
 have HREP:=h_ hrep
 clear hask hrep
 have HB:Hid (Only g w w):=h_ (Only.refl _ _)
 have HG0:=h_ hg
 have KG:=h_ hg
 clear hg
 have HR:=h_ hL
 clear hL
 have HAla:=h_ hA
 clear hA
 have HT:=h_ hT
 clear hT
 have HW:=h_ hW
 clear hW
 have HH:=h_ hH
 clear hH
 go_enter Tryz.func35,Tryz.ntmps35
 have nG:g≠w.heap.size:=Nat.ne_of_lt hlt
 go_upto_region 1 with(fail)
 refine nm fun w1 hb=>?_
 obtain⟨hz,_,hb,KQ⟩:=na1 hb
 obtain⟨hz,KG,HB⟩:=m2 hb KG HB
 refine rg2 KG KQ fun u1 hb hHeld=>?_
 obtain⟨hz,KG,KQ,HB⟩:=m3 hb KG KQ HB
 refine t_ 0 ?_
 refine t_ 1 ?_
 refine t_ 2 ?_
 refine t_ 3 ?_
 refine tl 4 15 5 (fun _ k=>k.1) Tryz.underlying47 ?_
 refine tl 5 0 11 (fun _ k=>k.2) Tryz.underlying61 ?_
 refine rd 6 fun K hK=>?_
 go_simp
 go_at_call 72
 refine(ses_judge _ _ _ _ _ _ snx s 1 5 (s+1) ok mo last tk key vl lo hi _ (Rs.only HR.out HB.out HG0.out (by decide)) h0 h1 rfl).mono ?_
 rintro e w2 ⟨rfl,hb⟩
 obtain⟨hz,KG,KQ,HB⟩:=m3 hb KG KQ HB
 refine bk hK ⟨KG.out,KQ.out⟩ fun hHeld=>?_
 refine t_ 7 ?_
 refine t_ 8 ?_
 refine t_ 9 ?_
 refine t_ 10 ?_
 refine t_ 11 ?_
 refine d_ ?_
 go_upto_region 8 with(fail)
 refine nm fun w3 hb=>?_
 obtain⟨hz,KG,KQ,HB⟩:=m3 hb KG KQ HB
 go_cut [8,7] from 13 (fun s8 s7 wx=>∃n_N A2 n2 c2 H2 m2 k2,s8= .pointer (some ⟨n_N,0,none⟩)∧s7= .int .i64 0∧wx.heap[g]? =some (.cells #[.slice V vn vc,.int .i64 (room),.int .i64 (-1),.bool false,.int .i64 1,.int .i64 1,.int .i64 0,.slice none 0 0,.slice KA kn kc,.bool false,.slice HA hn hc,.slice none 0 0,.slice TA tn tc,.int .i64 nx,.int .u64 0,.int .i64 1,.slice A n c,.slice H m kk,.int .i64 (snx),.int .u64 0,b,.slice none 0 0] 81 (0,0))∧wx.heap[w.heap.size]? =some (.cells #[.int .i64 5,.int .i64 1,.int .i64 1,.int .i64 (s+1),.string tk,.int .i64 ok,.string key,.string vl,.string lo,.string hi,.int .i64 mo] 61 (0,0))∧wx.heap[n_N]? =some (.cells #[.int .i64 1,.slice A2 n2 c2,.slice H2 m2 k2,.int .i64 (snx),.int .u64 0] 47 (0,0))∧Rs tySn 71 wx (.slice A2 n2 c2) ([(⟨s+1,true,⟨#[]⟩,1⟩:Sn)])∧HAl wx (.slice H2 m2 k2)∧w3.heap.size≤n_N∧Only g w wx)
 case first=>
  refine rg2 KG KQ fun u2 hb hHeld=>?_
  obtain⟨hz,KG,KQ,HB⟩:=m3 hb KG KQ HB
  refine t_ 0 ?_
  refine t_ 1 ?_
  refine t_ 2 ?_
  refine t_ 3 ?_
  refine tl 4 15 5 (fun _ k=>k.1) Tryz.underlying47 ?_
  refine t_ 5 ?_
  refine tq 6 (fun _ k=>bq k.2 2) ?_
  refine t_ 7 ?_
  refine wpAnyH_ready (rs:= [8,12]) (by kernel_rfl) (by simp) ?_
  refine AllReadyH.cons rfl (fun K hK=>?_) ?_
  ·go_simp
   go_at_call 73
   refine(ses_take _ _ _ _ _ _ snx (⟨s,false,last,1⟩:Sn) _ (Rs.only HR.out HB.out HG0.out (by decide)) (HAl.map (fun _ h=>(Rs.only h HB.out HG0.out (by decide))) HAla.out) h0 h1).mono ?_
   rintro e w4 ⟨A2,n2,c2,H2,m2,k2,rfl,hR2,hA2,hb⟩
   have HR2:=h_ hR2
   have HA2:=h_ hA2
   clear hR2 hA2
   obtain⟨hz,KG,KQ,HB⟩:=m3 hb KG KQ HB
   refine bk hK ⟨KG.out,KQ.out⟩ fun hHeld=>?_
   refine t_ 9 ?_
   refine t_ 10 ?_
   refine t_ 11 ?_
   refine rd 12 fun K hK=>?_
   go_simp
   refine na fun u3 hb KN=>?_
   obtain⟨hz,KG,KQ,HR2,HA2,HB⟩:=m5 hb KG KQ HR2 HA2 HB
   have Nlt:=blk_lt KN.out
   refine bk hK ⟨KG.out,KQ.out⟩ fun hHeld=>?_
   refine rd 13 fun K hK=>?_
   refine sm 0 [.int .i64 1,.slice A2 n2 c2,.slice H2 m2 k2,.int .i64 (snx),.int .u64 0] KN fun u4 ho kN=>?_
   obtain⟨hz,KG,KQ,HR2,HA2,HB⟩:=o5 ho KG KQ HR2 HA2 HB
   replace KN:=kN
   clear kN
   refine bk hK ⟨KG.out,KQ.out⟩ fun hHeld=>?_
   refine t_ 14 ?_
   refine d_ ?_
   go_wp2_with fail
   go_meet
   exact⟨w4.heap.size,A2,n2,c2,H2,m2,k2,rfl,rfl,KG.out,KQ.out,KN.out,HR2.out,(HAl.map (fun _ h=>h) HA2.out),by omega,HB.out⟩
  refine AllReadyH.cons rfl (fun K hK=>?_) AllReadyH.nil
  go_simp
  refine na fun u5 hb KN=>?_
  obtain⟨hz,KG,KQ,HB⟩:=m3 hb KG KQ HB
  have Nlt:=blk_lt KN.out
  refine bk hK ⟨KG.out,KQ.out⟩ fun hHeld=>?_
  refine rd 8 fun K hK=>?_
  go_simp
  go_at_call 73
  refine(ses_take _ _ _ _ _ _ snx (⟨s,false,last,1⟩:Sn) _ (Rs.only HR.out HB.out HG0.out (by decide)) (HAl.map (fun _ h=>(Rs.only h HB.out HG0.out (by decide))) HAla.out) h0 h1).mono ?_
  rintro e w4 ⟨A2,n2,c2,H2,m2,k2,rfl,hR2,hA2,hb⟩
  have HR2:=h_ hR2
  have HA2:=h_ hA2
  clear hR2 hA2
  obtain⟨hz,KG,KQ,KN,HB⟩:=m4 hb KG KQ KN HB
  refine bk hK ⟨KG.out,KQ.out⟩ fun hHeld=>?_
  refine t_ 9 ?_
  refine t_ 10 ?_
  refine t_ 11 ?_
  refine rd 13 fun K hK=>?_
  refine sm 0 [.int .i64 1,.slice A2 n2 c2,.slice H2 m2 k2,.int .i64 (snx),.int .u64 0] KN fun u6 ho kN=>?_
  obtain⟨hz,KG,KQ,HR2,HA2,HB⟩:=o5 ho KG KQ HR2 HA2 HB
  replace KN:=kN
  clear kN
  refine bk hK ⟨KG.out,KQ.out⟩ fun hHeld=>?_
  refine t_ 14 ?_
  refine d_ ?_
  go_wp2_with fail
  go_meet
  exact⟨u2.heap.size,A2,n2,c2,H2,m2,k2,rfl,rfl,KG.out,KQ.out,KN.out,HR2.out,(HAl.map (fun _ h=>h) HA2.out),by omega,HB.out⟩
 case rest=>
  rename World=>wc1
  clear KG KQ HB
  obtain⟨n_N,A2,n2,c2,H2,m2,k2,rfl,rfl,kG,kQ,kN,hR2,hA2,Nge,hB⟩:=hcut
  obtain⟨KG,G4lt,G4ne,G4en⟩:=hid_mv kG
  clear kG
  obtain⟨KQ,Q4lt,Q4ne,Q4en⟩:=hid_mv kQ
  clear kQ
  obtain⟨KN,N4lt,N4ne,N4en⟩:=hid_mv kN
  clear kN
  have HR2:=h_ hR2
  clear hR2
  have HA2:=h_ hA2
  clear hA2
  have HB:=h_ hB
  have hs4_:=HB.out.size
  clear hB
  obtain⟨rfl,b2,rfl,hb2⟩:=Rs.head1 HR2.out
  go_upto_region 11 with(fail)
  refine nm fun w5 hb=>?_
  obtain⟨hz,KG,KQ,KN,HR2,HA2,HB⟩:=m6 hb KG KQ KN HR2 HA2 HB
  have CG:=cells22 KG.out
  have CN:=cells5 KN.out
  go_upto_region 12 with(fail)
  refine nm fun w6 hb=>?_
  clear CG CN
  obtain⟨ho,kG⟩:=pw 15 [.int .i64 1,.slice (some ⟨b2,0,none⟩) 1 c2,.slice H2 m2 k2,.int .i64 (snx),.int .u64 0] KG hb
  obtain⟨hz,KQ,KN,HR2,HA2,HB⟩:=o5 ho KQ KN HR2 HA2 HB
  replace KG:=kG
  clear kG
  obtain⟨_,b3,e3,hb3⟩:=Rs.head1 HR2.out
  cases e3
  go_cut [9,10] from 13 (fun s9 s10 wx=>∃n_X,s9= .pointer (some ⟨n_X,0,none⟩)∧s10= .bool true∧wx.heap[g]? =some (.cells #[.slice V vn vc,.int .i64 (room),.int .i64 (-1),.bool false,.int .i64 1,.int .i64 1,.int .i64 0,.slice none 0 0,.slice KA kn kc,.bool false,.slice HA hn hc,.slice none 0 0,.slice TA tn tc,.int .i64 nx,.int .u64 0,.int .i64 1,.slice (some ⟨b2,0,none⟩) 1 c2,.slice H2 m2 k2,.int .i64 (snx),.int .u64 0,b,.slice none 0 0] 81 (0,0))∧wx.heap[w.heap.size]? =some (.cells #[.int .i64 5,.int .i64 1,.int .i64 1,.int .i64 (s+1),.string tk,.int .i64 ok,.string key,.string vl,.string lo,.string hi,.int .i64 mo] 61 (0,0))∧wx.heap[n_N]? =some (.cells #[.int .i64 1,.slice (some ⟨b2,0,none⟩) 1 c2,.slice H2 m2 k2,.int .i64 (snx),.int .u64 0] 47 (0,0))∧wx.heap[n_X]? =some (.cells #[.int .i64 1,.int .i64 (s+1),.bool true,.string ⟨#[]⟩,.int .i64 1,.int .i64 0] 71 (0,0))∧Rs tySn 71 wx (.slice (some ⟨b2,0,none⟩) 1 c2) ([(⟨s+1,true,⟨#[]⟩,1⟩:Sn)])∧HAl wx (.slice H2 m2 k2)∧w6.heap.size≤n_X∧Only g w wx)
  case first=>
   refine rg2 KG KQ fun u7 hb hHeld=>?_
   obtain⟨hz,KG,KQ,KN,HR2,HA2,HB⟩:=m6 hb KG KQ KN HR2 HA2 HB
   refine t_ 0 ?_
   refine t_ 1 ?_
   refine t_ 2 ?_
   refine t_ 3 ?_
   refine tl 4 15 5 (fun _ k=>k.1) Tryz.underlying47 ?_
   refine t_ 5 ?_
   refine tq 6 (fun _ k=>bq k.2 2) ?_
   refine wpAnyH_ready (rs:= [7,11]) (by kernel_rfl) (by simp) ?_
   refine AllReadyH.cons rfl (fun K hK=>?_) ?_
   ·go_simp
    go_at_call 68
    refine(ses_find _ _ _ _ _ _ snx (⟨s+1,true,⟨#[]⟩,1⟩:Sn) _ HR2.out).mono ?_
    rintro e w7 ⟨rfl,hb⟩
    obtain⟨hz,KG,KQ,KN,HR2,HA2,HB⟩:=m6 hb KG KQ KN HR2 HA2 HB
    refine bk hK ⟨KG.out,KQ.out⟩ fun hHeld=>?_
    refine t_ 8 ?_
    refine t_ 9 ?_
    refine t_ 10 ?_
    refine rd 11 fun K hK=>?_
    go_simp
    refine na fun u8 hb KX=>?_
    obtain⟨hz,KG,KQ,KN,HR2,HA2,HB⟩:=m6 hb KG KQ KN HR2 HA2 HB
    have Xlt:=blk_lt KX.out
    refine bk hK ⟨KG.out,KQ.out⟩ fun hHeld=>?_
    refine rd 12 fun K hK=>?_
    refine sm 0 [.int .i64 1,.int .i64 (s+1),.bool true,.string ⟨#[]⟩,.int .i64 1,.int .i64 0] KX fun u9 ho kX=>?_
    obtain⟨hz,KG,KQ,KN,HR2,HA2,HB⟩:=o6 ho KG KQ KN HR2 HA2 HB
    replace KX:=kX
    clear kX
    refine bk hK ⟨KG.out,KQ.out⟩ fun hHeld=>?_
    refine t_ 13 ?_
    refine d_ ?_
    go_wp2_with fail
    go_meet
    exact⟨w7.heap.size,rfl,rfl,KG.out,KQ.out,KN.out,KX.out,HR2.out,(HAl.map (fun _ h=>h) HA2.out),by omega,HB.out⟩
   refine AllReadyH.cons rfl (fun K hK=>?_) AllReadyH.nil
   go_simp
   refine na fun u10 hb KX=>?_
   obtain⟨hz,KG,KQ,KN,HR2,HA2,HB⟩:=m6 hb KG KQ KN HR2 HA2 HB
   have Xlt:=blk_lt KX.out
   refine bk hK ⟨KG.out,KQ.out⟩ fun hHeld=>?_
   refine rd 7 fun K hK=>?_
   go_simp
   go_at_call 68
   refine(ses_find _ _ _ _ _ _ snx (⟨s+1,true,⟨#[]⟩,1⟩:Sn) _ HR2.out).mono ?_
   rintro e w7 ⟨rfl,hb⟩
   obtain⟨hz,KG,KQ,KN,KX,HR2,HA2,HB⟩:=m7 hb KG KQ KN KX HR2 HA2 HB
   refine bk hK ⟨KG.out,KQ.out⟩ fun hHeld=>?_
   refine t_ 8 ?_
   refine t_ 9 ?_
   refine t_ 10 ?_
   refine rd 12 fun K hK=>?_
   refine sm 0 [.int .i64 1,.int .i64 (s+1),.bool true,.string ⟨#[]⟩,.int .i64 1,.int .i64 0] KX fun u11 ho kX=>?_
   obtain⟨hz,KG,KQ,KN,HR2,HA2,HB⟩:=o6 ho KG KQ KN HR2 HA2 HB
   replace KX:=kX
   clear kX
   refine bk hK ⟨KG.out,KQ.out⟩ fun hHeld=>?_
   refine t_ 13 ?_
   refine d_ ?_
   go_wp2_with fail
   go_meet
   exact⟨u7.heap.size,rfl,rfl,KG.out,KQ.out,KN.out,KX.out,HR2.out,(HAl.map (fun _ h=>h) HA2.out),by omega,HB.out⟩
  case rest=>
   rename World=>wc2
   clear KG KQ KN HR2 HA2 HB
   obtain⟨n_X,rfl,rfl,kG,kQ,kN,kX,hR2,hA2,Xge,hB⟩:=hcut
   obtain⟨KG,G7lt,G7ne,G7en⟩:=hid_mv kG
   clear kG
   obtain⟨KQ,Q7lt,Q7ne,Q7en⟩:=hid_mv kQ
   clear kQ
   obtain⟨KN,N7lt,N7ne,N7en⟩:=hid_mv kN
   clear kN
   obtain⟨KX,X7lt,X7ne,X7en⟩:=hid_mv kX
   clear kX
   have HR2:=h_ hR2
   clear hR2
   have HA2:=h_ hA2
   clear hA2
   have HB:=h_ hB
   have hs7_:=HB.out.size
   clear hB
   go_upto_region 16 with(fail)
   refine nm fun w8 hb=>?_
   obtain⟨hz,KG,KQ,KN,KX,HR2,HA2,HB⟩:=m7 hb KG KQ KN KX HR2 HA2 HB
   have CQ:=cells11 KQ.out
   have CX:=cells6 KX.out
   go_upto_region 13 with(fail)
   refine nm fun w9 hb=>?_
   clear CQ CX
   obtain⟨hz,KG,KQ,KN,KX,HR2,HA2,HB⟩:=m7 hb KG KQ KN KX HR2 HA2 HB
   go_cut [11,12] from 13 (fun s11 s12 wx=>∃n_M HA9 hn9 hc9 hl9 T9 tn9 tc9 y9 E9 en9 ec9 d9 l9 p9,s11= .pointer (some ⟨n_M,0,none⟩)∧s12= .slice E9 en9 ec9∧wx.heap[g]? =some (.cells #[.slice V vn vc,.int .i64 (room),.int .i64 (-1),.bool false,.int .i64 1,.int .i64 1,.int .i64 0,.slice none 0 0,.slice KA kn kc,.bool false,.slice HA hn hc,.slice none 0 0,.slice TA tn tc,.int .i64 nx,.int .u64 0,.int .i64 1,.slice (some ⟨b2,0,none⟩) 1 c2,.slice H2 m2 k2,.int .i64 (snx),.int .u64 0,b,.slice none 0 0] 81 (0,0))∧wx.heap[w.heap.size]? =some (.cells #[.int .i64 5,.int .i64 1,.int .i64 1,.int .i64 (s+1),.string tk,.int .i64 ok,.string key,.string vl,.string lo,.string hi,.int .i64 mo] 61 (0,0))∧wx.heap[n_N]? =some (.cells #[.int .i64 1,.slice (some ⟨b2,0,none⟩) 1 c2,.slice H2 m2 k2,.int .i64 (snx),.int .u64 0] 47 (0,0))∧wx.heap[n_X]? =some (.cells #[.int .i64 1,.int .i64 (s+1),.bool true,.string ⟨#[]⟩,.int .i64 1,.int .i64 0] 71 (0,0))∧wx.heap[n_M]? =some (.cells #[.slice V vn vc,.int .i64 (room),.int .i64 (-1),.bool false,.int .i64 1,.int .i64 1,.int .i64 0,.slice none 0 0,.slice KA kn kc,.bool false,.slice HA9 hn9 hc9,.slice none 0 0,.slice T9 tn9 tc9,.int .i64 nx,.int .u64 0] 43 (0,0))∧Rs tySn 71 wx (.slice (some ⟨b2,0,none⟩) 1 c2) ([(⟨s+1,true,⟨#[]⟩,1⟩:Sn)])∧HAl wx (.slice H2 m2 k2)∧Rs tyTx 237 wx (.slice T9 tn9 tc9) ([y9])∧Rs tyWr 212 wx (.slice y9.A y9.n y9.c) (l9)∧Rs tyDn 243 wx (.slice E9 en9 ec9) ([d9])∧Rs tyPr 123 wx (.slice d9.P d9.pn d9.pc) (p9)∧Rs tyHd 351 wx (.slice HA9 hn9 hc9) (hl9)∧(hl9.length≤hl0.length+1)∧(R y9 d9 l9 p9)∧w9.heap.size≤n_M∧Only g w wx)
   case first=>
    refine rg3 KG KX KQ fun u12 hb hHeld=>?_
    obtain⟨hz,KG,KQ,KN,KX,HR2,HA2,HB⟩:=m7 hb KG KQ KN KX HR2 HA2 HB
    refine t_ 0 ?_
    refine t_ 1 ?_
    refine t_ 2 ?_
    refine t_ 3 ?_
    refine tl 4 0 15 (fun _ k=>k.1) Tryz.underlying43 ?_
    refine t_ 5 ?_
    refine tq 6 (fun _ k=>bq k.2.1 4) ?_
    refine t_ 7 ?_
    refine tl 8 5 6 (fun _ k=>k.2.2) Tryz.underlying59 ?_
    refine wpAnyH_ready (rs:= [9,13]) (by kernel_rfl) (by simp) ?_
    refine AllReadyH.cons rfl (fun K hK=>?_) ?_
    ·go_simp
     go_at_call 77
     refine(HASK.out _ (Rs.only HT.out HB.out HG0.out (by decide)) (Rs.only HW.out HB.out HG0.out (by decide)) (Rs.only HH.out HB.out HG0.out (by decide))).mono ?_
     rintro e w10 ⟨HA9,hn9,hc9,hl9,T9,tn9,tc9,y9,E9,en9,ec9,d9,l9,p9,rfl,hb,hT9,hW9,hD9,hP9,hH9,hln,hrr⟩
     have HT9:=h_ hT9
     have HW9:=h_ hW9
     have HD9:=h_ hD9
     have HP9:=h_ hP9
     have HH9:=h_ hH9
     have HLN:=h_ hln
     have HRR:=h_ hrr
     clear hT9 hW9 hD9 hP9 hH9 hln hrr
     obtain⟨hz,KG,KQ,KN,KX,HR2,HA2,HB⟩:=m7 hb KG KQ KN KX HR2 HA2 HB
     refine bk hK ⟨KG.out,KX.out,KQ.out⟩ fun hHeld=>?_
     refine t_ 10 ?_
     refine t_ 11 ?_
     refine t_ 12 ?_
     refine rd 13 fun K hK=>?_
     go_simp
     refine na fun u13 hb KM=>?_
     obtain⟨hz,KG,KQ,KN,KX,HR2,HA2,HT9,HW9,HD9,HP9,HH9,HB⟩:=m12 hb KG KQ KN KX HR2 HA2 HT9 HW9 HD9 HP9 HH9 HB
     have Mlt:=blk_lt KM.out
     refine bk hK ⟨KG.out,KX.out,KQ.out⟩ fun hHeld=>?_
     refine rd 14 fun K hK=>?_
     refine sm 0 [.slice V vn vc,.int .i64 (room),.int .i64 (-1),.bool false,.int .i64 1,.int .i64 1,.int .i64 0,.slice none 0 0,.slice KA kn kc,.bool false,.slice HA9 hn9 hc9,.slice none 0 0,.slice T9 tn9 tc9,.int .i64 nx,.int .u64 0] KM fun u14 ho kM=>?_
     obtain⟨hz,KG,KQ,KN,KX,HR2,HA2,HT9,HW9,HD9,HP9,HH9,HB⟩:=o12 ho KG KQ KN KX HR2 HA2 HT9 HW9 HD9 HP9 HH9 HB
     replace KM:=kM
     clear kM
     refine bk hK ⟨KG.out,KX.out,KQ.out⟩ fun hHeld=>?_
     refine t_ 15 ?_
     refine d_ ?_
     go_wp2_with fail
     go_meet
     exact⟨w10.heap.size,HA9,hn9,hc9,hl9,T9,tn9,tc9,y9,E9,en9,ec9,d9,l9,p9,rfl,rfl,KG.out,KQ.out,KN.out,KX.out,KM.out,HR2.out,(HAl.map (fun _ h=>h) HA2.out),HT9.out,HW9.out,HD9.out,HP9.out,HH9.out,HLN.out,HRR.out,by omega,HB.out⟩
    refine AllReadyH.cons rfl (fun K hK=>?_) AllReadyH.nil
    go_simp
    refine na fun u15 hb KM=>?_
    obtain⟨hz,KG,KQ,KN,KX,HR2,HA2,HB⟩:=m7 hb KG KQ KN KX HR2 HA2 HB
    have Mlt:=blk_lt KM.out
    refine bk hK ⟨KG.out,KX.out,KQ.out⟩ fun hHeld=>?_
    refine rd 9 fun K hK=>?_
    go_simp
    go_at_call 77
    refine(HASK.out _ (Rs.only HT.out HB.out HG0.out (by decide)) (Rs.only HW.out HB.out HG0.out (by decide)) (Rs.only HH.out HB.out HG0.out (by decide))).mono ?_
    rintro e w10 ⟨HA9,hn9,hc9,hl9,T9,tn9,tc9,y9,E9,en9,ec9,d9,l9,p9,rfl,hb,hT9,hW9,hD9,hP9,hH9,hln,hrr⟩
    have HT9:=h_ hT9
    have HW9:=h_ hW9
    have HD9:=h_ hD9
    have HP9:=h_ hP9
    have HH9:=h_ hH9
    have HLN:=h_ hln
    have HRR:=h_ hrr
    clear hT9 hW9 hD9 hP9 hH9 hln hrr
    obtain⟨hz,KG,KQ,KN,KX,KM,HR2,HA2,HB⟩:=m8 hb KG KQ KN KX KM HR2 HA2 HB
    refine bk hK ⟨KG.out,KX.out,KQ.out⟩ fun hHeld=>?_
    refine t_ 10 ?_
    refine t_ 11 ?_
    refine t_ 12 ?_
    refine rd 14 fun K hK=>?_
    refine sm 0 [.slice V vn vc,.int .i64 (room),.int .i64 (-1),.bool false,.int .i64 1,.int .i64 1,.int .i64 0,.slice none 0 0,.slice KA kn kc,.bool false,.slice HA9 hn9 hc9,.slice none 0 0,.slice T9 tn9 tc9,.int .i64 nx,.int .u64 0] KM fun u16 ho kM=>?_
    obtain⟨hz,KG,KQ,KN,KX,HR2,HA2,HT9,HW9,HD9,HP9,HH9,HB⟩:=o12 ho KG KQ KN KX HR2 HA2 HT9 HW9 HD9 HP9 HH9 HB
    replace KM:=kM
    clear kM
    refine bk hK ⟨KG.out,KX.out,KQ.out⟩ fun hHeld=>?_
    refine t_ 15 ?_
    refine d_ ?_
    go_wp2_with fail
    go_meet
    exact⟨u12.heap.size,HA9,hn9,hc9,hl9,T9,tn9,tc9,y9,E9,en9,ec9,d9,l9,p9,rfl,rfl,KG.out,KQ.out,KN.out,KX.out,KM.out,HR2.out,(HAl.map (fun _ h=>h) HA2.out),HT9.out,HW9.out,HD9.out,HP9.out,HH9.out,HLN.out,HRR.out,by omega,HB.out⟩
   case rest=>
    rename World=>wc3
    clear KG KQ KN KX HR2 HA2 HB
    obtain⟨n_M,HA9,hn9,hc9,hl9,T9,tn9,tc9,y9,E9,en9,ec9,d9,l9,p9,rfl,rfl,kG,kQ,kN,kX,kM,hR2,hA2,hT9,hW9,hD9,hP9,hH9,p_HLN,p_HRR,Mge,hB⟩:=hcut
    obtain⟨KG,G10lt,G10ne,G10en⟩:=hid_mv kG
    clear kG
    obtain⟨KQ,Q10lt,Q10ne,Q10en⟩:=hid_mv kQ
    clear kQ
    obtain⟨KN,N10lt,N10ne,N10en⟩:=hid_mv kN
    clear kN
    obtain⟨KX,X10lt,X10ne,X10en⟩:=hid_mv kX
    clear kX
    obtain⟨KM,M10lt,M10ne,M10en⟩:=hid_mv kM
    clear kM
    have HR2:=h_ hR2
    clear hR2
    have HA2:=h_ hA2
    clear hA2
    have HT9:=h_ hT9
    clear hT9
    have HW9:=h_ hW9
    clear hW9
    have HD9:=h_ hD9
    clear hD9
    have HP9:=h_ hP9
    clear hP9
    have HH9:=h_ hH9
    clear hH9
    have HLN:=h_ p_HLN
    clear p_HLN
    have HRR:=h_ p_HRR
    clear p_HRR
    have HB:=h_ hB
    have hs10_:=HB.out.size
    clear hB
    go_upto_region 14 with(fail)
    refine nm fun w11 hb=>?_
    obtain⟨hz,KG,KQ,KN,KX,KM,HR2,HA2,HT9,HW9,HD9,HP9,HH9,HB⟩:=m13 hb KG KQ KN KX KM HR2 HA2 HT9 HW9 HD9 HP9 HH9 HB
    have CG:=cells22 KG.out
    have CM:=cells15 KM.out
    go_upto_region 15 with(fail)
    refine nm fun w12 hb=>?_
    clear CG CM
    obtain⟨ho,kG⟩:=pw 0 [.slice V vn vc,.int .i64 (room),.int .i64 (-1),.bool false,.int .i64 1,.int .i64 1,.int .i64 0,.slice none 0 0,.slice KA kn kc,.bool false,.slice HA9 hn9 hc9,.slice none 0 0,.slice T9 tn9 tc9,.int .i64 nx,.int .u64 0] KG hb
    obtain⟨hz,KQ,KN,KX,KM,HR2,HA2,HT9,HW9,HD9,HP9,HH9,HB⟩:=o12 ho KQ KN KX KM HR2 HA2 HT9 HW9 HD9 HP9 HH9 HB
    replace KG:=kG
    clear kG
    obtain⟨r,hr1,hr2,hr3,hr4⟩:=HREP.out y9 d9 l9 p9 HRR.out
    have HR1:=h_ hr1
    clear hr1
    go_wp2_with fail
    refine(srv_dones_keep k g (.slice V vn vc) (.int .i64 (room)) (.int .i64 (-1)) (.bool false) (.int .i64 1) (.int .i64 1) (.int .i64 0) (.slice none 0 0) (.slice KA kn kc) (.bool false) (.slice HA9 hn9 hc9) (.slice none 0 0) (.slice T9 tn9 tc9) (.int .i64 nx) (.int .u64 0) b _ _ _ _ _ _ snx (⟨s+1,true,⟨#[]⟩,1⟩:Sn) d9 _ _ _ p9 r _ KG.out HR2.out rfl HD9.out hr3 HP9.out hr4 HR1.out hr2).mono ?_
    rintro e w13 ⟨A13,n13,c13,M,cap,rfl,hb,hk,hR,hM⟩
    have HX:=h_ (And.intro hk (And.intro hR hM))
    have HA13:=h_ (HAl.only (HAl.map (fun _ h=>h) HA2.out) hb KG.out (by decide))
    have HT13:=h_ (Rs.only HT9.out hb KG.out (by decide))
    have HW13:=h_ (Rs.only HW9.out hb KG.out (by decide))
    have HH13:=h_ (Rs.only HH9.out hb KG.out (by decide))
    have HB13:=h_ (Only.trans HB.out hb)
    clear hk hR hM hb
    go_wp2
    go_end0
    exact⟨_,_,_,hl9,_,_,_,y9,d9,l9,p9,r,_,_,_,_,_,_,M,cap,rfl,HB13.out,HX.out.1,HT13.out,HW13.out,HH13.out,HLN.out,HX.out.2.1,HA13.out,HX.out.2.2,HRR.out,HR1.out⟩
end Go.Proofs.YtmgmdiekpmffbaaGreatDoor.Top
