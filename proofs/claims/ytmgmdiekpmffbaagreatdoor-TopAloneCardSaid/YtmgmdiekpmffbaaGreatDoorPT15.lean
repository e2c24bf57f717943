/- Part of the proof of the statement TopAlone, as a card; what is proved, and on which condition, stands at the head of YtmgmdiekpmffbaaGreatDoorPT20 (texts TopRepE, QWix4, RefTake, NextR, QWix5, QWix7, TopReq, QWix9) -/
import Derived.Test.YtmgmdiekpmffbaaGreatDoorPT1
import Derived.Test.YtmgmdiekpmffbaaGreatDoorPT3
import Derived.Test.YtmgmdiekpmffbaaGreatDoorPT4
import Derived.Test.YtmgmdiekpmffbaaGreatDoorPT5
import Derived.Test.YtmgmdiekpmffbaaGreatDoorPT6
import Derived.Test.YtmgmdiekpmffbaaGreatDoorPT7
import Derived.Test.YtmgmdiekpmffbaaGreatDoorPT9
set_option maxHeartbeats 64000000
set_option maxRecDepth 100000
set_option linter.unusedVariables false
set_option linter.unusedSimpArgs false
namespace Go.Proofs.YtmgmdiekpmffbaaGreatDoor.QWi
open Go Go.RowKit Go.Proofs.YtmgmdiekpmffbaaGreatDoorW.PrintWords
def mayB (a0 a1 a2 a3:Int)(a4:ByteArray)(a5:Bool)(l:List S123)(a7:Bool):Bool:=(wire_mayReply.f a0 a1 a2 a3 a4 a5 l a7).getD false
theorem mayB_some {a0 a1 a2 a3:Int}{a4:ByteArray}{a5:Bool}{l:List S123}{a7:Bool}(h:mayB a0 a1 a2 a3 a4 a5 l a7=true):wire_mayReply.f a0 a1 a2 a3 a4 a5 l a7=some true:=by
 unfold mayB at h
 revert h
 cases wire_mayReply.f a0 a1 a2 a3 a4 a5 l a7 <;> simp
end Go.Proofs.YtmgmdiekpmffbaaGreatDoor.QWi
namespace Go.Proofs.YtmgmdiekpmffbaaGreatDoor.Enc
open Go Go.RowKit Go.Proofs.YtmgmdiekpmffbaaGreatDoor.DecM Go.Proofs.YtmgmdiekpmffbaaGreatDoor.Giv Go.Proofs.YtmgmdiekpmffbaaGreatDoor.Wire Go.Proofs.YtmgmdiekpmffbaaGreatDoor.QWi Go.Proofs.YtmgmdiekpmffbaaGreatDoorW.PrintWords Go.Proofs.YtmgmdiekpmffbaaGreatDoorW.PrintLast
theorem bsp {α β:Type}(a:α)(f:α→Option β):(some a).bind f=f a:=Eq.trans (Option.bind_some a f) (Eq.refl _)
def flagI (b:Bool):Int:=if b=true then 1 else 0
theorem flagI_is (b:Bool):(flagI b==1)=b:=by
 cases b <;> rfl
theorem flagI_01 (b:Bool):0≤flagI b∧flagI b≤1:=by
 cases b with
 |true=>exact⟨by decide,by decide⟩
 |false=>exact⟨by decide,by decide⟩
def encRows:List S123→ByteArray
 | []=>⟨#[]⟩
 |p :: l=>textS p.f0++(textS p.f1++encRows l)
def encP (p:S65):ByteArray:=
 numS p.f0.toNat++(numS p.f1.toNat++(numS p.f2.toNat++(numS p.f3.toNat++(textS p.f4++(numS (flagI p.f5).toNat++(numS (flagI p.f7).toNat++(numS (p.f6.length:Int).toNat++encRows p.f6)))))))
def mayP (p:S65):Bool:=mayB p.f0 p.f1 p.f2 p.f3 p.f4 p.f5 p.f6 p.f7
theorem numB_is {x:Int}(h:QWi.numB x=true):0≤x∧x≤1073741824:=by
 unfold QWi.numB at h
 simpa using h
theorem mayP_is {p:S65}(h:mayP p=true):(0≤p.f0∧p.f0≤1073741824)∧(0≤p.f1∧p.f1≤1073741824)∧(0≤p.f2∧p.f2≤1073741824)∧(0≤p.f3∧p.f3≤16)∧p.f4.size≤64∧p.f6.length≤16∧∀x∈p.f6,x.f0.size≤32∧x.f1.size≤64:=by
 obtain⟨c0,c1,c2,c3,c4,c5,c6,_,c9⟩:=mayReply_is (mayB_some h)
 refine⟨numB_is c0,numB_is c1,numB_is c2,⟨c3,c4⟩,by omega,by omega,fun x hx=>?_⟩
 have h1:=List.any_eq_false.1 c9 x hx
 unfold longP at h1
 simp at h1
 omega
theorem encRows_size (l:List S123)(h:∀x∈l,x.f0.size≤32∧x.f1.size≤64):(encRows l).size≤102*l.length:=by
 induction l with
 |nil=>exact Nat.zero_le _
 |cons p l ih=>
  have h1:=h p (List.mem_cons_self ..)
  have h2:=ih fun x hx=>h x (List.mem_cons_of_mem _ hx)
  have k1:=text_size p.f0 (by omega)
  have k2:=text_size p.f1 (by omega)
  show(textS p.f0++(textS p.f1++encRows l)).size≤_
  rw[ByteArray.size_append,ByteArray.size_append,List.length_cons,Nat.mul_succ]
  omega
theorem encP_size {p:S65}(hm:mayP p=true):1≤(encP p).size∧(encP p).size≤2000:=by
 obtain⟨p0,p1,p2,p3,p4,p5,p6⟩:=mayP_is hm
 have n0:=num_size p.f0 p0
 have n1:=num_size p.f1 p1
 have n2:=num_size p.f2 p2
 have n3:=num_size p.f3 (by omega)
 have n4:=text_size p.f4 (by omega)
 have n5:=numS_le 0 (flagI p.f5).toNat (by have:=flagI_01 p.f5;omega)
 have n6:=numS_le 0 (flagI p.f7).toNat (by have:=flagI_01 p.f7;omega)
 have n7:=numS_le 1 (p.f6.length:Int).toNat (by omega)
 have n8:=encRows_size p.f6 p6
 have n9:=numS_ge p.f0.toNat
 unfold encP
 simp only[ByteArray.size_append]
 omega
theorem rd_at (l:List S123)(i:Nat)(hi:i<l.length):rd_T123 l (i:Int)=l[i]:=by
 unfold rd_T123
 rw[Int.toNat_natCast,List.getD_eq_getElem?_getD,List.getElem?_eq_getElem hi]
 rfl
theorem encRows_snoc (l:List S123)(p:S123):encRows (l++ [p])=encRows l++(textS p.f0++textS p.f1):=by
 induction l with
 |nil=>
  show textS p.f0++(textS p.f1++(⟨#[]⟩:ByteArray))=(⟨#[]⟩:ByteArray)++_
  rw[app_empty]
  apply bytes_ext
  simp only[data_append,List.nil_append]
 |cons q l ih=>
  show textS q.f0++(textS q.f1++encRows (l++ [p]))=(textS q.f0++(textS q.f1++encRows l))++_
  rw[ih,asc,asc]
end Go.Proofs.YtmgmdiekpmffbaaGreatDoor.Enc
namespace Go.Proofs.YtmgmdiekpmffbaaGreatDoor.QWi
open Go Go.RowKit Go.Proofs.YtmgmdiekpmffbaaGreatDoor.DecM Go.Proofs.YtmgmdiekpmffbaaGreatDoor.Giv Go.Proofs.YtmgmdiekpmffbaaGreatDoor.Wire Go.Proofs.YtmgmdiekpmffbaaGreatDoor.Enc Go.Proofs.YtmgmdiekpmffbaaGreatDoorW.PrintWords Go.Proofs.YtmgmdiekpmffbaaGreatDoorW.PrintLast Go.Proofs.YtmgmdiekpmffbaaGreatDoor.Top
def wire_Reply.f (_k:Nat)(a0 a1 a2 a3:Int)(a4:ByteArray)(a5:Bool)(l:List S123)(a7:Bool):Option (ByteArray×Int):=if mayP ⟨a0,a1,a2,a3,a4,a5,l,a7⟩=true then some (encP ⟨a0,a1,a2,a3,a4,a5,l,a7⟩,0)else none
theorem fl_is (b:Bool):wire_flag.f b=some (flagI b):=by
 unfold wire_flag.f flagI
 cases b <;> rfl
theorem kd_lit {α:Type}(f:α→Value)(hf:∀x,(f x).oneCell'=true){w:World}{g:Nat}{t:TypeId}(l:List α)(h:w.heap[g]? =some (.cells (l.map f).toArray t (0,0)))(hl:l.length≤100):Kd.C (Kd.scalar f hf) w (some ⟨g,0,none⟩) l.length l:=by
 refine⟨rfl,by omega,fun _=>⟨_,rfl,fun j p hj=>⟨[f p],rfl,rfl,fun i u hu=>?_⟩⟩⟩
 have hi:i=0:=by
  have:=(List.getElem?_eq_some_iff.1 hu).1
  simpa using this
 subst hi
 rw[add_plain,blk_cell h]
 simp[Kd.scalar,hj] at hu⊢
 exact hu
theorem reply_walk (a0 a1 a2 a3:Int)(a4:ByteArray)(a5:Bool)(A:Option Addr)(c:Nat)(l:List S123)(a7:Bool)(w:World)(hr:Kd.C k123 w A l.length l)(hc:l.length≤c)(hm:wire_mayReply.f a0 a1 a2 a3 a4 a5 l a7=some true)(n1 t1 n2 s0:ByteArray)(ha:∀x∈l,x.f0.size≤32∧x.f1.size≤64)(hl:l.length≤16)(hz:(n1++t1++n2).size≤2000)(hn:wire_nums.f [a0,a1,a2,a3]=some n1∧wire_texts.f [a4]=some t1∧wire_nums.f [flagI a5,flagI a7,(l.length:Int)]=some n2)(hs0:n1++t1++n2=s0)(c1:(9223372036854775807<n1.size+t1.size)=False)(c2:(9223372036854775807<(n1++t1).size+n2.size)=False)(c3:(9223372036854775807<n1.size+t1.size+n2.size)=False):
  Calls Tryz.prog 37 #[.agg #[.int .i64 a0,.int .i64 a1,.int .i64 a2,.int .i64 a3,.string a4,.bool a5,.slice A l.length c,.bool a7]] w fun e w'=>e= .returned (.tuple #[.string (s0++encRows l),.int .i64 0])∧Below w.heap.size w w':=by
 have HR:=h_ hr
 have HC:=h_ hc
 have HM:=h_ hm
 have HN:=h_ hn
 have HS0:=h_ hs0
 have HA:=h_ (And.intro ha (And.intro hl hz))
 clear ha hl hz hr hc hm hn hs0
 have HB:Hid (Below w.heap.size w w):=Lib.hid (Below.refl _ _)
 go_enter Tryz.func37,Tryz.ntmps37
 go_wp2_with fail
 refine(wire_mayReply.good a0 a1 a2 a3 a4 a5 A c l a7 _ (Kd.C_below HR.out (one _ _)) HC.out HM.out).mono ?_
 rintro e w1 ⟨rfl,hb⟩
 obtain⟨hz,_,hb,KP⟩:=na1 hb
 obtain⟨hz,HB⟩:=m1 hb HB
 have CP:=cells8 KP.out
 go_upto_region 3 with(fail)
 refine nm fun w2 hb=>?_
 clear CP
 obtain⟨hz,KP,HB⟩:=m2 hb KP HB
 go_cut [4] from 5 (fun s4 wx=>s4= .string (n1++t1++n2)∧wx.heap[w.heap.size]? =some (.cells #[.int .i64 a0,.int .i64 a1,.int .i64 a2,.int .i64 a3,.string a4,.bool a5,.slice A l.length c,.bool a7] 65 (0,0))∧Below w.heap.size w wx)
 case first=>
  refine rg1 KP fun u1 hb hHeld=>?_
  obtain⟨hz,KP,HB⟩:=m2 hb KP HB
  refine t_ 0 ?_
  refine tq 1 (fun _ k=>blk_cell k 0) ?_
  refine t_ 2 ?_
  refine tq 3 (fun _ k=>blk_cell k 1) ?_
  refine t_ 4 ?_
  refine tq 5 (fun _ k=>blk_cell k 2) ?_
  refine t_ 6 ?_
  refine tq 7 (fun _ k=>blk_cell k 3) ?_
  refine t_ 10 ?_
  refine tq 11 (fun _ k=>blk_cell k 4) ?_
  refine t_ 15 ?_
  refine tq 16 (fun _ k=>blk_cell k 5) ?_
  refine t_ 18 ?_
  refine tq 19 (fun _ k=>blk_cell k 7) ?_
  refine t_ 21 ?_
  refine tq 22 (fun _ k=>blk_cell k 6) ?_
  refine t_ 23 ?_
  refine wpAnyH_ready (rs:= [8,12]) (by kernel_rfl) (by simp) ?_
  refine AllReadyH.cons rfl (fun K hK=>?_) ?_
  ·go_simp
   refine na fun u2 hb KA=>?_
   obtain⟨hz,KP,HB⟩:=m2 hb KP HB
   have Alt:=blk_lt KA.out
   refine bk hK KP.out fun hHeld=>?_
   refine wpAnyH_ready (rs:= [9,12]) (by kernel_rfl) (by simp) ?_
   refine AllReadyH.cons rfl (fun K hK=>?_) ?_
   ·go_simp
    go_at_call 81
    refine(wire_nums.calls _ _ [a0,a1,a2,a3] _ _ (kd_lit (Value.int .i64) (fun _=>rfl) [a0,a1,a2,a3] KA.out (by simp)) (Nat.le_refl _) HN.out.1).mono ?_
    rintro e w3 ⟨rfl,hb⟩
    obtain⟨hz,KP,KA,HB⟩:=m3 hb KP KA HB
    refine bk hK KP.out fun hHeld=>?_
    refine rd 12 fun K hK=>?_
    go_simp
    refine na fun u3 hb KT=>?_
    obtain⟨hz,KP,HB⟩:=m2 hb KP HB
    have Tlt:=blk_lt KT.out
    refine bk hK KP.out fun hHeld=>?_
    refine rd 13 fun K hK=>?_
    go_simp
    go_at_call 82
    refine(wire_texts.calls _ _ [a4] _ _ (kd_lit Value.string (fun _=>rfl) [a4] KT.out (by simp)) (Nat.le_refl _) HN.out.2.1).mono ?_
    rintro e w4 ⟨rfl,hb⟩
    obtain⟨hz,KP,KT,HB⟩:=m3 hb KP KT HB
    refine bk hK KP.out fun hHeld=>?_
    refine t_ 14 ?_
    refine rd 17 fun K hK=>?_
    go_simp
    go_at_call 83
    refine(wire_flag.calls a5 (flagI a5) _ (fl_is a5)).mono ?_
    rintro e w5 ⟨rfl,hdr⟩
    have hb:=hdr.below
    obtain⟨hz,KP,HB⟩:=m2 hb KP HB
    refine bk hK KP.out fun hHeld=>?_
    refine rd 20 fun K hK=>?_
    go_simp
    go_at_call 83
    refine(wire_flag.calls a7 (flagI a7) _ (fl_is a7)).mono ?_
    rintro e w6 ⟨rfl,hdr⟩
    have hb:=hdr.below
    obtain⟨hz,KP,HB⟩:=m2 hb KP HB
    refine bk hK KP.out fun hHeld=>?_
    refine rd 24 fun K hK=>?_
    go_simp
    refine na fun u4 hb KF=>?_
    obtain⟨hz,KP,HB⟩:=m2 hb KP HB
    have Flt:=blk_lt KF.out
    refine bk hK KP.out fun hHeld=>?_
    refine rd 25 fun K hK=>?_
    go_simp
    go_at_call 81
    refine(wire_nums.calls _ _ [flagI a5,flagI a7,(l.length:Int)] _ _ (kd_lit (Value.int .i64) (fun _=>rfl) [flagI a5,flagI a7,(l.length:Int)] KF.out (by simp)) (Nat.le_refl _) HN.out.2.2).mono ?_
    rintro e w7 ⟨rfl,hb⟩
    obtain⟨hz,KP,KF,HB⟩:=m3 hb KP KF HB
    refine bk hK KP.out fun hHeld=>?_
    refine t_ 26 ?_
    refine t_ 27 ?_
    refine d_ ?_
    go_wp2_with fail
    go_meet
    exact⟨rfl,KP.out,HB.out⟩
   refine AllReadyH.cons rfl (fun K hK=>?_) AllReadyH.nil
   go_simp
   refine na fun u5 hb KT=>?_
   obtain⟨hz,KP,KA,HB⟩:=m3 hb KP KA HB
   have Tlt:=blk_lt KT.out
   refine bk hK KP.out fun hHeld=>?_
   refine rd 9 fun K hK=>?_
   go_simp
   go_at_call 81
   refine(wire_nums.calls _ _ [a0,a1,a2,a3] _ _ (kd_lit (Value.int .i64) (fun _=>rfl) [a0,a1,a2,a3] KA.out (by simp)) (Nat.le_refl _) HN.out.1).mono ?_
   rintro e w3 ⟨rfl,hb⟩
   obtain⟨hz,KP,KA,KT,HB⟩:=m4 hb KP KA KT HB
   refine bk hK KP.out fun hHeld=>?_
   refine rd 13 fun K hK=>?_
   go_simp
   go_at_call 82
   refine(wire_texts.calls _ _ [a4] _ _ (kd_lit Value.string (fun _=>rfl) [a4] KT.out (by simp)) (Nat.le_refl _) HN.out.2.1).mono ?_
   rintro e w4 ⟨rfl,hb⟩
   obtain⟨hz,KP,KT,HB⟩:=m3 hb KP KT HB
   refine bk hK KP.out fun hHeld=>?_
   refine t_ 14 ?_
   refine rd 17 fun K hK=>?_
   go_simp
   go_at_call 83
   refine(wire_flag.calls a5 (flagI a5) _ (fl_is a5)).mono ?_
   rintro e w5 ⟨rfl,hdr⟩
   have hb:=hdr.below
   obtain⟨hz,KP,HB⟩:=m2 hb KP HB
   refine bk hK KP.out fun hHeld=>?_
   refine rd 20 fun K hK=>?_
   go_simp
   go_at_call 83
   refine(wire_flag.calls a7 (flagI a7) _ (fl_is a7)).mono ?_
   rintro e w6 ⟨rfl,hdr⟩
   have hb:=hdr.below
   obtain⟨hz,KP,HB⟩:=m2 hb KP HB
   refine bk hK KP.out fun hHeld=>?_
   refine rd 24 fun K hK=>?_
   go_simp
   refine na fun u6 hb KF=>?_
   obtain⟨hz,KP,HB⟩:=m2 hb KP HB
   have Flt:=blk_lt KF.out
   refine bk hK KP.out fun hHeld=>?_
   refine rd 25 fun K hK=>?_
   go_simp
   go_at_call 81
   refine(wire_nums.calls _ _ [flagI a5,flagI a7,(l.length:Int)] _ _ (kd_lit (Value.int .i64) (fun _=>rfl) [flagI a5,flagI a7,(l.length:Int)] KF.out (by simp)) (Nat.le_refl _) HN.out.2.2).mono ?_
   rintro e w7 ⟨rfl,hb⟩
   obtain⟨hz,KP,KF,HB⟩:=m3 hb KP KF HB
   refine bk hK KP.out fun hHeld=>?_
   refine t_ 26 ?_
   refine t_ 27 ?_
   refine d_ ?_
   go_wp2_with fail
   go_meet
   exact⟨rfl,KP.out,HB.out⟩
  refine AllReadyH.cons rfl (fun K hK=>?_) AllReadyH.nil
  go_simp
  refine na fun u7 hb KT=>?_
  obtain⟨hz,KP,HB⟩:=m2 hb KP HB
  have Tlt:=blk_lt KT.out
  refine bk hK KP.out fun hHeld=>?_
  refine rd 8 fun K hK=>?_
  go_simp
  refine na fun u8 hb KA=>?_
  obtain⟨hz,KP,KT,HB⟩:=m3 hb KP KT HB
  have Alt:=blk_lt KA.out
  refine bk hK KP.out fun hHeld=>?_
  refine rd 9 fun K hK=>?_
  go_simp
  go_at_call 81
  refine(wire_nums.calls _ _ [a0,a1,a2,a3] _ _ (kd_lit (Value.int .i64) (fun _=>rfl) [a0,a1,a2,a3] KA.out (by simp)) (Nat.le_refl _) HN.out.1).mono ?_
  rintro e w3 ⟨rfl,hb⟩
  obtain⟨hz,KP,KT,KA,HB⟩:=m4 hb KP KT KA HB
  refine bk hK KP.out fun hHeld=>?_
  refine rd 13 fun K hK=>?_
  go_simp
  go_at_call 82
  refine(wire_texts.calls _ _ [a4] _ _ (kd_lit Value.string (fun _=>rfl) [a4] KT.out (by simp)) (Nat.le_refl _) HN.out.2.1).mono ?_
  rintro e w4 ⟨rfl,hb⟩
  obtain⟨hz,KP,KT,HB⟩:=m3 hb KP KT HB
  refine bk hK KP.out fun hHeld=>?_
  refine t_ 14 ?_
  refine rd 17 fun K hK=>?_
  go_simp
  go_at_call 83
  refine(wire_flag.calls a5 (flagI a5) _ (fl_is a5)).mono ?_
  rintro e w5 ⟨rfl,hdr⟩
  have hb:=hdr.below
  obtain⟨hz,KP,HB⟩:=m2 hb KP HB
  refine bk hK KP.out fun hHeld=>?_
  refine rd 20 fun K hK=>?_
  go_simp
  go_at_call 83
  refine(wire_flag.calls a7 (flagI a7) _ (fl_is a7)).mono ?_
  rintro e w6 ⟨rfl,hdr⟩
  have hb:=hdr.below
  obtain⟨hz,KP,HB⟩:=m2 hb KP HB
  refine bk hK KP.out fun hHeld=>?_
  refine rd 24 fun K hK=>?_
  go_simp
  refine na fun u9 hb KF=>?_
  obtain⟨hz,KP,HB⟩:=m2 hb KP HB
  have Flt:=blk_lt KF.out
  refine bk hK KP.out fun hHeld=>?_
  refine rd 25 fun K hK=>?_
  go_simp
  go_at_call 81
  refine(wire_nums.calls _ _ [flagI a5,flagI a7,(l.length:Int)] _ _ (kd_lit (Value.int .i64) (fun _=>rfl) [flagI a5,flagI a7,(l.length:Int)] KF.out (by simp)) (Nat.le_refl _) HN.out.2.2).mono ?_
  rintro e w7 ⟨rfl,hb⟩
  obtain⟨hz,KP,KF,HB⟩:=m3 hb KP KF HB
  refine bk hK KP.out fun hHeld=>?_
  refine t_ 26 ?_
  refine t_ 27 ?_
  refine d_ ?_
  go_wp2_with fail
  go_meet
  exact⟨rfl,KP.out,HB.out⟩
 case rest=>
  rename World=>wc1
  clear KP HB
  obtain⟨rfl,kP,hB⟩:=hcut
  obtain⟨KP,P2lt,P2ne,P2en⟩:=hid_mv kP
  clear kP
  have HB:=Lib.hid hB
  have hs2_:=HB.out.size
  clear hB
  have CP:=cells8 KP.out
  go_wp2
  go_loopg [40,4] l.length (fun kq v40 v4 w'=>∃i:Nat,v40= .int .i64 i∧v4= .string (n1++t1++n2++encRows (l.take i))∧Aside0 (kq+i=l.length)∧Aside0 (Below w.heap.size w w'))
  case atStart=>exact⟨0,rfl,by rw[List.take_zero];exact congrArg Value.string (app_empty _).symm,⟨by omega⟩,⟨HB.out⟩⟩
  case round=>
   obtain⟨i,rfl,rfl,HK,HW⟩:=hrel
   clear CP KP HB
   by_cases hi:i<l.length
   ·have c0b:decide ((i:Int)<(l.length:Int))=true:=decide_eq_true (by omega)
    obtain⟨ad,e1,hx0,hx1⟩:=at_T123 (Kd.C_below HR.out HW.out) (i:Int) (by omega) (by omega)
    cases e1
    rw[rd_pair l i hi] at hx0 hx1
    rw[Int.toNat_natCast] at hx0 hx1
    have hp:((0:Int)≤(i:Int))=True:=eq_true (by omega)
    have hq:((i:Int)<(l.length:Int))=True:=eq_true (by omega)
    have hi40:(i:Int)≤1048576:=by have:=HA.out.2.1;omega
    have HE:=h_ (show encRows (l.take (i+1))=encRows (l.take i)++(textS l[i].f0++textS l[i].f1)by rw[List.take_succ_eq_append_getElem hi,encRows_snoc])
    obtain⟨k1,k2⟩:=HA.out.1 l[i] (List.getElem_mem hi)
    obtain⟨s,hs⟩:∃s,s=n1++t1++n2++encRows (l.take i):=⟨_,rfl⟩
    have hz:=encRows_size (l.take i) (fun x hx=>HA.out.1 x (List.mem_of_mem_take hx))
    have hl:=List.length_take_le i l
    have z1:s.size≤4000:=by rw[hs,ByteArray.size_append];have:=HA.out.2.1;have:=HA.out.2.2;omega
    rw[←hs]
    have HS:=h_ hs
    generalize l[i]=x at hx0 hx1 k1 k2 HE
    have ht:=texts_some [x.f0,x.f1] (by simp) (by simp;omega)
    have z2:(textsW [x.f0,x.f1]).size≤1000:=by rw[texts_cons,texts_one,ByteArray.size_append];have:=text_size x.f0 (by omega);have:=text_size x.f1 (by omega);omega
    have e2:textsW [x.f0,x.f1]=textS x.f0++textS x.f1:=by rw[texts_cons,texts_one]
    have HE2:=h_ e2
    generalize textsW [x.f0,x.f1]=t2 at ht z2 HE2
    have c5:(9223372036854775807<s.size+t2.size)=False:=eq_false (by omega)
    have HT:=h_ ht
    clear ht e2 hs hz hl k1 k2 z1 z2
    go_upto_region 7 with(fail)
    refine nm fun w9 hb=>?_
    obtain⟨hz,_,hb,KX⟩:=na1 hb
    have HB9:=h_ (below_call HW.out hb)
    have CX:=cells2 KX.out
    clear hx0 hx1
    go_wp2_with fail
    refine(wire_texts.calls _ _ [x.f0,x.f1] t2 _ (kd_lit Value.string (fun _=>rfl) [x.f0,x.f1] (blk_new _ _) (by simp)) (Nat.le_refl _) HT.out).mono ?_
    rintro e w10 ⟨rfl,hb2⟩
    have HB10:=h_ (below_call (below_alloc HB9.out _) hb2)
    clear CX hb2
    go_wp2
    go_roundg (gk - 1)
    case measure=>have:=HK.out;omega
    case rel=>exact⟨i+1,by go_num,by rw[HE.out,HS.out,HE2.out,asc],⟨by have:=HK.out;omega⟩,⟨HB10.out⟩⟩
   ·have c0b:decide ((i:Int)<(l.length:Int))=false:=decide_eq_false (by omega)
    have e:i=l.length:=by have:=HK.out;omega
    subst e
    rw[List.take_length]
    go_wp2
    go_ret2
    have e0:=HS0.out
    subst e0
    exact⟨rfl,HW.out⟩
theorem wire_Reply.calls (k:Nat)(a0 a1 a2 a3:Int)(a4:ByteArray)(a5:Bool)(A:Option Addr)(c:Nat)(l:List S123)(a7:Bool)(r1:ByteArray)(r2:Int)(w:World)(hr:Kd.C k123 w A l.length l)(hc:l.length≤c)(h:wire_Reply.f k a0 a1 a2 a3 a4 a5 l a7=some (r1,r2)):
  Calls Tryz.prog 37 #[.agg #[.int .i64 a0,.int .i64 a1,.int .i64 a2,.int .i64 a3,.string a4,.bool a5,.slice A l.length c,.bool a7]] w fun e w'=>e= .returned (.tuple #[.string r1,.int .i64 r2])∧Below w.heap.size w w':=by
 unfold wire_Reply.f at h
 by_cases hm:mayP ⟨a0,a1,a2,a3,a4,a5,l,a7⟩=true
 ·rw [if_pos hm] at h
  cases h
  obtain⟨p0,p1,p2,p3,p4,p5,p6⟩:=mayP_is hm
  dsimp only at p0 p1 p2 p3 p4 p5 p6
  have b5:=flagI_01 a5
  have b7:=flagI_01 a7
  have n0:=num_size a0 p0
  have n1:=num_size a1 p1
  have n2:=num_size a2 p2
  have n3:=num_size a3 (by omega)
  have n4:=text_size a4 (by omega)
  have n5:=num_size (flagI a5) (by omega)
  have n6:=num_size (flagI a7) (by omega)
  have n7:=num_size (l.length:Int) (by omega)
  have e1:numsS [a0,a1,a2,a3]=numS a0.toNat++(numS a1.toNat++(numS a2.toNat++numS a3.toNat)):=by rw[nums_cons,nums_cons,nums_cons,nums_one]
  have e2:textsW [a4]=textS a4:=texts_one _
  have e3:numsS [flagI a5,flagI a7,(l.length:Int)]=numS (flagI a5).toNat++(numS (flagI a7).toNat++numS (l.length:Int).toNat):=by rw[nums_cons,nums_cons,nums_one]
  have h1:=nums_some [a0,a1,a2,a3] (by simp) (by simp;omega)
  have h2:=texts_some [a4] (by simp) (by simp;omega)
  have h3:=nums_some [flagI a5,flagI a7,(l.length:Int)] (by simp) (by simp;omega)
  refine(reply_walk a0 a1 a2 a3 a4 a5 A c l a7 w hr hc (mayB_some hm) _ _ _ _ p6 p5 ?_ ⟨h1,h2,h3⟩ rfl (eq_false ?_) (eq_false ?_) (eq_false ?_)).mono ?_
  ·rw [e1,e2,e3]
   simp only[ByteArray.size_append]
   omega
  ·rw [e1,e2]
   simp only[ByteArray.size_append]
   omega
  ·rw [e1,e2,e3]
   simp only[ByteArray.size_append]
   omega
  ·rw [e1,e2,e3]
   simp only[ByteArray.size_append]
   omega
  ·intro e w' h
   rw[e1,e2,e3] at h
   unfold encP
   simp only[asc] at h⊢
   exact h
 ·rw [if_neg hm] at h
  cases h
end Go.Proofs.YtmgmdiekpmffbaaGreatDoor.QWi
namespace Go.Proofs.YtmgmdiekpmffbaaGreatDoor.Reader
open Go Go.RowKit Go.Proofs.YtmgmdiekpmffbaaGreatDoor.DecM Go.Proofs.YtmgmdiekpmffbaaGreatDoor.Giv Go.Proofs.YtmgmdiekpmffbaaGreatDoorW.PrintWords Go.Proofs.YtmgmdiekpmffbaaGreatDoorW.PrintLast Go.Proofs.YtmgmdiekpmffbaaGreatDoor.QWi Go.Proofs.YtmgmdiekpmffbaaGreatDoor.Top
def tkR (s:ByteArray)(is:Bool):Int×ByteArray×Bool:=if is=true∧(takeNum s).2.2=0∧(takeNum s).1≤1073741824 then((takeNum s).1,(takeNum s).2.1,true)else (0,⟨#[]⟩,false)
def rdR (s:ByteArray)(is:Bool)(most:Int):ByteArray×ByteArray×Bool:=if is=true∧(takeText s most).2.2=0 then((takeText s most).1,(takeText s most).2.1,true)else (⟨#[]⟩,⟨#[]⟩,false)
theorem tkR_size (s:ByteArray)(is:Bool):(tkR s is).2.1.size≤s.size:=by
 unfold tkR
 split
 ·exact(take_first s).2.2
 ·exact Nat.zero_le _
theorem rdR_size (s:ByteArray)(is:Bool)(most:Int):(rdR s is most).2.1.size≤s.size:=by
 unfold rdR
 split
 ·exact(DecPure.takeText_size s most).2
 ·exact Nat.zero_le _
structure Gives (v:Value)(w:World)(e:Ending)(w':World):Prop where
 e:e= .returned v
 b:Below w.heap.size w w'
theorem takes_c (n:Int)(t r:ByteArray)(b:Bool)(v:Int)(s:ByteArray)(e:Int)(w:World)(hv:0≤v)(hc:∀W,Calls Tryz.prog 85 #[.string r] W fun en w'=>en= .returned (.tuple #[.int .u64 v,.string s,.int .i64 e])∧Below W.heap.size W w'):
  Calls Tryz.prog 42 #[.agg #[.int .i64 n,.string t,.string r,.bool b]] w fun en w'=>Gives (if b=true∧e=0∧v≤1073741824 then .agg #[.int .i64 v,.string ⟨#[]⟩,.string s,.bool true] else .agg #[.int .i64 0,.string ⟨#[]⟩,.string ⟨#[]⟩,.bool false]) w en w':=by
 have HC:=h_ hc
 clear hc
 have HB:Hid (Below w.heap.size w w):=h_ (Below.refl _ _)
 by_cases hg:b=true∧e=0∧v≤1073741824
 ·rw [if_pos hg]
  obtain⟨rfl,rfl,hv2⟩:=hg
  go_enter Tryz.func42,Tryz.ntmps42
  go_wp2_with fail
  refine(HC.out _).mono ?_
  rintro en w1 ⟨rfl,hb⟩
  obtain⟨hz,_,hb,KP,KQ⟩:=na2 hb
  obtain⟨hz,HB⟩:=m1 hb HB
  have CP:=cells4 KP.out
  have CQ:=cells4 KQ.out
  go_wp2_with fail
  all_goals first|(exfalso;omega)|(refine bodyPost_ret (res_cell (cs:=#[.int .i64 v,.string ⟨#[]⟩,.string s,.bool true]) Tryz.results42 rfl (blk_put KQ.out 0 [.int .i64 v,.string ⟨#[]⟩,.string s,.bool true] (Nat.le_of_ble_eq_true rfl)) Tryz.underlying119 rfl (by kernel_rfl)) rfl ⟨rfl,below_puts HB.out (w.heap.size+1) (by omega) 0 [.int .i64 v,.string ⟨#[]⟩,.string s,.bool true]⟩)
 ·rw [if_neg hg]
  go_enter Tryz.func42,Tryz.ntmps42
  go_wp2_with fail
  refine(HC.out _).mono ?_
  rintro en w1 ⟨rfl,hb⟩
  obtain⟨hz,_,hb,KP,KQ⟩:=na2 hb
  obtain⟨hz,HB⟩:=m1 hb HB
  have CP:=cells4 KP.out
  have CQ:=cells4 KQ.out
  go_wp2_with fail
  all_goals first|(exfalso;exact hg ⟨by first|rfl|assumption,by first|rfl|assumption,by omega⟩)|(refine bodyPost_ret (res_cell (cs:=#[.int .i64 0,.string ⟨#[]⟩,.string ⟨#[]⟩,.bool false]) Tryz.results42 rfl (blk_put KQ.out 0 [.int .i64 0,.string ⟨#[]⟩,.string ⟨#[]⟩,.bool false] (Nat.le_of_ble_eq_true rfl)) Tryz.underlying119 rfl (by kernel_rfl)) rfl ⟨rfl,below_puts HB.out (w.heap.size+1) (by omega) 0 [.int .i64 0,.string ⟨#[]⟩,.string ⟨#[]⟩,.bool false]⟩)
theorem takes_is (n:Int)(t r:ByteArray)(b:Bool)(hs:r.size≤9223372036854775807)(w:World):
  Calls Tryz.prog 42 #[.agg #[.int .i64 n,.string t,.string r,.bool b]] w fun e w'=>Gives (.agg #[.int .i64 (tkR r b).1,.string ⟨#[]⟩,.string (tkR r b).2.1,.bool (tkR r b).2.2]) w e w':=by
 refine(takes_c n t r b _ _ _ w (takeNum_nonneg r) (fun W=>refTake_calls r W hs)).mono fun e w' h=>?_
 unfold tkR
 split at h
 ·rw [if_pos (by assumption)]
  exact h
 ·rw [if_neg (by assumption)]
  exact h
theorem reads_c (n:Int)(t r:ByteArray)(b:Bool)(v s:ByteArray)(e most:Int)(w:World)(hc:∀W,Calls Tryz.prog 41 #[.string r,.int .i64 most] W fun en w'=>en= .returned (.tuple #[.string v,.string s,.int .i64 e])∧Below W.heap.size W w'):
  Calls Tryz.prog 43 #[.agg #[.int .i64 n,.string t,.string r,.bool b],.int .i64 most] w fun en w'=>Gives (if b=true∧e=0 then .agg #[.int .i64 0,.string v,.string s,.bool true] else .agg #[.int .i64 0,.string ⟨#[]⟩,.string ⟨#[]⟩,.bool false]) w en w':=by
 have HC:=h_ hc
 clear hc
 have HB:Hid (Below w.heap.size w w):=h_ (Below.refl _ _)
 by_cases hg:b=true∧e=0
 ·rw [if_pos hg]
  obtain⟨rfl,rfl⟩:=hg
  go_enter Tryz.func43,Tryz.ntmps43
  go_wp2_with fail
  refine(HC.out _).mono ?_
  rintro en w1 ⟨rfl,hb⟩
  obtain⟨hz,_,hb,KP,KQ⟩:=na2 hb
  obtain⟨hz,HB⟩:=m1 hb HB
  have CP:=cells4 KP.out
  have CQ:=cells4 KQ.out
  go_wp2_with fail
  all_goals first|(exfalso;omega)|(refine bodyPost_ret (res_cell (cs:=#[.int .i64 0,.string v,.string s,.bool true]) Tryz.results43 rfl (blk_put KQ.out 0 [.int .i64 0,.string v,.string s,.bool true] (Nat.le_of_ble_eq_true rfl)) Tryz.underlying119 rfl (by kernel_rfl)) rfl ⟨rfl,below_puts HB.out (w.heap.size+1) (by omega) 0 [.int .i64 0,.string v,.string s,.bool true]⟩)
 ·rw [if_neg hg]
  go_enter Tryz.func43,Tryz.ntmps43
  go_wp2_with fail
  refine(HC.out _).mono ?_
  rintro en w1 ⟨rfl,hb⟩
  obtain⟨hz,_,hb,KP,KQ⟩:=na2 hb
  obtain⟨hz,HB⟩:=m1 hb HB
  have CP:=cells4 KP.out
  have CQ:=cells4 KQ.out
  go_wp2_with fail
  all_goals first|(exfalso;simp_all;done)|(refine bodyPost_ret (res_cell (cs:=#[.int .i64 0,.string ⟨#[]⟩,.string ⟨#[]⟩,.bool false]) Tryz.results43 rfl (blk_put KQ.out 0 [.int .i64 0,.string ⟨#[]⟩,.string ⟨#[]⟩,.bool false] (Nat.le_of_ble_eq_true rfl)) Tryz.underlying119 rfl (by kernel_rfl)) rfl ⟨rfl,below_puts HB.out (w.heap.size+1) (by omega) 0 [.int .i64 0,.string ⟨#[]⟩,.string ⟨#[]⟩,.bool false]⟩)
theorem reads_is (n:Int)(t r:ByteArray)(b:Bool)(most:Int)(hs:r.size≤9223372036854775807)(hm:most≤9223372036854775807)(w:World):
  Calls Tryz.prog 43 #[.agg #[.int .i64 n,.string t,.string r,.bool b],.int .i64 most] w fun e w'=>Gives (.agg #[.int .i64 0,.string (rdR r b most).1,.string (rdR r b most).2.1,.bool (rdR r b most).2.2]) w e w':=by
 refine(reads_c n t r b _ _ _ most w (fun W=>Fr.refTakeText_calls r most W hs hm)).mono fun e w' h=>?_
 unfold rdR
 split at h
 ·rw [if_pos (by assumption)]
  exact h
 ·rw [if_neg (by assumption)]
  exact h
structure Bk (w0:World)(ks:List (Nat×List Value))(w:World)(v:Value)(l:List S123):Prop where
 bel:Below w0.heap.size w0 w
 kc:∀x∈ks,CellsAt w x.1 x.2∧0<x.2.length∧w0.heap.size≤x.1
 nd:(ks.map Prod.fst).Nodup
 row:Kd.R k123 123 w w0.heap.size (fun k=>k∉ks.map Prod.fst) v l
theorem Bk.start (w:World)(z:Array Value)(t:TypeId)(hz:0<z.toList.length):Bk w [(w.heap.size,z.toList)] (w.alloc (.cells z t)) (.slice none 0 0) []:=
 ⟨(Below.refl w.heap.size w).alloc (Nat.le_refl _) _,fun x hx=>by rw[List.mem_singleton.1 hx];exact⟨cells_new w z t,hz,Nat.le_refl _⟩,by simp,Kd.R_nil _ _ _ _ _⟩
section
variable {w0 w w':World} {ks:List (Nat×List Value)} {v:Value} {l:List S123}
theorem Bk.at' (h:Bk w0 ks w v l)(i:Nat){b:Nat}{c:List Value}(hi:ks[i]? =some (b,c)):CellsAt w b c:=(h.kc (b,c) (List.mem_of_getElem? hi)).1
theorem Bk.lt (h:Bk w0 ks w v l){k:Nat}(hk:k∈ks.map Prod.fst):k<w.heap.size:=by
 obtain⟨x,hx,rfl⟩:=List.mem_map.1 hk
 obtain⟨h1,h2,_⟩:=h.kc x hx
 exact cell_lt (h1.c 0 h2)
theorem Bk.call (h:Bk w0 ks w v l)(hb:Below w.heap.size w w'):Bk w0 ks w' v l:=
 ⟨h.bel.trans (hb.mono h.bel.size),fun x hx=>⟨(h.kc x hx).1.below (h.kc x hx).2.1 hb,(h.kc x hx).2⟩,h.nd,Kd.R_below h.row hb⟩
theorem Bk.push (h:Bk w0 ks w v l)(c:Array Value)(t:TypeId)(hc:0<c.toList.length):Bk w0 ((w.heap.size,c.toList) :: ks) (w.alloc (.cells c t)) v l:=by
 have hb:=(Below.refl w.heap.size w).alloc (Nat.le_refl _) (.cells c t)
 refine⟨h.bel.trans (hb.mono h.bel.size),fun x hx=>?_,?_,?_⟩
 ·rcases List.mem_cons.1 hx with e|e
  ·subst e
   exact⟨cells_new w c t,hc,h.bel.size⟩
  ·exact⟨(h.kc x e).1.below (h.kc x e).2.1 hb,(h.kc x e).2⟩
 ·rw [List.map_cons,List.nodup_cons]
  exact⟨fun hm=>Nat.lt_irrefl _ (h.lt hm),h.nd⟩
 ·refine Kd.R_below (Kd.R_mono (Kd.R_bound h.row) fun k hk=>?_) hb
  rw[List.map_cons,List.mem_cons]
  rintro(e|e)
  ·have:=hk.2.2.1
   omega
  ·exact hk.1 e
theorem Bk.store {pre post:List (Nat×List Value)}{b:Nat}{c:List Value}(h:Bk w0 (pre++(b,c) :: post) w v l)(j:Nat)(hj:j<c.length)(u:Value):Bk w0 (pre++(b,c.set j u) :: post) (w.setCell ⟨b,j,none⟩ u) v l:=by
 have ho:Only b w (w.setCell ⟨b,j,none⟩ u):=(Only.refl b w).set j u
 have hm:(b,c)∈pre++(b,c) :: post:=List.mem_append_right _ (List.mem_cons_self ..)
 have e:(pre++(b,c.set j u) :: post).map Prod.fst=(pre++(b,c) :: post).map Prod.fst:=by simp
 have hn:∀x∈pre++post,x.1≠b:=by
  have hd:=h.nd
  rw[List.map_append,List.map_cons,List.nodup_append] at hd
  intro x hx ex
  rcases List.mem_append.1 hx with hx|hx
  ·exact hd.2.2 x.1 (List.mem_map_of_mem hx) b (List.mem_cons_self ..) ex
  ·have hp:b∉post.map Prod.fst:=(List.nodup_cons.1 hd.2.1).1
   exact hp (ex▸List.mem_map_of_mem (f:=Prod.fst) hx)
 refine⟨h.bel.setCell (h.kc _ hm).2.2 u,fun x hx=>?_,e▸h.nd,?_⟩
 ·rcases List.mem_append.1 hx with hx|hx
  ·have hk:=h.kc x (List.mem_append_left _ hx)
   exact⟨hk.1.only hk.2.1 ho (hn x (List.mem_append_left _ hx)),hk.2⟩
  ·rcases List.mem_cons.1 hx with hx|hx
   ·subst hx
    have hk:=h.kc _ hm
    exact⟨hk.1.set j hj u,by rw[List.length_set];exact hk.2.1,hk.2.2⟩
   ·have hk:=h.kc x (List.mem_append_right _ (List.mem_cons_of_mem _ hx))
    exact⟨hk.1.only hk.2.1 ho (hn x (List.mem_append_right _ hx)),hk.2⟩
 ·rw [e]
  exact Kd.R_step h.row (fun k hk hlt=>ho.block k hlt (fun e=>hk (by rw[e];exact List.mem_map_of_mem (f:=Prod.fst) hm)))
theorem Bk.drop {x:Nat×List Value}(h:Bk w0 (x :: ks) w v l):Bk w0 ks w v l:=
 ⟨h.bel,fun y hy=>h.kc y (List.mem_cons_of_mem _ hy),by have:=h.nd;rw[List.map_cons,List.nodup_cons] at this;exact this.2,Kd.R_mono h.row (fun k hk hm=>hk (by rw[List.map_cons];exact List.mem_cons_of_mem _ hm))⟩
theorem Bk.grown {v1:Value}{l1:List S123}(h:Bk w0 ks w v l)(hR:Kd.R k123 123 w' w0.heap.size (fun k=>k∉ks.map Prod.fst) v1 l1)(hB:Below w0.heap.size w0 w')(hg:w.grownBy w' v.ownBlock):Bk w0 ks w' v1 l1:=by
 refine⟨hB,fun x hx=>?_,h.nd,hR⟩
 have hk:=h.kc x hx
 have hlt:=cell_lt (hk.1.c 0 hk.2.1)
 have hne:some x.1≠v.ownBlock:=fun e=>h.row.1 x.1 e.symm (List.mem_map_of_mem hx)
 exact⟨⟨fun j hj=>(World.cell?_of_block (w:=w) (a:=⟨x.1,j,none⟩) (hg.block x.1 hlt hne)).trans (hk.1.c j hj),fun o=>(World.frozen?_of_block (w:=w) (a:=⟨x.1,o,none⟩) (hg.block x.1 hlt hne)).trans (hk.1.f o)⟩,hk.2⟩
end
end Go.Proofs.YtmgmdiekpmffbaaGreatDoor.Reader
namespace Go.Proofs.YtmgmdiekpmffbaaGreatDoor.QWi
open Go Go.RowKit Go.Proofs.YtmgmdiekpmffbaaGreatDoor.Reader
def nr {α:Type}(x:ByteArray×Bool)(f:Int→ByteArray×Bool→α):α:=f (tkR x.1 x.2).1 (tkR x.1 x.2).2
def tr {α:Type}(x:ByteArray×Bool)(m:Int)(f:ByteArray→ByteArray×Bool→α):α:=f (rdR x.1 x.2 m).1 (rdR x.1 x.2 m).2
theorem nr_of {α:Type}{x:ByteArray×Bool}{v:Int×ByteArray×Bool}(f:Int→ByteArray×Bool→α)(h:tkR x.1 x.2=v):nr x f=f v.1 v.2:=by
 subst h
 rfl
theorem tr_of {α:Type}{x:ByteArray×Bool}{m:Int}{v:ByteArray×ByteArray×Bool}(f:ByteArray→ByteArray×Bool→α)(h:rdR x.1 x.2 m=v):tr x m f=f v.1 v.2:=by
 subst h
 rfl
end Go.Proofs.YtmgmdiekpmffbaaGreatDoor.QWi
namespace Go.Proofs.YtmgmdiekpmffbaaGreatDoor.QWi
open Go.RowKit Go.Proofs.YtmgmdiekpmffbaaGreatDoorW.PrintWords Go.Proofs.YtmgmdiekpmffbaaGreatDoorW.PrintLast Go.Proofs.YtmgmdiekpmffbaaGreatDoorW.PrintMore
attribute [local go_sem] max2_int min2_int max_two min_two max_three min_three max_four min_four
set_option linter.unusedVariables false
set_option linter.unusedSimpArgs false
open Go
theorem small_calls (x:Int)(w:World):Calls Tryz.prog 24 #[.int .i64 x] w fun e w'=>e= .returned (.bool (decide (0≤x∧x≤1073741824)))∧w'=w:=by
 by_cases h0:0≤x <;> by_cases h1:x≤1073741824 <;> simp only[h0,h1,and_self,and_true,and_false,decide_true,decide_false]
 all_goals
  go_enter Tryz.func24,Tryz.ntmps24
  go_wp2
  go_ret
  exact⟨rfl,rfl⟩
theorem ref_mayReq (a0 a1 a2 a3:Int)(t:ByteArray)(o:Int)(y v l h:ByteArray)(m:Int)(w:World):Calls Tryz.prog 10 #[.agg #[.int .i64 a0,.int .i64 a1,.int .i64 a2,.int .i64 a3,.string t,.int .i64 o,.string y,.string v,.string l,.string h,.int .i64 m]] w fun e w'=>e= .returned (.bool (decide (mayQ a0 a1 a2 a3 t o y v l h m)))∧Below w.heap.size w w':=by
 go_enter Tryz.func10,Tryz.ntmps10
 go_wp2_with (go_at_call 24;refine(small_calls _ _).mono ?_;rintro e w1 ⟨rfl,rfl⟩)
 all_goals
  go_ret
  refine⟨?_,by first|exact q_one _ _|exact q_two _ _ _⟩
  show Ending.returned (Value.bool _)=_
  congr 2
  rw[Bool.eq_iff_iff,decide_eq_true_eq (p:=mayQ _ _ _ _ _ _ _ _ _ _ _)]
  unfold mayQ
  try simp only[q_nil,bne_iff_ne,bne_eq_false_iff_eq,beq_eq_false_iff_ne,beq_iff_eq,ne_eq] at *
  try simp only[decide_eq_true_eq,Bool.or_eq_true,Bool.and_eq_true,Bool.not_eq_true',decide_eq_false_iff_not,Bool.false_eq_true,Bool.true_eq_false,beq_iff_eq,List.isEmpty_iff,q_nil,false_iff,true_iff]
  omega
def stanchionref16_MayReq.f (_:Nat)(a0_0:Int)(a0_1:Int)(a0_2:Int)(a0_3:Int)(a0_4:ByteArray)(a0_5:Int)(a0_6:ByteArray)(a0_7:ByteArray)(a0_8:ByteArray)(a0_9:ByteArray)(a0_10:Int):Option Bool:=some (decide (mayQ a0_0 a0_1 a0_2 a0_3 a0_4 a0_5 a0_6 a0_7 a0_8 a0_9 a0_10))
theorem stanchionref16_MayReq.calls (k:Nat)(a0_0:Int)(a0_1:Int)(a0_2:Int)(a0_3:Int)(a0_4:ByteArray)(a0_5:Int)(a0_6:ByteArray)(a0_7:ByteArray)(a0_8:ByteArray)(a0_9:ByteArray)(a0_10:Int)(r:Bool)(w:World)(h:stanchionref16_MayReq.f k a0_0 a0_1 a0_2 a0_3 a0_4 a0_5 a0_6 a0_7 a0_8 a0_9 a0_10=some r):
  Calls Tryz.prog 10 #[.agg #[.int .i64 a0_0,.int .i64 a0_1,.int .i64 a0_2,.int .i64 a0_3,.string a0_4,.int .i64 a0_5,.string a0_6,.string a0_7,.string a0_8,.string a0_9,.int .i64 a0_10]] w fun e w'=>e= .returned (.bool r)∧Below w.heap.size w w':=by
 obtain rfl:=Option.some.inj h
 exact ref_mayReq a0_0 a0_1 a0_2 a0_3 a0_4 a0_5 a0_6 a0_7 a0_8 a0_9 a0_10 w
end Go.Proofs.YtmgmdiekpmffbaaGreatDoor.QWi
namespace Go.Proofs.YtmgmdiekpmffbaaGreatDoor.QWi
open Go Go.RowKit Go.Proofs.YtmgmdiekpmffbaaGreatDoorW.PrintWords Go.Proofs.YtmgmdiekpmffbaaGreatDoorW.PrintLast Go.Proofs.YtmgmdiekpmffbaaGreatDoorW.PrintMore
section
variable {P:Program} {ops:Array Oper} {md:Region.Mode} {Q:Exit→Act→World→Prop} {S:World→Prop} {ds:List Nat} {T:Bool×List (List Nat×List Nat)} {B:List Nat}
theorem q_pure (i N:Nat){oi:Oper}{v:Value}{fuel:Nat}{l:Array Bool}{a a':Act}{w:World}(hT:Aside0 (rtab md ops=T))(hi:ops[i]? =some oi)(hN:oi.dst=some N)(hc:anyT T l.toList (l.setIfInBounds i true).toList i=true)
  (hQ:∀c a w,Q (.panic c) (a.put oi.dst v) w→Q (.panic c) a w) (hy:Yields P ops oi v a) (ha:a.put (some N) v=a')
  (h:wpAnyLast P md ops Q S ds fuel (l.setIfInBounds i true) a' w):wpAnyLast P md ops Q S ds (fuel+1) l a w:=
 pure_ _ hi hN (any_of hT.out hc) hQ hy ha h
theorem q_take (i N:Nat){oi:Oper}{v:Value}{fuel:Nat}{l:Array Bool}{a a':Act}{w:World}(hT:Aside0 (rtab md ops=T))(hB:Aside0 (waitsOk T.2 B=true))(hi:ops[i]? =some oi)(hN:oi.dst=some N)(hc:takeW T B ds l.toList (l.setIfInBounds i true).toList i=true)
  (hQ:∀c a w,Q (.panic c) (a.put oi.dst v) w→Q (.panic c) a w) (hy:YieldsIf P ops S oi v a) (hS:S w) (ha:a.put (some N) v=a')
  (h:wpAnyLast P md ops Q S ds fuel (l.setIfInBounds i true) a' w):wpAnyLast P md ops Q S ds (fuel+1) l a w:=
 take_ _ hi hN (take_ofW hT.out hB.out hc) hQ hy hS ha h
theorem q_one' (i N:Nat){oi:Oper}{fuel:Nat}{l:Array Bool}{a:Act}{w:World}(hT:Aside0 (rtab md ops=T))(hi:ops[i]? =some oi)(hN:oi.dst=some N)(hc:(readyT T.2 l.toList== [i]&&l.toList.set i true==(l.setIfInBounds i true).toList)=true)(hd:i∉ds)
  (h:∀K:Act→World→Prop,Shut (∀a' w',S w'→(S w'→wpAnyLast P md ops Q S ds fuel (l.setIfInBounds i true) a' w')→K a' w')→if Region.wanted oi (yielded ops a.tmps)=true then Oper.wp P oi a w K Q else K (a.put (some N) undef) w):
  wpAnyLast P md ops Q S ds (fuel+1) l a w:=one_ _ hi hN (one_of hT.out hc) hd h
theorem q_call (N:Nat){oi:Oper}{a:Act}{w:World}{fuel:Nat}{l':Array Bool}(f:FuncId)(args:Array Value)(s:ByteArray)(b:Nat){fn:Func}{as':Array Operand}{ts:Array TypeId}(w0:World)(o:Obj)(hS:S=fun w'=>w'.heap[b]? =some o)(hk:w.heap[b]? =some o)(hf:P.funcs[f]? =some fn)(hname:(fn.name== "runtime.NumGoroutine")=false)(hb:fn.body.isSome=true)
  (hw:Region.wanted oi (yielded ops a.tmps)=true) (hN:oi.dst=some N) (hop:oi.op= .call { callee:= .value (.func f),args:=as',argTypes:=ts }) (hargs:as'.map a.eval=args)
  (h:Calls P f args w fun e w'=>e= .returned (.string s)∧Below w.heap.size w w') (hB:Aside0 (Below w0.heap.size w0 w))
  (hR:∀w',Aside0 (w'.heap[b]? =some o)→Aside0 (Below w0.heap.size w0 w')→wpAnyLast P md ops Q S ds fuel l' (a.put (some N) (.string s)) w')
  (K:Act→World→Prop) (hK:Shut (∀a' w',S w'→(S w'→wpAnyLast P md ops Q S ds fuel l' a' w')→K a' w')):if Region.wanted oi (yielded ops a.tmps)=true then Oper.wp P oi a w K Q else K (a.put (some N) undef) w:=by
 refine goes_ hf hname hb args hw hN hop hargs (h.mono ?_)
 rintro e w' ⟨rfl,hb2⟩
 have k2:=blk_below hk hb2
 exact⟨_,rfl,hK.out _ _ (by rw[hS];exact k2) fun _=>hR w' ⟨k2⟩ ⟨below_step hB.out hb2⟩⟩
end
def rT4:Bool×List (List Nat×List Nat):=(true,[([],[]),([0],[0]),([1],[1]),([],[]),([3],[3]),([4,2],[4]),([2,5],[2,5]),([],[]),([7],[7]),([8,5],[8]),([6,9],[6,9]),([],[]),([11],[11]),([12,9],[12]),([10,13],[10,13]),([],[]),([15],[15]),([16,13],[16]),([14,17],[14,17]),([18,17,0,1,2,3,4,5,6,7,8,9,10,11,12,13,14,15,16,17,18],[18])])
def rB4:List Nat:= [0,1,3,0,8,31,63,0,128,447,1023,0,2048,7103,16383,0,32768,113599,262143,524287]
theorem rt4:rtab .any (opsOf Tryz.f20 4)=rT4:=by kernel_rfl
theorem rb4:waitsOk rT4.2 rB4=true:=by kernel_rfl
def rT6:Bool×List (List Nat×List Nat):=(true,[([],[]),([],[]),([1],[1]),([2],[2]),([3],[3]),([0,4],[0,4]),([],[]),([6],[6]),([7],[7]),([8,4],[8]),([5,9],[5,9]),([],[]),([11],[11]),([12],[12]),([13,9],[13]),([10,14],[10,14]),([],[]),([16],[16]),([17],[17]),([18,14],[18]),([15,19],[15,19]),([],[]),([21],[21]),([22],[22]),([23,19],[23]),([20,24],[20,24]),([],[]),([26],[26]),([27],[27]),([28,24],[28]),([25,29],[25,29]),([30,29,0,1,2,3,4,5,6,7,8,9,10,11,12,13,14,15,16,17,18,19,20,21,22,23,24,25,26,27,28,29,30],[0,30])])
def rB6:List Nat:= [0,0,2,6,14,31,0,64,192,478,1023,0,2048,6144,15326,32767,0,65536,196608,490462,1048575,0,2097152,6291456,15694814,33554431,0,67108864,201326592,502234078,1073741823,2147483647]
theorem rt6:rtab .any (opsOf Tryz.f20 6)=rT6:=by kernel_rfl
theorem rb6:waitsOk rT6.2 rB6=true:=by kernel_rfl
abbrev qc (a0 a1 a2 a3:Int)(t:ByteArray)(o:Int)(y v l h:ByteArray)(m:Int):Obj:= .cells #[.int .i64 a0,.int .i64 a1,.int .i64 a2,.int .i64 a3,.string t,.int .i64 o,.string y,.string v,.string l,.string h,.int .i64 m] 61 (0,0)
theorem req_no (a0 a1 a2 a3:Int)(t:ByteArray)(o:Int)(y v l h:ByteArray)(m:Int)(w:World)(hm:¬mayQ a0 a1 a2 a3 t o y v l h m):Calls Tryz.prog 20 #[.agg #[.int .i64 a0,.int .i64 a1,.int .i64 a2,.int .i64 a3,.string t,.int .i64 o,.string y,.string v,.string l,.string h,.int .i64 m]] w fun e w'=>e= .returned (.tuple #[.string ⟨#[]⟩,.int .i64 1])∧Below w.heap.size w w':=by
 have HM:=Aside0.mk (ref_mayReq a0 a1 a2 a3 t o y v l h m)
 rw[decide_eq_false hm] at HM
 clear hm
 go_enter Tryz.func20,Tryz.ntmps20
 go_wp2_with (go_at_call 10;refine(HM.out _).mono ?_;rintro e w1 ⟨rfl,hb⟩)
 go_ret2
 exact⟨rfl,below_step (q_one _ _) hb⟩
theorem req_four (a0 a1 a2 a3:Int)(t:ByteArray)(o:Int)(y v l h:ByteArray)(m:Int)(w:World)(hm:mayQ a0 a1 a2 a3 t o y v l h m)(hk5:¬a0=5)(s0 s1 s2 s3 s4:ByteArray)(h0:stanchionref16_num.f a0=some s0)(h1:stanchionref16_num.f a1=some s1)(h2:stanchionref16_num.f a2=some s2)(h3:stanchionref16_num.f a3=some s3)(h4:stanchionref16_text.f t=some s4)(hz:s0.size+s1.size+s2.size+s3.size+s4.size≤3000):Calls Tryz.prog 20 #[.agg #[.int .i64 a0,.int .i64 a1,.int .i64 a2,.int .i64 a3,.string t,.int .i64 o,.string y,.string v,.string l,.string h,.int .i64 m]] w fun e w'=>e= .returned (.tuple #[.string ((((s0++s1)++s2)++s3)++s4),.int .i64 0])∧Below w.heap.size w w':=by
 have HM:=Aside0.mk (ref_mayReq a0 a1 a2 a3 t o y v l h m)
 rw[decide_eq_true hm] at HM
 clear hm
 have z5:(a0==5)=false:=beq_eq_false_iff_ne.2 hk5
 clear hk5
 have A0:=Aside0.mk h0
 clear h0
 have A1:=Aside0.mk h1
 clear h1
 have A2:=Aside0.mk h2
 clear h2
 have A3:=Aside0.mk h3
 clear h3
 have A4:=Aside0.mk h4
 clear h4
 have b1:(9223372036854775807<s0.size+s1.size)=False:=eq_false (by omega)
 have b2:(9223372036854775807<s0.size+s1.size+s2.size)=False:=eq_false (by omega)
 have d2:(9223372036854775807<((s0++s1)).size+s2.size)=False:=by simp only[ByteArray.size_append];exact b2
 have b3:(9223372036854775807<s0.size+s1.size+s2.size+s3.size)=False:=eq_false (by omega)
 have d3:(9223372036854775807<(((s0++s1)++s2)).size+s3.size)=False:=by simp only[ByteArray.size_append];exact b3
 have b4:(9223372036854775807<s0.size+s1.size+s2.size+s3.size+s4.size)=False:=eq_false (by omega)
 have d4:(9223372036854775807<((((s0++s1)++s2)++s3)).size+s4.size)=False:=by simp only[ByteArray.size_append];exact b4
 go_enter Tryz.func20,Tryz.ntmps20
 go_wp2_with (go_at_call 10;refine(HM.out _).mono ?_;rintro e w1 ⟨rfl,hb⟩)
 have BK:Aside0 (w1.heap[w.heap.size]? =some (qc a0 a1 a2 a3 t o y v l h m)):=⟨blk_below (blk_new _ _) hb⟩
 have HB:Aside0 (Below w.heap.size w w1):=⟨below_step (q_one _ _) hb⟩
 clear hb
 refine start_ (n:=20) (S:=fun w'=>w'.heap[w.heap.size]? =some (qc a0 a1 a2 a3 t o y v l h m)) (ds:= []) (Array.replicate 20 false) (by kernel_rfl) rfl rfl (blk_drew BK.out) (fun hHeld=>?_)
 refine with_tabW rt4 rb4 (fun HT_ HW_=>?_)
 clear hHeld
 replace BK:=Aside0.mk (blk_drew BK.out)
 replace HB:=Aside0.mk (below_drew1 HB.out)
 generalize World.drew _=wd at BK HB⊢
 refine q_pure 0 10 HT_ rfl rfl (by kernel_rfl) (fun _ _ _ h=>h) (Or.inl ⟨by rfl,fun w'=>by go_simp;with_reducible rfl⟩) (by simp only[Act.put,List.setIfInBounds_toArray,List.set_cons_zero,List.set_cons_succ,i64_w,i32_w];rfl) ?_
 refine q_pure 3 13 HT_ rfl rfl (by kernel_rfl) (fun _ _ _ h=>h) (Or.inl ⟨by rfl,fun w'=>by go_simp;with_reducible rfl⟩) (by simp only[Act.put,List.setIfInBounds_toArray,List.set_cons_zero,List.set_cons_succ,i64_w,i32_w];rfl) ?_
 refine q_pure 7 17 HT_ rfl rfl (by kernel_rfl) (fun _ _ _ h=>h) (Or.inl ⟨by rfl,fun w'=>by go_simp;with_reducible rfl⟩) (by simp only[Act.put,List.setIfInBounds_toArray,List.set_cons_zero,List.set_cons_succ,i64_w,i32_w];rfl) ?_
 refine q_pure 11 21 HT_ rfl rfl (by kernel_rfl) (fun _ _ _ h=>h) (Or.inl ⟨by rfl,fun w'=>by go_simp;with_reducible rfl⟩) (by simp only[Act.put,List.setIfInBounds_toArray,List.set_cons_zero,List.set_cons_succ,i64_w,i32_w];rfl) ?_
 refine q_pure 15 25 HT_ rfl rfl (by kernel_rfl) (fun _ _ _ h=>h) (Or.inl ⟨by rfl,fun w'=>by go_simp;with_reducible rfl⟩) (by simp only[Act.put,List.setIfInBounds_toArray,List.set_cons_zero,List.set_cons_succ,i64_w,i32_w];rfl) ?_
 refine q_take 1 11 HT_ HW_ rfl rfl (by kernel_rfl) (fun _ _ _ h=>h) (Or.inl ⟨by rfl,fun w' s=>by have c:=(blk_cell s 0).trans rfl;go_simp;with_reducible rfl⟩) BK.out (by simp only[Act.put,List.setIfInBounds_toArray,List.set_cons_zero,List.set_cons_succ,i64_w,i32_w];rfl) ?_
 refine q_take 4 14 HT_ HW_ rfl rfl (by kernel_rfl) (fun _ _ _ h=>h) (Or.inl ⟨by rfl,fun w' s=>by have c:=(blk_cell s 1).trans rfl;go_simp;with_reducible rfl⟩) BK.out (by simp only[Act.put,List.setIfInBounds_toArray,List.set_cons_zero,List.set_cons_succ,i64_w,i32_w];rfl) ?_
 refine q_take 8 18 HT_ HW_ rfl rfl (by kernel_rfl) (fun _ _ _ h=>h) (Or.inl ⟨by rfl,fun w' s=>by have c:=(blk_cell s 2).trans rfl;go_simp;with_reducible rfl⟩) BK.out (by simp only[Act.put,List.setIfInBounds_toArray,List.set_cons_zero,List.set_cons_succ,i64_w,i32_w];rfl) ?_
 refine q_take 12 22 HT_ HW_ rfl rfl (by kernel_rfl) (fun _ _ _ h=>h) (Or.inl ⟨by rfl,fun w' s=>by have c:=(blk_cell s 3).trans rfl;go_simp;with_reducible rfl⟩) BK.out (by simp only[Act.put,List.setIfInBounds_toArray,List.set_cons_zero,List.set_cons_succ,i64_w,i32_w];rfl) ?_
 refine q_take 16 26 HT_ HW_ rfl rfl (by kernel_rfl) (fun _ _ _ h=>h) (Or.inl ⟨by rfl,fun w' s=>by have c:=(blk_cell s 4).trans rfl;go_simp;with_reducible rfl⟩) BK.out (by simp only[Act.put,List.setIfInBounds_toArray,List.set_cons_zero,List.set_cons_succ,i64_w,i32_w];rfl) ?_
 refine q_one' 2 12 HT_ rfl rfl (by kernel_rfl) (by decide) (q_call 12 38 #[.int .i64 a0] s0 w.heap.size w (qc a0 a1 a2 a3 t o y v l h m) rfl BK.out Tryz.func38 (by kernel_rfl) rfl (by rfl) rfl rfl (by(try simp only[List.map_toArray,List.map_cons,List.map_nil]);first|done|rfl) (stanchionref16_num.calls a0 s0 _ A0.out) HB ?_)
 clear BK HB
 intro w' BK HB
 refine norm_ (a':= ?_) ?_ ?_
 rotate_left
 ·simp only[Act.put,List.setIfInBounds_toArray,List.set_cons_zero,List.set_cons_succ,i64_w,i32_w]
  rfl
 refine q_one' 5 15 HT_ rfl rfl (by kernel_rfl) (by decide) (q_call 15 38 #[.int .i64 a1] s1 w.heap.size w (qc a0 a1 a2 a3 t o y v l h m) rfl BK.out Tryz.func38 (by kernel_rfl) rfl (by rfl) rfl rfl (by(try simp only[List.map_toArray,List.map_cons,List.map_nil]);first|done|rfl) (stanchionref16_num.calls a1 s1 _ A1.out) HB ?_)
 clear BK HB
 intro w' BK HB
 refine norm_ (a':= ?_) ?_ ?_
 rotate_left
 ·simp only[Act.put,List.setIfInBounds_toArray,List.set_cons_zero,List.set_cons_succ,i64_w,i32_w]
  rfl
 refine q_pure 6 16 HT_ rfl rfl (by kernel_rfl) (fun _ _ _ h=>h) (Or.inl ⟨by rfl,fun w'=>by go_simp;with_reducible rfl⟩) (by simp only[Act.put,List.setIfInBounds_toArray,List.set_cons_zero,List.set_cons_succ,i64_w,i32_w];rfl) ?_
 refine q_one' 9 19 HT_ rfl rfl (by kernel_rfl) (by decide) (q_call 19 38 #[.int .i64 a2] s2 w.heap.size w (qc a0 a1 a2 a3 t o y v l h m) rfl BK.out Tryz.func38 (by kernel_rfl) rfl (by rfl) rfl rfl (by(try simp only[List.map_toArray,List.map_cons,List.map_nil]);first|done|rfl) (stanchionref16_num.calls a2 s2 _ A2.out) HB ?_)
 clear BK HB
 intro w' BK HB
 refine norm_ (a':= ?_) ?_ ?_
 rotate_left
 ·simp only[Act.put,List.setIfInBounds_toArray,List.set_cons_zero,List.set_cons_succ,i64_w,i32_w]
  rfl
 refine q_pure 10 20 HT_ rfl rfl (by kernel_rfl) (fun _ _ _ h=>h) (Or.inl ⟨by rfl,fun w'=>by go_simp;with_reducible rfl⟩) (by simp only[Act.put,List.setIfInBounds_toArray,List.set_cons_zero,List.set_cons_succ,i64_w,i32_w];rfl) ?_
 refine q_one' 13 23 HT_ rfl rfl (by kernel_rfl) (by decide) (q_call 23 38 #[.int .i64 a3] s3 w.heap.size w (qc a0 a1 a2 a3 t o y v l h m) rfl BK.out Tryz.func38 (by kernel_rfl) rfl (by rfl) rfl rfl (by(try simp only[List.map_toArray,List.map_cons,List.map_nil]);first|done|rfl) (stanchionref16_num.calls a3 s3 _ A3.out) HB ?_)
 clear BK HB
 intro w' BK HB
 refine norm_ (a':= ?_) ?_ ?_
 rotate_left
 ·simp only[Act.put,List.setIfInBounds_toArray,List.set_cons_zero,List.set_cons_succ,i64_w,i32_w]
  rfl
 refine q_pure 14 24 HT_ rfl rfl (by kernel_rfl) (fun _ _ _ h=>h) (Or.inl ⟨by rfl,fun w'=>by go_simp;with_reducible rfl⟩) (by simp only[Act.put,List.setIfInBounds_toArray,List.set_cons_zero,List.set_cons_succ,i64_w,i32_w];rfl) ?_
 refine q_one' 17 27 HT_ rfl rfl (by kernel_rfl) (by decide) (q_call 27 39 #[.string t] s4 w.heap.size w (qc a0 a1 a2 a3 t o y v l h m) rfl BK.out Tryz.func39 (by kernel_rfl) rfl (by rfl) rfl rfl (by(try simp only[List.map_toArray,List.map_cons,List.map_nil]);first|done|rfl) (stanchionref16_text.calls t s4 _ A4.out) HB ?_)
 clear BK HB
 intro w' BK HB
 refine norm_ (a':= ?_) ?_ ?_
 rotate_left
 ·simp only[Act.put,List.setIfInBounds_toArray,List.set_cons_zero,List.set_cons_succ,i64_w,i32_w]
  rfl
 refine q_pure 18 28 HT_ rfl rfl (by kernel_rfl) (fun _ _ _ h=>h) (Or.inl ⟨by rfl,fun w'=>by go_simp;with_reducible rfl⟩) (by simp only[Act.put,List.setIfInBounds_toArray,List.set_cons_zero,List.set_cons_succ,i64_w,i32_w];rfl) ?_
 refine q_pure 19 5 HT_ rfl rfl (by kernel_rfl) (fun _ _ _ h=>h) (Or.inl ⟨by rfl,fun w'=>by go_simp;with_reducible rfl⟩) (by simp only[Act.put,List.setIfInBounds_toArray,List.set_cons_zero,List.set_cons_succ,i64_w,i32_w];rfl) ?_
 refine done_ (done_of HT_.out (by kernel_rfl)) ?_
 have c0:w'.cell? ⟨w.heap.size,0,none⟩=some (.int .i64 a0):=(blk_cell BK.out 0).trans rfl
 go_wp2_with fail
 go_ret2
 exact⟨rfl,HB.out⟩
theorem req_five (a0 a1 a2 a3:Int)(t:ByteArray)(o:Int)(y v l h:ByteArray)(m:Int)(w:World)(hm:mayQ a0 a1 a2 a3 t o y v l h m)(hk5:a0=5)(s0 s1 s2 s3 s4 s5 s6 s7 s8 s9 s10:ByteArray)(h0:stanchionref16_num.f a0=some s0)(h1:stanchionref16_num.f a1=some s1)(h2:stanchionref16_num.f a2=some s2)(h3:stanchionref16_num.f a3=some s3)(h4:stanchionref16_text.f t=some s4)(h5:stanchionref16_num.f o=some s5)(h6:stanchionref16_text.f y=some s6)(h7:stanchionref16_text.f v=some s7)(h8:stanchionref16_text.f l=some s8)(h9:stanchionref16_text.f h=some s9)(h10:stanchionref16_num.f m=some s10)(hz:s0.size+s1.size+s2.size+s3.size+s4.size+s5.size+s6.size+s7.size+s8.size+s9.size+s10.size≤3000):Calls Tryz.prog 20 #[.agg #[.int .i64 a0,.int .i64 a1,.int .i64 a2,.int .i64 a3,.string t,.int .i64 o,.string y,.string v,.string l,.string h,.int .i64 m]] w fun e w'=>e= .returned (.tuple #[.string ((((((((((s0++s1)++s2)++s3)++s4)++s5)++s6)++s7)++s8)++s9)++s10),.int .i64 0])∧Below w.heap.size w w':=by
 have HM:=Aside0.mk (ref_mayReq a0 a1 a2 a3 t o y v l h m)
 rw[decide_eq_true hm] at HM
 clear hm
 have z5:(a0==5)=true:=beq_iff_eq.2 hk5
 clear hk5
 have A0:=Aside0.mk h0
 clear h0
 have A1:=Aside0.mk h1
 clear h1
 have A2:=Aside0.mk h2
 clear h2
 have A3:=Aside0.mk h3
 clear h3
 have A4:=Aside0.mk h4
 clear h4
 have A5:=Aside0.mk h5
 clear h5
 have A6:=Aside0.mk h6
 clear h6
 have A7:=Aside0.mk h7
 clear h7
 have A8:=Aside0.mk h8
 clear h8
 have A9:=Aside0.mk h9
 clear h9
 have A10:=Aside0.mk h10
 clear h10
 have b1:(9223372036854775807<s0.size+s1.size)=False:=eq_false (by omega)
 have b2:(9223372036854775807<s0.size+s1.size+s2.size)=False:=eq_false (by omega)
 have d2:(9223372036854775807<((s0++s1)).size+s2.size)=False:=by simp only[ByteArray.size_append];exact b2
 have b3:(9223372036854775807<s0.size+s1.size+s2.size+s3.size)=False:=eq_false (by omega)
 have d3:(9223372036854775807<(((s0++s1)++s2)).size+s3.size)=False:=by simp only[ByteArray.size_append];exact b3
 have b4:(9223372036854775807<s0.size+s1.size+s2.size+s3.size+s4.size)=False:=eq_false (by omega)
 have d4:(9223372036854775807<((((s0++s1)++s2)++s3)).size+s4.size)=False:=by simp only[ByteArray.size_append];exact b4
 have b5:(9223372036854775807<s0.size+s1.size+s2.size+s3.size+s4.size+s5.size)=False:=eq_false (by omega)
 have d5:(9223372036854775807<(((((s0++s1)++s2)++s3)++s4)).size+s5.size)=False:=by simp only[ByteArray.size_append];exact b5
 have b6:(9223372036854775807<s0.size+s1.size+s2.size+s3.size+s4.size+s5.size+s6.size)=False:=eq_false (by omega)
 have d6:(9223372036854775807<((((((s0++s1)++s2)++s3)++s4)++s5)).size+s6.size)=False:=by simp only[ByteArray.size_append];exact b6
 have b7:(9223372036854775807<s0.size+s1.size+s2.size+s3.size+s4.size+s5.size+s6.size+s7.size)=False:=eq_false (by omega)
 have d7:(9223372036854775807<(((((((s0++s1)++s2)++s3)++s4)++s5)++s6)).size+s7.size)=False:=by simp only[ByteArray.size_append];exact b7
 have b8:(9223372036854775807<s0.size+s1.size+s2.size+s3.size+s4.size+s5.size+s6.size+s7.size+s8.size)=False:=eq_false (by omega)
 have d8:(9223372036854775807<((((((((s0++s1)++s2)++s3)++s4)++s5)++s6)++s7)).size+s8.size)=False:=by simp only[ByteArray.size_append];exact b8
 have b9:(9223372036854775807<s0.size+s1.size+s2.size+s3.size+s4.size+s5.size+s6.size+s7.size+s8.size+s9.size)=False:=eq_false (by omega)
 have d9:(9223372036854775807<(((((((((s0++s1)++s2)++s3)++s4)++s5)++s6)++s7)++s8)).size+s9.size)=False:=by simp only[ByteArray.size_append];exact b9
 have b10:(9223372036854775807<s0.size+s1.size+s2.size+s3.size+s4.size+s5.size+s6.size+s7.size+s8.size+s9.size+s10.size)=False:=eq_false (by omega)
 have d10:(9223372036854775807<((((((((((s0++s1)++s2)++s3)++s4)++s5)++s6)++s7)++s8)++s9)).size+s10.size)=False:=by simp only[ByteArray.size_append];exact b10
 go_enter Tryz.func20,Tryz.ntmps20
 go_wp2_with (go_at_call 10;refine(HM.out _).mono ?_;rintro e w1 ⟨rfl,hb⟩)
 have BK:Aside0 (w1.heap[w.heap.size]? =some (qc a0 a1 a2 a3 t o y v l h m)):=⟨blk_below (blk_new _ _) hb⟩
 have HB:Aside0 (Below w.heap.size w w1):=⟨below_step (q_one _ _) hb⟩
 clear hb
 refine start_ (n:=20) (S:=fun w'=>w'.heap[w.heap.size]? =some (qc a0 a1 a2 a3 t o y v l h m)) (ds:= []) (Array.replicate 20 false) (by kernel_rfl) rfl rfl (blk_drew BK.out) (fun hHeld=>?_)
 refine with_tabW rt4 rb4 (fun HT_ HW_=>?_)
 clear hHeld
 replace BK:=Aside0.mk (blk_drew BK.out)
 replace HB:=Aside0.mk (below_drew1 HB.out)
 generalize World.drew _=wd at BK HB⊢
 refine q_pure 0 10 HT_ rfl rfl (by kernel_rfl) (fun _ _ _ h=>h) (Or.inl ⟨by rfl,fun w'=>by go_simp;with_reducible rfl⟩) (by simp only[Act.put,List.setIfInBounds_toArray,List.set_cons_zero,List.set_cons_succ,i64_w,i32_w];rfl) ?_
 refine q_pure 3 13 HT_ rfl rfl (by kernel_rfl) (fun _ _ _ h=>h) (Or.inl ⟨by rfl,fun w'=>by go_simp;with_reducible rfl⟩) (by simp only[Act.put,List.setIfInBounds_toArray,List.set_cons_zero,List.set_cons_succ,i64_w,i32_w];rfl) ?_
 refine q_pure 7 17 HT_ rfl rfl (by kernel_rfl) (fun _ _ _ h=>h) (Or.inl ⟨by rfl,fun w'=>by go_simp;with_reducible rfl⟩) (by simp only[Act.put,List.setIfInBounds_toArray,List.set_cons_zero,List.set_cons_succ,i64_w,i32_w];rfl) ?_
 refine q_pure 11 21 HT_ rfl rfl (by kernel_rfl) (fun _ _ _ h=>h) (Or.inl ⟨by rfl,fun w'=>by go_simp;with_reducible rfl⟩) (by simp only[Act.put,List.setIfInBounds_toArray,List.set_cons_zero,List.set_cons_succ,i64_w,i32_w];rfl) ?_
 refine q_pure 15 25 HT_ rfl rfl (by kernel_rfl) (fun _ _ _ h=>h) (Or.inl ⟨by rfl,fun w'=>by go_simp;with_reducible rfl⟩) (by simp only[Act.put,List.setIfInBounds_toArray,List.set_cons_zero,List.set_cons_succ,i64_w,i32_w];rfl) ?_
 refine q_take 1 11 HT_ HW_ rfl rfl (by kernel_rfl) (fun _ _ _ h=>h) (Or.inl ⟨by rfl,fun w' s=>by have c:=(blk_cell s 0).trans rfl;go_simp;with_reducible rfl⟩) BK.out (by simp only[Act.put,List.setIfInBounds_toArray,List.set_cons_zero,List.set_cons_succ,i64_w,i32_w];rfl) ?_
 refine q_take 4 14 HT_ HW_ rfl rfl (by kernel_rfl) (fun _ _ _ h=>h) (Or.inl ⟨by rfl,fun w' s=>by have c:=(blk_cell s 1).trans rfl;go_simp;with_reducible rfl⟩) BK.out (by simp only[Act.put,List.setIfInBounds_toArray,List.set_cons_zero,List.set_cons_succ,i64_w,i32_w];rfl) ?_
 refine q_take 8 18 HT_ HW_ rfl rfl (by kernel_rfl) (fun _ _ _ h=>h) (Or.inl ⟨by rfl,fun w' s=>by have c:=(blk_cell s 2).trans rfl;go_simp;with_reducible rfl⟩) BK.out (by simp only[Act.put,List.setIfInBounds_toArray,List.set_cons_zero,List.set_cons_succ,i64_w,i32_w];rfl) ?_
 refine q_take 12 22 HT_ HW_ rfl rfl (by kernel_rfl) (fun _ _ _ h=>h) (Or.inl ⟨by rfl,fun w' s=>by have c:=(blk_cell s 3).trans rfl;go_simp;with_reducible rfl⟩) BK.out (by simp only[Act.put,List.setIfInBounds_toArray,List.set_cons_zero,List.set_cons_succ,i64_w,i32_w];rfl) ?_
 refine q_take 16 26 HT_ HW_ rfl rfl (by kernel_rfl) (fun _ _ _ h=>h) (Or.inl ⟨by rfl,fun w' s=>by have c:=(blk_cell s 4).trans rfl;go_simp;with_reducible rfl⟩) BK.out (by simp only[Act.put,List.setIfInBounds_toArray,List.set_cons_zero,List.set_cons_succ,i64_w,i32_w];rfl) ?_
 refine q_one' 2 12 HT_ rfl rfl (by kernel_rfl) (by decide) (q_call 12 38 #[.int .i64 a0] s0 w.heap.size w (qc a0 a1 a2 a3 t o y v l h m) rfl BK.out Tryz.func38 (by kernel_rfl) rfl (by rfl) rfl rfl (by(try simp only[List.map_toArray,List.map_cons,List.map_nil]);first|done|rfl) (stanchionref16_num.calls a0 s0 _ A0.out) HB ?_)
 clear BK HB
 intro w' BK HB
 refine norm_ (a':= ?_) ?_ ?_
 rotate_left
 ·simp only[Act.put,List.setIfInBounds_toArray,List.set_cons_zero,List.set_cons_succ,i64_w,i32_w]
  rfl
 refine q_one' 5 15 HT_ rfl rfl (by kernel_rfl) (by decide) (q_call 15 38 #[.int .i64 a1] s1 w.heap.size w (qc a0 a1 a2 a3 t o y v l h m) rfl BK.out Tryz.func38 (by kernel_rfl) rfl (by rfl) rfl rfl (by(try simp only[List.map_toArray,List.map_cons,List.map_nil]);first|done|rfl) (stanchionref16_num.calls a1 s1 _ A1.out) HB ?_)
 clear BK HB
 intro w' BK HB
 refine norm_ (a':= ?_) ?_ ?_
 rotate_left
 ·simp only[Act.put,List.setIfInBounds_toArray,List.set_cons_zero,List.set_cons_succ,i64_w,i32_w]
  rfl
 refine q_pure 6 16 HT_ rfl rfl (by kernel_rfl) (fun _ _ _ h=>h) (Or.inl ⟨by rfl,fun w'=>by go_simp;with_reducible rfl⟩) (by simp only[Act.put,List.setIfInBounds_toArray,List.set_cons_zero,List.set_cons_succ,i64_w,i32_w];rfl) ?_
 refine q_one' 9 19 HT_ rfl rfl (by kernel_rfl) (by decide) (q_call 19 38 #[.int .i64 a2] s2 w.heap.size w (qc a0 a1 a2 a3 t o y v l h m) rfl BK.out Tryz.func38 (by kernel_rfl) rfl (by rfl) rfl rfl (by(try simp only[List.map_toArray,List.map_cons,List.map_nil]);first|done|rfl) (stanchionref16_num.calls a2 s2 _ A2.out) HB ?_)
 clear BK HB
 intro w' BK HB
 refine norm_ (a':= ?_) ?_ ?_
 rotate_left
 ·simp only[Act.put,List.setIfInBounds_toArray,List.set_cons_zero,List.set_cons_succ,i64_w,i32_w]
  rfl
 refine q_pure 10 20 HT_ rfl rfl (by kernel_rfl) (fun _ _ _ h=>h) (Or.inl ⟨by rfl,fun w'=>by go_simp;with_reducible rfl⟩) (by simp only[Act.put,List.setIfInBounds_toArray,List.set_cons_zero,List.set_cons_succ,i64_w,i32_w];rfl) ?_
 refine q_one' 13 23 HT_ rfl rfl (by kernel_rfl) (by decide) (q_call 23 38 #[.int .i64 a3] s3 w.heap.size w (qc a0 a1 a2 a3 t o y v l h m) rfl BK.out Tryz.func38 (by kernel_rfl) rfl (by rfl) rfl rfl (by(try simp only[List.map_toArray,List.map_cons,List.map_nil]);first|done|rfl) (stanchionref16_num.calls a3 s3 _ A3.out) HB ?_)
 clear BK HB
 intro w' BK HB
 refine norm_ (a':= ?_) ?_ ?_
 rotate_left
 ·simp only[Act.put,List.setIfInBounds_toArray,List.set_cons_zero,List.set_cons_succ,i64_w,i32_w]
  rfl
 refine q_pure 14 24 HT_ rfl rfl (by kernel_rfl) (fun _ _ _ h=>h) (Or.inl ⟨by rfl,fun w'=>by go_simp;with_reducible rfl⟩) (by simp only[Act.put,List.setIfInBounds_toArray,List.set_cons_zero,List.set_cons_succ,i64_w,i32_w];rfl) ?_
 refine q_one' 17 27 HT_ rfl rfl (by kernel_rfl) (by decide) (q_call 27 39 #[.string t] s4 w.heap.size w (qc a0 a1 a2 a3 t o y v l h m) rfl BK.out Tryz.func39 (by kernel_rfl) rfl (by rfl) rfl rfl (by(try simp only[List.map_toArray,List.map_cons,List.map_nil]);first|done|rfl) (stanchionref16_text.calls t s4 _ A4.out) HB ?_)
 clear BK HB
 intro w' BK HB
 refine norm_ (a':= ?_) ?_ ?_
 rotate_left
 ·simp only[Act.put,List.setIfInBounds_toArray,List.set_cons_zero,List.set_cons_succ,i64_w,i32_w]
  rfl
 refine q_pure 18 28 HT_ rfl rfl (by kernel_rfl) (fun _ _ _ h=>h) (Or.inl ⟨by rfl,fun w'=>by go_simp;with_reducible rfl⟩) (by simp only[Act.put,List.setIfInBounds_toArray,List.set_cons_zero,List.set_cons_succ,i64_w,i32_w];rfl) ?_
 refine q_pure 19 5 HT_ rfl rfl (by kernel_rfl) (fun _ _ _ h=>h) (Or.inl ⟨by rfl,fun w'=>by go_simp;with_reducible rfl⟩) (by simp only[Act.put,List.setIfInBounds_toArray,List.set_cons_zero,List.set_cons_succ,i64_w,i32_w];rfl) ?_
 refine done_ (done_of HT_.out (by kernel_rfl)) ?_
 have c0:w'.cell? ⟨w.heap.size,0,none⟩=some (.int .i64 a0):=(blk_cell BK.out 0).trans rfl
 go_wp2_with fail
 clear c0
 refine start_ (n:=32) (S:=fun w'=>w'.heap[w.heap.size]? =some (qc a0 a1 a2 a3 t o y v l h m)) (ds:= []) (Array.replicate 32 false) (by kernel_rfl) rfl rfl (blk_drew BK.out) (fun hHeld=>?_)
 refine with_tabW rt6 rb6 (fun HT_ HW_=>?_)
 clear hHeld
 replace BK:=Aside0.mk (blk_drew BK.out)
 replace HB:=Aside0.mk (below_drew1 HB.out)
 generalize World.drew _=wd at BK HB⊢
 refine q_pure 0 32 HT_ rfl rfl (by kernel_rfl) (fun _ _ _ h=>h) (Or.inl ⟨by rfl,fun w'=>by go_simp;with_reducible rfl⟩) (by simp only[Act.put,List.setIfInBounds_toArray,List.set_cons_zero,List.set_cons_succ,i64_w,i32_w];rfl) ?_
 refine q_pure 1 33 HT_ rfl rfl (by kernel_rfl) (fun _ _ _ h=>h) (Or.inl ⟨by rfl,fun w'=>by go_simp;with_reducible rfl⟩) (by simp only[Act.put,List.setIfInBounds_toArray,List.set_cons_zero,List.set_cons_succ,i64_w,i32_w];rfl) ?_
 refine q_pure 2 34 HT_ rfl rfl (by kernel_rfl) (fun _ _ _ h=>h) (Or.inl ⟨by rfl,fun w'=>by go_simp;with_reducible rfl⟩) (by simp only[Act.put,List.setIfInBounds_toArray,List.set_cons_zero,List.set_cons_succ,i64_w,i32_w];rfl) ?_
 refine q_pure 6 38 HT_ rfl rfl (by kernel_rfl) (fun _ _ _ h=>h) (Or.inl ⟨by rfl,fun w'=>by go_simp;with_reducible rfl⟩) (by simp only[Act.put,List.setIfInBounds_toArray,List.set_cons_zero,List.set_cons_succ,i64_w,i32_w];rfl) ?_
 refine q_pure 7 39 HT_ rfl rfl (by kernel_rfl) (fun _ _ _ h=>h) (Or.inl ⟨by rfl,fun w'=>by go_simp;with_reducible rfl⟩) (by simp only[Act.put,List.setIfInBounds_toArray,List.set_cons_zero,List.set_cons_succ,i64_w,i32_w];rfl) ?_
 refine q_pure 11 43 HT_ rfl rfl (by kernel_rfl) (fun _ _ _ h=>h) (Or.inl ⟨by rfl,fun w'=>by go_simp;with_reducible rfl⟩) (by simp only[Act.put,List.setIfInBounds_toArray,List.set_cons_zero,List.set_cons_succ,i64_w,i32_w];rfl) ?_
 refine q_pure 12 44 HT_ rfl rfl (by kernel_rfl) (fun _ _ _ h=>h) (Or.inl ⟨by rfl,fun w'=>by go_simp;with_reducible rfl⟩) (by simp only[Act.put,List.setIfInBounds_toArray,List.set_cons_zero,List.set_cons_succ,i64_w,i32_w];rfl) ?_
 refine q_pure 16 48 HT_ rfl rfl (by kernel_rfl) (fun _ _ _ h=>h) (Or.inl ⟨by rfl,fun w'=>by go_simp;with_reducible rfl⟩) (by simp only[Act.put,List.setIfInBounds_toArray,List.set_cons_zero,List.set_cons_succ,i64_w,i32_w];rfl) ?_
 refine q_pure 17 49 HT_ rfl rfl (by kernel_rfl) (fun _ _ _ h=>h) (Or.inl ⟨by rfl,fun w'=>by go_simp;with_reducible rfl⟩) (by simp only[Act.put,List.setIfInBounds_toArray,List.set_cons_zero,List.set_cons_succ,i64_w,i32_w];rfl) ?_
 refine q_pure 21 53 HT_ rfl rfl (by kernel_rfl) (fun _ _ _ h=>h) (Or.inl ⟨by rfl,fun w'=>by go_simp;with_reducible rfl⟩) (by simp only[Act.put,List.setIfInBounds_toArray,List.set_cons_zero,List.set_cons_succ,i64_w,i32_w];rfl) ?_
 refine q_pure 22 54 HT_ rfl rfl (by kernel_rfl) (fun _ _ _ h=>h) (Or.inl ⟨by rfl,fun w'=>by go_simp;with_reducible rfl⟩) (by simp only[Act.put,List.setIfInBounds_toArray,List.set_cons_zero,List.set_cons_succ,i64_w,i32_w];rfl) ?_
 refine q_pure 26 58 HT_ rfl rfl (by kernel_rfl) (fun _ _ _ h=>h) (Or.inl ⟨by rfl,fun w'=>by go_simp;with_reducible rfl⟩) (by simp only[Act.put,List.setIfInBounds_toArray,List.set_cons_zero,List.set_cons_succ,i64_w,i32_w];rfl) ?_
 refine q_pure 27 59 HT_ rfl rfl (by kernel_rfl) (fun _ _ _ h=>h) (Or.inl ⟨by rfl,fun w'=>by go_simp;with_reducible rfl⟩) (by simp only[Act.put,List.setIfInBounds_toArray,List.set_cons_zero,List.set_cons_succ,i64_w,i32_w];rfl) ?_
 refine q_take 3 35 HT_ HW_ rfl rfl (by kernel_rfl) (fun _ _ _ h=>h) (Or.inl ⟨by rfl,fun w' s=>by have c:=(blk_cell s 5).trans rfl;go_simp;with_reducible rfl⟩) BK.out (by simp only[Act.put,List.setIfInBounds_toArray,List.set_cons_zero,List.set_cons_succ,i64_w,i32_w];rfl) ?_
 refine q_take 8 40 HT_ HW_ rfl rfl (by kernel_rfl) (fun _ _ _ h=>h) (Or.inl ⟨by rfl,fun w' s=>by have c:=(blk_cell s 6).trans rfl;go_simp;with_reducible rfl⟩) BK.out (by simp only[Act.put,List.setIfInBounds_toArray,List.set_cons_zero,List.set_cons_succ,i64_w,i32_w];rfl) ?_
 refine q_take 13 45 HT_ HW_ rfl rfl (by kernel_rfl) (fun _ _ _ h=>h) (Or.inl ⟨by rfl,fun w' s=>by have c:=(blk_cell s 7).trans rfl;go_simp;with_reducible rfl⟩) BK.out (by simp only[Act.put,List.setIfInBounds_toArray,List.set_cons_zero,List.set_cons_succ,i64_w,i32_w];rfl) ?_
 refine q_take 18 50 HT_ HW_ rfl rfl (by kernel_rfl) (fun _ _ _ h=>h) (Or.inl ⟨by rfl,fun w' s=>by have c:=(blk_cell s 8).trans rfl;go_simp;with_reducible rfl⟩) BK.out (by simp only[Act.put,List.setIfInBounds_toArray,List.set_cons_zero,List.set_cons_succ,i64_w,i32_w];rfl) ?_
 refine q_take 23 55 HT_ HW_ rfl rfl (by kernel_rfl) (fun _ _ _ h=>h) (Or.inl ⟨by rfl,fun w' s=>by have c:=(blk_cell s 9).trans rfl;go_simp;with_reducible rfl⟩) BK.out (by simp only[Act.put,List.setIfInBounds_toArray,List.set_cons_zero,List.set_cons_succ,i64_w,i32_w];rfl) ?_
 refine q_take 28 60 HT_ HW_ rfl rfl (by kernel_rfl) (fun _ _ _ h=>h) (Or.inl ⟨by rfl,fun w' s=>by have c:=(blk_cell s 10).trans rfl;go_simp;with_reducible rfl⟩) BK.out (by simp only[Act.put,List.setIfInBounds_toArray,List.set_cons_zero,List.set_cons_succ,i64_w,i32_w];rfl) ?_
 refine q_one' 4 36 HT_ rfl rfl (by kernel_rfl) (by decide) (q_call 36 38 #[.int .i64 o] s5 w.heap.size w (qc a0 a1 a2 a3 t o y v l h m) rfl BK.out Tryz.func38 (by kernel_rfl) rfl (by rfl) rfl rfl (by(try simp only[List.map_toArray,List.map_cons,List.map_nil]);first|done|rfl) (stanchionref16_num.calls o s5 _ A5.out) HB ?_)
 clear BK HB
 intro w' BK HB
 refine norm_ (a':= ?_) ?_ ?_
 rotate_left
 ·simp only[Act.put,List.setIfInBounds_toArray,List.set_cons_zero,List.set_cons_succ,i64_w,i32_w]
  rfl
 refine q_pure 5 37 HT_ rfl rfl (by kernel_rfl) (fun _ _ _ h=>h) (Or.inl ⟨by rfl,fun w'=>by go_simp;with_reducible rfl⟩) (by simp only[Act.put,List.setIfInBounds_toArray,List.set_cons_zero,List.set_cons_succ,i64_w,i32_w];rfl) ?_
 refine q_one' 9 41 HT_ rfl rfl (by kernel_rfl) (by decide) (q_call 41 39 #[.string y] s6 w.heap.size w (qc a0 a1 a2 a3 t o y v l h m) rfl BK.out Tryz.func39 (by kernel_rfl) rfl (by rfl) rfl rfl (by(try simp only[List.map_toArray,List.map_cons,List.map_nil]);first|done|rfl) (stanchionref16_text.calls y s6 _ A6.out) HB ?_)
 clear BK HB
 intro w' BK HB
 refine norm_ (a':= ?_) ?_ ?_
 rotate_left
 ·simp only[Act.put,List.setIfInBounds_toArray,List.set_cons_zero,List.set_cons_succ,i64_w,i32_w]
  rfl
 refine q_pure 10 42 HT_ rfl rfl (by kernel_rfl) (fun _ _ _ h=>h) (Or.inl ⟨by rfl,fun w'=>by go_simp;with_reducible rfl⟩) (by simp only[Act.put,List.setIfInBounds_toArray,List.set_cons_zero,List.set_cons_succ,i64_w,i32_w];rfl) ?_
 refine q_one' 14 46 HT_ rfl rfl (by kernel_rfl) (by decide) (q_call 46 39 #[.string v] s7 w.heap.size w (qc a0 a1 a2 a3 t o y v l h m) rfl BK.out Tryz.func39 (by kernel_rfl) rfl (by rfl) rfl rfl (by(try simp only[List.map_toArray,List.map_cons,List.map_nil]);first|done|rfl) (stanchionref16_text.calls v s7 _ A7.out) HB ?_)
 clear BK HB
 intro w' BK HB
 refine norm_ (a':= ?_) ?_ ?_
 rotate_left
 ·simp only[Act.put,List.setIfInBounds_toArray,List.set_cons_zero,List.set_cons_succ,i64_w,i32_w]
  rfl
 refine q_pure 15 47 HT_ rfl rfl (by kernel_rfl) (fun _ _ _ h=>h) (Or.inl ⟨by rfl,fun w'=>by go_simp;with_reducible rfl⟩) (by simp only[Act.put,List.setIfInBounds_toArray,List.set_cons_zero,List.set_cons_succ,i64_w,i32_w];rfl) ?_
 refine q_one' 19 51 HT_ rfl rfl (by kernel_rfl) (by decide) (q_call 51 39 #[.string l] s8 w.heap.size w (qc a0 a1 a2 a3 t o y v l h m) rfl BK.out Tryz.func39 (by kernel_rfl) rfl (by rfl) rfl rfl (by(try simp only[List.map_toArray,List.map_cons,List.map_nil]);first|done|rfl) (stanchionref16_text.calls l s8 _ A8.out) HB ?_)
 clear BK HB
 intro w' BK HB
 refine norm_ (a':= ?_) ?_ ?_
 rotate_left
 ·simp only[Act.put,List.setIfInBounds_toArray,List.set_cons_zero,List.set_cons_succ,i64_w,i32_w]
  rfl
 refine q_pure 20 52 HT_ rfl rfl (by kernel_rfl) (fun _ _ _ h=>h) (Or.inl ⟨by rfl,fun w'=>by go_simp;with_reducible rfl⟩) (by simp only[Act.put,List.setIfInBounds_toArray,List.set_cons_zero,List.set_cons_succ,i64_w,i32_w];rfl) ?_
 refine q_one' 24 56 HT_ rfl rfl (by kernel_rfl) (by decide) (q_call 56 39 #[.string h] s9 w.heap.size w (qc a0 a1 a2 a3 t o y v l h m) rfl BK.out Tryz.func39 (by kernel_rfl) rfl (by rfl) rfl rfl (by(try simp only[List.map_toArray,List.map_cons,List.map_nil]);first|done|rfl) (stanchionref16_text.calls h s9 _ A9.out) HB ?_)
 clear BK HB
 intro w' BK HB
 refine norm_ (a':= ?_) ?_ ?_
 rotate_left
 ·simp only[Act.put,List.setIfInBounds_toArray,List.set_cons_zero,List.set_cons_succ,i64_w,i32_w]
  rfl
 refine q_pure 25 57 HT_ rfl rfl (by kernel_rfl) (fun _ _ _ h=>h) (Or.inl ⟨by rfl,fun w'=>by go_simp;with_reducible rfl⟩) (by simp only[Act.put,List.setIfInBounds_toArray,List.set_cons_zero,List.set_cons_succ,i64_w,i32_w];rfl) ?_
 refine q_one' 29 61 HT_ rfl rfl (by kernel_rfl) (by decide) (q_call 61 38 #[.int .i64 m] s10 w.heap.size w (qc a0 a1 a2 a3 t o y v l h m) rfl BK.out Tryz.func38 (by kernel_rfl) rfl (by rfl) rfl rfl (by(try simp only[List.map_toArray,List.map_cons,List.map_nil]);first|done|rfl) (stanchionref16_num.calls m s10 _ A10.out) HB ?_)
 clear BK HB
 intro w' BK HB
 refine norm_ (a':= ?_) ?_ ?_
 rotate_left
 ·simp only[Act.put,List.setIfInBounds_toArray,List.set_cons_zero,List.set_cons_succ,i64_w,i32_w]
  rfl
 refine q_pure 30 62 HT_ rfl rfl (by kernel_rfl) (fun _ _ _ h=>h) (Or.inl ⟨by rfl,fun w'=>by go_simp;with_reducible rfl⟩) (by simp only[Act.put,List.setIfInBounds_toArray,List.set_cons_zero,List.set_cons_succ,i64_w,i32_w];rfl) ?_
 refine q_pure 31 5 HT_ rfl rfl (by kernel_rfl) (fun _ _ _ h=>h) (Or.inl ⟨by rfl,fun w'=>by go_simp;with_reducible rfl⟩) (by simp only[Act.put,List.setIfInBounds_toArray,List.set_cons_zero,List.set_cons_succ,i64_w,i32_w];rfl) ?_
 refine done_ (done_of HT_.out (by kernel_rfl)) ?_
 go_wp2_with fail
 go_ret2
 exact⟨rfl,HB.out⟩
end Go.Proofs.YtmgmdiekpmffbaaGreatDoor.QWi
namespace Go.Proofs.YtmgmdiekpmffbaaGreatDoor.QWi
open Go Go.RowKit Go.Proofs.YtmgmdiekpmffbaaGreatDoor.Reader
theorem ref_may (a0 a1 a2 a3:Int)(t:ByteArray)(o:Int)(y v l h:ByteArray)(m:Int)(k:Nat):
  stanchionref16_MayReq.f (k+4) a0 a1 a2 a3 t o y v l h m=some (decide (mayQ a0 a1 a2 a3 t o y v l h m)):=rfl
end Go.Proofs.YtmgmdiekpmffbaaGreatDoor.QWi
namespace Go.Proofs.YtmgmdiekpmffbaaGreatDoor.Enc
open Go Go.RowKit Go.Proofs.YtmgmdiekpmffbaaGreatDoor.DecM Go.Proofs.YtmgmdiekpmffbaaGreatDoor.Giv Go.Proofs.YtmgmdiekpmffbaaGreatDoor.Wire Go.Proofs.YtmgmdiekpmffbaaGreatDoor.Reader Go.Proofs.YtmgmdiekpmffbaaGreatDoor.QWi Go.Proofs.YtmgmdiekpmffbaaGreatDoorW.PrintWords Go.Proofs.YtmgmdiekpmffbaaGreatDoorW.PrintLast
def encQ (a0 a1 a2 a3:Int)(t:ByteArray)(o:Int)(y v l h:ByteArray)(m:Int):ByteArray:=
 numS a0.toNat++(numS a1.toNat++(numS a2.toNat++(numS a3.toNat++(textS t++(if a0=5 then numS o.toNat++(textS y++(textS v++(textS l++(textS h++numS m.toNat))))else ⟨#[]⟩)))))
theorem encQ_size {a0 a1 a2 a3:Int}{t:ByteArray}{o:Int}{y v l h:ByteArray}{m:Int}(hm:mayQ a0 a1 a2 a3 t o y v l h m):1≤(encQ a0 a1 a2 a3 t o y v l h m).size∧(encQ a0 a1 a2 a3 t o y v l h m).size≤2000:=by
 obtain⟨p0,p1,p2,p3,p4,p5⟩:=hm
 have n0:=num_size a0 (by omega)
 have n1:=num_size a1 p1
 have n2:=num_size a2 p2
 have n3:=num_size a3 p3
 have n4:=text_size t (by omega)
 have n5:=numS_ge a0.toNat
 unfold encQ
 by_cases h5:a0=5
 ·rcases p5 with⟨_,_,q2,q3,q4,q5,q6,q7⟩|⟨q0,_⟩
  ·have m0:=num_size o (by omega)
   have m1:=num_size m q7
   have m2:=text_size y (by omega)
   have m3:=text_size v (by omega)
   have m4:=text_size l (by omega)
   have m5:=text_size h (by omega)
   simp only[if_pos h5,ByteArray.size_append]
   omega
  ·exact absurd h5 q0
 ·have e:(⟨#[]⟩:ByteArray).size=0:=rfl
  simp only[if_neg h5,ByteArray.size_append,e]
  omega
def parseQ {α:Type}(x:ByteArray×Bool)(f:Int→Int→Int→Int→ByteArray→Int→ByteArray→ByteArray→ByteArray→ByteArray→Int→ByteArray×Bool→α):α:=
 nx x 6 fun a1 x1=>nx x1 1073741824 fun a2 x2=>nx x2 1073741824 fun a3 x3=>nx x3 1073741824 fun a4 x4=>tx x4 16 fun a5 x5=>
 if a1=5 then nx x5 6 fun a6 x6=>tx x6 32 fun a7 x7=>tx x7 64 fun a8 x8=>tx x8 32 fun a9 x9=>tx x9 32 fun a10 x10=>nx x10 1073741824 fun a11 x11=>f a1 a2 a3 a4 a5 a6 a7 a8 a9 a10 a11 x11
 else f a1 a2 a3 a4 a5 0 ⟨#[]⟩ ⟨#[]⟩ ⟨#[]⟩ ⟨#[]⟩ 0 x5
theorem takeReq_parse (s:ByteArray):takeReqF s=if 2048<s.size then zq 4 else parseQ (s,false) fun a0 a1 a2 a3 t o y v l h m x=>lastQ x (goodQ a0 a1 a2 a3 t o y v l h m):=rfl
theorem parse_back {α:Type}{a0 a1 a2 a3:Int}{t:ByteArray}{o:Int}{y v l h:ByteArray}{m:Int}(hm:mayQ a0 a1 a2 a3 t o y v l h m)(r:ByteArray)(f:Int→Int→Int→Int→ByteArray→Int→ByteArray→ByteArray→ByteArray→ByteArray→Int→ByteArray×Bool→α):
  parseQ (encQ a0 a1 a2 a3 t o y v l h m++r,false) f=f a0 a1 a2 a3 t o y v l h m (r,false):=by
 obtain⟨p0,p1,p2,p3,p4,p5⟩:=hm
 unfold parseQ encQ
 rw[asc,nx_back a0 _ 6 _ (by omega) (by omega),asc,nx_back a1 _ _ _ p1 (by omega),asc,nx_back a2 _ _ _ p2 (by omega),asc,nx_back a3 _ _ _ p3 (by omega),asc,tx_back t _ _ _ (by omega) (by omega)]
 rcases p5 with⟨q0,q1,q2,q3,q4,q5,q6,q7⟩|⟨q0,q1,q2,q3,q4,q5,q6,_⟩
 ·rw [if_pos q0,if_pos q0,asc,nx_back o _ 6 _ (by omega) (by omega),asc,tx_back y _ _ _ (by omega) (by omega),asc,tx_back v _ _ _ (by omega) (by omega),asc,tx_back l _ _ _ (by omega) (by omega),asc,tx_back h _ _ _ (by omega) (by omega),nx_back m _ _ _ q7 (by omega)]
 ·rw [if_neg q0,if_neg q0,q1,size_nil q2,size_nil q3,size_nil q4,size_nil q5,q6]
  have e:(⟨#[]⟩:ByteArray)++r=r:=by
   apply bytes_ext
   simp only[data_append,List.nil_append]
  rw[e]
theorem take_of {a0 a1 a2 a3:Int}{t:ByteArray}{o:Int}{y v l h:ByteArray}{m:Int}(hm:mayQ a0 a1 a2 a3 t o y v l h m):takeReqF (encQ a0 a1 a2 a3 t o y v l h m)=(a0,a1,a2,a3,t,o,y,v,l,h,m,0):=by
 have hs:=encQ_size hm
 have e:=parse_back hm (⟨#[]⟩:ByteArray) (fun a0 a1 a2 a3 t o y v l h m x=>lastQ x (goodQ a0 a1 a2 a3 t o y v l h m))
 rw[app_empty] at e
 rw[takeReq_parse,if_neg (by omega),e]
 unfold lastQ goodQ
 rw[if_neg (by
  rintro(h|h)
  ·cases h
  ·exact h rfl),if_pos hm]
theorem nr_back {α:Type}(n:Int)(r:ByteArray)(f:Int→ByteArray×Bool→α)(hn:0≤n∧n≤1073741824):nr (numS n.toNat++r,true) f=f n (r,true):=by
 have e:=take_back n.toNat (by unfold two64;omega) r
 have en:((n.toNat:Nat):Int)=n:=by omega
 rw[en] at e
 refine nr_of (v:=(n,r,true)) f ?_
 show tkR (numS n.toNat++r) true=_
 unfold tkR
 rw[e]
 exact if_pos ⟨rfl,rfl,hn.2⟩
theorem tr_back {α:Type}(t r:ByteArray)(m:Int)(f:ByteArray→ByteArray×Bool→α)(ht:(t.size:Int)≤m)(hm:m≤1073741824):tr (textS t++r,true) m f=f t (r,true):=by
 have e:=DecPure.text_back t r m (by omega)
 rw[if_neg (by omega)] at e
 refine tr_of (v:=(t,r,true)) f ?_
 show rdR (textS t++r) true m=_
 unfold rdR
 rw[e]
 exact if_pos ⟨rfl,rfl⟩
theorem num_r (a:Int)(h:0≤a∧a≤1073741824):stanchionref16_num.f a=some (numS a.toNat):=by
 unfold stanchionref16_num.f QWi.stanchionref01_Num.f
 have hw:IntKind.u64.wrap a=a:=by
  unfold IntKind.wrap
  simp[IntKind.bits,IntKind.signed]
  omega
 rw[hw,DecPure.refn_some (by omega)]
 rfl
theorem text_r (t:ByteArray)(h:t.size≤64):stanchionref16_text.f t=some (textS t):=by
 unfold stanchionref16_text.f QWi.stanchionref01_Text.f QDec.stanchionref01_Text.f
 rw[if_pos (by omega)]
 rfl
theorem req_calls (a0 a1 a2 a3:Int)(t:ByteArray)(o:Int)(y v l h:ByteArray)(m:Int)(w:World):Calls Tryz.prog 20 #[.agg #[.int .i64 a0,.int .i64 a1,.int .i64 a2,.int .i64 a3,.string t,.int .i64 o,.string y,.string v,.string l,.string h,.int .i64 m]] w fun e w'=>
  e= .returned (.tuple #[.string (if mayQ a0 a1 a2 a3 t o y v l h m then(encQ a0 a1 a2 a3 t o y v l h m,(0:Int))else (⟨#[]⟩,1)).1,.int .i64 (if mayQ a0 a1 a2 a3 t o y v l h m then(encQ a0 a1 a2 a3 t o y v l h m,(0:Int))else (⟨#[]⟩,1)).2])∧Below w.heap.size w w':=by
 by_cases hm:mayQ a0 a1 a2 a3 t o y v l h m
 ·have hs:=(encQ_size hm).2
  have hm':=hm
  rw[if_pos hm]
  obtain⟨p0,p1,p2,p3,p4,p5⟩:=hm'
  by_cases h5:a0=5
  ·rcases p5 with⟨_,_,q2,q3,q4,q5,q6,q7⟩|⟨q0,_⟩
   ·have e:encQ a0 a1 a2 a3 t o y v l h m=numS a0.toNat++numS a1.toNat++numS a2.toNat++numS a3.toNat++textS t++numS o.toNat++textS y++textS v++textS l++textS h++numS m.toNat:=by
     unfold encQ
     rw[if_pos h5]
     simp only[asc]
    have z:=hs
    rw[e] at z⊢
    simp only[ByteArray.size_append] at z
    exact req_five a0 a1 a2 a3 t o y v l h m w hm h5 _ _ _ _ _ _ _ _ _ _ _ (num_r a0 (by omega)) (num_r a1 p1) (num_r a2 p2) (num_r a3 p3) (text_r t (by omega)) (num_r o (by omega)) (text_r y (by omega)) (text_r v (by omega)) (text_r l (by omega)) (text_r h (by omega)) (num_r m q7) (by omega)
   ·exact absurd h5 q0
  ·have e:encQ a0 a1 a2 a3 t o y v l h m=numS a0.toNat++numS a1.toNat++numS a2.toNat++numS a3.toNat++textS t:=by
    unfold encQ
    rw[if_neg h5,app_empty]
    simp only[asc]
   have z:=hs
   rw[e] at z⊢
   simp only[ByteArray.size_append] at z
   exact req_four a0 a1 a2 a3 t o y v l h m w hm h5 _ _ _ _ _ (num_r a0 (by omega)) (num_r a1 p1) (num_r a2 p2) (num_r a3 p3) (text_r t (by omega)) (by omega)
 ·rw [if_neg hm]
  exact req_no a0 a1 a2 a3 t o y v l h m w hm
end Go.Proofs.YtmgmdiekpmffbaaGreatDoor.Enc
namespace Go.Proofs.YtmgmdiekpmffbaaGreatDoor.QWi
open Go Go.RowKit Go.Proofs.YtmgmdiekpmffbaaGreatDoor.Enc
def stanchionref16_Req.f (_:Nat)(a0 a1 a2 a3:Int)(t:ByteArray)(o:Int)(y v l h:ByteArray)(m:Int):Option (ByteArray×Int):=some (if mayQ a0 a1 a2 a3 t o y v l h m then(encQ a0 a1 a2 a3 t o y v l h m,0)else (⟨#[]⟩,1))
theorem stanchionref16_Req.calls (k:Nat)(a0 a1 a2 a3:Int)(t:ByteArray)(o:Int)(y v l h:ByteArray)(m:Int)(r1:ByteArray)(r2:Int)(w:World)(hf:stanchionref16_Req.f k a0 a1 a2 a3 t o y v l h m=some (r1,r2)):Calls Tryz.prog 20 #[.agg #[.int .i64 a0,.int .i64 a1,.int .i64 a2,.int .i64 a3,.string t,.int .i64 o,.string y,.string v,.string l,.string h,.int .i64 m]] w fun e w'=>e= .returned (.tuple #[.string r1,.int .i64 r2])∧Below w.heap.size w w':=by
 have z:=req_calls a0 a1 a2 a3 t o y v l h m w
 rw[Option.some.inj hf] at z
 exact z
end Go.Proofs.YtmgmdiekpmffbaaGreatDoor.QWi
namespace Go.Proofs.YtmgmdiekpmffbaaGreatDoor.Enc
theorem refreq_f (k:Nat)(a0 a1 a2 a3:Int)(t:ByteArray)(o:Int)(y v l h:ByteArray)(m:Int):
  QWi.stanchionref16_Req.f (k+4) a0 a1 a2 a3 t o y v l h m=some (if QWi.mayQ a0 a1 a2 a3 t o y v l h m then(encQ a0 a1 a2 a3 t o y v l h m,0)else (⟨#[]⟩,1)):=rfl
end Go.Proofs.YtmgmdiekpmffbaaGreatDoor.Enc
namespace Go.Proofs.YtmgmdiekpmffbaaGreatDoor.QWi
open Go Go.RowKit Go.Proofs.YtmgmdiekpmffbaaGreatDoorW.PrintWords Go.Proofs.YtmgmdiekpmffbaaGreatDoorW.PrintLast Go.Proofs.YtmgmdiekpmffbaaGreatDoorW.PrintMore Go.Proofs.YtmgmdiekpmffbaaGreatDoor.Top
theorem refmay_good (a0 a1 a2 a3:Int)(a4:ByteArray)(a5:Bool)(A:Option Addr)(c:Nat)(l:List S123)(a7:Bool)(w:World)(hr:Kd.C k123 w A l.length l)(hc:l.length≤c)(h0:0≤a0∧a0≤1073741824)(h1:0≤a1∧a1≤1073741824)(h2:0≤a2∧a2≤1073741824)(h3:0≤a3∧a3≤16)(h4:a4.size≤64)(hl:l.length≤16)(ha:∀x∈l,x.f0.size≤32∧x.f1.size≤64)
  (hR:∀W,Kd.C k123 W A l.length l→Calls Tryz.prog 86 #[.slice A l.length c] W fun e w'=>e= .returned (.bool true)∧Below W.heap.size W w'):
  Calls Tryz.prog 44 #[.agg #[.int .i64 a0,.int .i64 a1,.int .i64 a2,.int .i64 a3,.string a4,.bool a5,.slice A l.length c,.bool a7]] w fun e w'=>e= .returned (.bool true)∧Below w.heap.size w w':=by
 have HS:Hid (∀(x:Int) (W:World),0≤x∧x≤1073741824→Calls Tryz.prog 24 #[.int .i64 x] W fun e w'=>e= .returned (.bool true)∧w'=W):=h_ fun x W h=>by
  have k:=small_calls x W
  rwa [decide_eq_true h] at k
 have c3:decide (a3<0)=false:=decide_eq_false (by omega)
 have d3:decide (16<a3)=false:=decide_eq_false (by omega)
 have c4:decide (64<(a4.size:Int))=false:=decide_eq_false (by omega)
 have d4:decide (64<a4.size)=false:=decide_eq_false (by omega)
 have c5:decide (16<(l.length:Int))=false:=decide_eq_false (by omega)
 have d5:decide (16<l.length)=false:=decide_eq_false (by omega)
 have HH:=h_ (And.intro h0 (And.intro h1 h2))
 have HA:=h_ ha
 have HR:=h_ hr
 have HRT:=h_ hR
 have HL:=h_ hl
 have HC:=h_ hc
 have HB:Hid (Below w.heap.size w w):=h_ (Below.refl _ _)
 clear h0 h1 h2 h3 h4 hl ha hr hR hc
 go_enter Tryz.func44,Tryz.ntmps44
 go_upto_region 1 with(fail)
 refine nm fun w1 hb=>?_
 obtain⟨hz,_,hb,KP⟩:=na1 hb
 replace HR:=h_ (Kd.C_below HR.out hb)
 obtain⟨hz,HB⟩:=m1 hb HB
 have CP:=cells8 KP.out
 go_upto_region 3 with(first
  |(go_at_call 24;refine(HS.out _ _ (by first|exact HH.out.1|exact HH.out.2.1|exact HH.out.2.2)).mono ?_;rintro e w9 ⟨rfl,rfl⟩)
  |(go_at_call 86;refine(HRT.out _ HR.out).mono ?_;rintro e w2 ⟨rfl,hb⟩;have HR2:=h_ (Kd.C_below HR.out hb);obtain⟨hz,KP2,HB2⟩:=m2 hb KP HB;clear CP;have CP:=cells8 KP2.out))
 clear KP HR
 go_wp2
 go_loopg [5] l.length (fun kq v5 w'=>∃i:Nat,v5= .int .i64 i∧Aside0 (kq+i=l.length)∧w'=w2)
 case atStart=>exact⟨0,rfl,⟨by omega⟩,rfl⟩
 case round=>
  obtain⟨i,rfl,HK,rfl⟩:=hrel
  by_cases hi:i<l.length
  ·have c0b:decide ((i:Int)<(l.length:Int))=true:=decide_eq_true (by omega)
   obtain⟨ad,e1,hx0,hx1⟩:=at_T123 HR2.out (i:Int) (by omega) (by omega)
   cases e1
   rw[rd_pair l i hi] at hx0 hx1
   rw[Int.toNat_natCast] at hx0 hx1
   have hp:((0:Int)≤(i:Int))=True:=eq_true (by omega)
   have hq:((i:Int)<(l.length:Int))=True:=eq_true (by omega)
   obtain⟨k1,k2⟩:=HA.out l[i] (List.getElem_mem hi)
   generalize l[i]=x at hx0 hx1 k1 k2
   have e1:decide (32<(x.f0.size:Int))=false:=decide_eq_false (by omega)
   have e2:decide (32<x.f0.size)=false:=decide_eq_false (by omega)
   have e3:decide (64<(x.f1.size:Int))=false:=decide_eq_false (by omega)
   have e4:decide (64<x.f1.size)=false:=decide_eq_false (by omega)
   clear k1 k2
   have hi40:(i:Int)≤1048576:=by have:=HL.out;omega
   go_wp2
   go_roundg (gk - 1)
   case measure=>have:=HK.out;omega
   case rel=>exact⟨i+1,by go_num,⟨by have:=HK.out;omega⟩,rfl⟩
  ·have c0b:decide ((i:Int)<(l.length:Int))=false:=decide_eq_false (by omega)
   go_wp2
   go_ret
   exact⟨rfl,HB2.out⟩
end Go.Proofs.YtmgmdiekpmffbaaGreatDoor.QWi
