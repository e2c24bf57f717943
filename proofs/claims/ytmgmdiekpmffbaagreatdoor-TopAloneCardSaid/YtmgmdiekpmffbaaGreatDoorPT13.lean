/- Part of the proof of the statement TopAlone, as a card; what is proved, and on which condition, stands at the head of YtmgmdiekpmffbaaGreatDoorPT20 (texts TopCom0, TopCom1, TopDel0, TopDel1, TopFeed) -/
import Derived.WalkKit
import Derived.WalkSpells
import Derived.Outline
import Derived.Deep.QuietTactic
import Derived.BigQuiet
import Derived.Deep.LoopGhost
import Derived.Test.YtmgmdiekpmffbaaGreatDoorPT2
import Derived.Test.YtmgmdiekpmffbaaGreatDoorPT3
import Derived.Test.YtmgmdiekpmffbaaGreatDoorPT4
import Derived.Test.YtmgmdiekpmffbaaGreatDoorPT6
import Derived.Test.YtmgmdiekpmffbaaGreatDoorPT8
import Derived.Test.YtmgmdiekpmffbaaGreatDoorPT9
import Derived.Test.YtmgmdiekpmffbaaGreatDoorPT11
import Derived.Test.YtmgmdiekpmffbaaGreatDoorPT12
set_option maxHeartbeats 64000000
set_option maxRecDepth 100000
set_option linter.unusedVariables false
set_option linter.unusedSimpArgs false
namespace Go.Proofs.YtmgmdiekpmffbaaGreatDoor.Top
open Go Go.RowKit Go.Proofs.YtmgmdiekpmffbaaGreatDoor.DecM Go.Proofs.YtmgmdiekpmffbaaGreatDoorW.PrintWords
def okW (x:Wr):Prop:=1≤x.key.size∧x.key.size≤32∧x.val.size≤64∧(x.del=true→x.val=⟨#[]⟩)
theorem clo_may (x:Wr)(w:World)(h:okW x):Calls Tryz.prog 155 #[.agg #[.string x.key,.string x.val,.bool x.del]] w fun e w'=>e= .returned (.bool false)∧Below w.heap.size w w':=by
 obtain⟨h1,h2,h3,h4⟩:=h
 have c1:((x.key.size:Int)<1)=False:=eq_false (by omega)
 have c2:((32:Int)<(x.key.size:Int))=False:=eq_false (by omega)
 have c3:((64:Int)<(x.val.size:Int))=False:=eq_false (by omega)
 have d1:¬((x.key.size:Int)<1):=by omega
 have d2:¬((32:Int)<(x.key.size:Int)):=by omega
 have d3:¬((64:Int)<(x.val.size:Int)):=by omega
 clear h1 h2 h3
 obtain⟨key,val,del⟩:=x
 cases del with
 |true=>
  have e:=h4 rfl
  dsimp only at e
  subst e
  clear h4
  go_enter Tryz.func155,Tryz.ntmps155
  go_wp2
  go_ret
  exact⟨rfl,one _ _⟩
 |false=>
  clear h4
  go_enter Tryz.func155,Tryz.ntmps155
  go_wp2
  go_ret
  exact⟨rfl,one _ _⟩
theorem has_may (v:Value)(l:List Wr)(w:World)(h:Rs tyWr 212 w v l)(hl:l.length≤100000)(hk:∀x∈l,okW x):
  Calls Tryz.prog 156 #[v,.func (.func 155) #[] #[]] w fun e w'=>e= .returned (.bool false)∧Below w.heap.size w w':=by
 have HI:=h_ (index_batch_May1 v l (fun _=>false) w h hl (fun x W hx _=>clo_may x W (hk x hx)))
 rw[idx_none (fun _=>false) l 0 (fun _ _=>rfl)] at HI
 clear h hk
 go_enter Tryz.func156,Tryz.ntmps156
 go_wp2_with fail
 refine HI.out.mono ?_
 rintro e w1 ⟨rfl,hb⟩
 go_wp2
 go_ret
 exact⟨rfl,hb⟩
theorem batch_may (A:Option Addr)(n c:Nat)(l:List Wr)(tok:ByteArray)(w:World)(h:Rs tyWr 212 w (.slice A n c) l)(hl:l.length≤24)(ht1:1≤tok.size)(ht2:tok.size≤16)(hr:Rises l)(hk:∀x∈l,okW x):
  Calls Tryz.prog 108 #[.agg #[.int .i64 1,.string tok,.slice A n c]] w fun e w'=>e= .returned (.bool true)∧Below w.heap.size w w':=by
 obtain rfl:=h.len
 have c1:((tok.size:Int)<1)=False:=eq_false (by omega)
 have c2:((16:Int)<(tok.size:Int))=False:=eq_false (by omega)
 have c3:((24:Int)<(l.length:Int))=False:=eq_false (by omega)
 have d1:¬((tok.size:Int)<1):=by omega
 have d2:¬((16:Int)<(tok.size:Int)):=by omega
 have d3:¬((24:Int)<(l.length:Int)):=by omega
 have HL:=h_ hl
 have HR:=h_ h
 have HS:=h_ hr
 have HK:=h_ hk
 have hk0:(w.alloc (.cells #[.int .i64 1,.string tok,.slice A l.length c] 141)).heap[w.heap.size]? =some (.cells #[.int .i64 1,.string tok,.slice A l.length c] 141 (0,0)):=blk_new' _ _ _ rfl
 have k0':Aside0 ((w.alloc (.cells #[.int .i64 1,.string tok,.slice A l.length c] 141)).heap[w.heap.size]? =some (.cells #[.int .i64 1,.string tok,.slice A l.length c] 141 (0,0))):=⟨hk0⟩
 have b0':Aside0 (Below w.heap.size w (w.alloc (.cells #[.int .i64 1,.string tok,.slice A l.length c] 141))):=⟨one _ _⟩
 clear h hl hr hk hk0 ht1 ht2
 go_enter Tryz.func108,Tryz.ntmps108
 go_wp2
 go_loopg [4] l.length (fun kq v4 w'=>∃j:Nat,v4= .int .i64 ((j+1:Nat):Int)∧Aside0 (kq+j=l.length)∧Aside0 (w'.heap[w.heap.size]? =some (.cells #[.int .i64 1,.string tok,.slice A l.length c] 141 (0,0)))∧Aside0 (Below w.heap.size w w'))
 case atStart=>exact⟨0,rfl,⟨by omega⟩,k0',b0'⟩
 case round=>
  obtain⟨j,rfl,HN,HB,HW⟩:=hrel
  clear b0' k0'
  have CB:=cells3 HB.out
  by_cases hi:j+1<l.length
  ·have c0b:decide (((j+1:Nat):Int)<(l.length:Int))=true:=decide_eq_true (by omega)
   obtain⟨A',c',e1,_,hat⟩:=at_Wr (HR.out.below HW.out)
   cases e1
   obtain⟨ad,e2,hx0,-,-⟩:=hat j (by omega)
   obtain⟨ad',e3,hy0,-,-⟩:=hat (j+1) hi
   subst e2
   obtain rfl:=Option.some.inj e3
   clear hat e3
   have hlt:=List.pairwise_iff_getElem.1 HS.out j (j+1) (by omega) hi (by omega)
   have hw1:IntKind.i64.wrap (((j+1:Nat):Int) - 1)=(j:Int):=by rw[IntKind.wrap_i64];have:=HL.out;omega
   have hp:((0:Int)≤(j:Int))=True:=eq_true (by omega)
   have hq:((j:Int)<(l.length:Int))=True:=eq_true (by omega)
   have hp2:((0:Int)≤((j+1:Nat):Int))=True:=eq_true (by omega)
   have hq2:(((j+1:Nat):Int)<(l.length:Int))=True:=eq_true (by omega)
   have hi40:((j+1:Nat):Int)≤24:=by have:=HL.out;omega
   generalize l[j].key=x at hx0 hlt
   generalize l[j+1].key=y at hy0 hlt
   go_wp2_with fail
   go_quiet (fail)
   go_wp2
   go_roundg (gk - 1)
   case measure=>have:=HN.out;omega
   case rel=>exact⟨j+1,by go_num,⟨by have:=HN.out;omega⟩,⟨bb HB.out (pw_below_drewN (Below.refl _ _) _)⟩,⟨pw_below_drewN HW.out _⟩⟩
  ·have c0b:decide (((j+1:Nat):Int)<(l.length:Int))=false:=decide_eq_false (by omega)
   go_wp2_with fail
   refine(has_may _ l _ (HR.out.below HW.out) (by have:=HL.out;omega) HK.out).mono ?_
   rintro e w3 ⟨rfl,hb⟩
   have HB3:=h_ (below_call HW.out hb)
   clear hb
   go_wp2
   go_ret
   exact⟨rfl,HB3.out⟩
theorem numS_small (n:Nat)(h:n<100):(numS n).size≤3:=by
 unfold numS
 rw[strOfNums_size,List.length_append]
 have:=numL_len 1 n (by omega)
 simp
 omega
theorem blk_low {D g:Nat}{o:Obj}{w w':World}(h:w.heap[g]? =some o)(hb:Below D w w')(hg:g<D):w'.heap[g]? =some o:=(hb.block g hg).trans h
theorem textW_size (t:ByteArray)(h:t.size<100):(Wire.textW t).size≤3+t.size:=by
 unfold Wire.textW
 rw[ByteArray.size_append]
 have:=numS_small t.size h
 omega
def BuiltV (D b n:Nat)(w:World):Prop:=∃bl:List UInt8,bl.length≤n∧Lib.IsBuilder 257 5 D b (Lib.byteCells bl) w
theorem BuiltV.below {D b n:Nat}{w w':World}(h:BuiltV D b n w)(hb:Below w.heap.size w w'):BuiltV D b n w':=by
 obtain⟨bl,h1,h2⟩:=h
 exact⟨bl,h1,Wire.isBuild_below h2 hb⟩
theorem built_write {D b n:Nat}{s:ByteArray}{w:World}(h:BuiltV D b n w)(hn:n≤100000)(hs:s.size≤100000)(hD:D≤w.heap.size):
  Calls Tryz.prog 140 #[.pointer (some ⟨b,0,none⟩),.string s] w fun e w'=>e= .returned (.tuple #[.int .i64 s.size,.nilIface])∧(BuiltV D b (n+s.size) w'∧Below D w w'):=by
 obtain⟨bl,h1,h2⟩:=h
 refine(Build.writeString D b (Lib.byteCells bl) s w h2 (by rw[Wire.cells_len];omega) hD).mono ?_
 rintro e w' ⟨rfl,h4,b4⟩
 rw[Wire.cells_str,←Wire.byteCells_append] at h4
 exact⟨rfl,⟨_,by rw[List.length_append,Wire.byte_len];omega,.inr h4⟩,b4⟩
theorem built_string {D b n:Nat}{w:World}(h:BuiltV D b n w)(hD:D≤w.heap.size):
  Calls Tryz.prog 141 #[.pointer (some ⟨b,0,none⟩)] w fun e w'=>(∃s:ByteArray,e= .returned (.string s)∧s.size≤n)∧Below D w w':=by
 obtain⟨bl,h1,h2⟩:=h
 refine(Wire.string_any D b bl w h2 hD).mono ?_
 rintro e w' ⟨rfl,hb⟩
 exact⟨⟨_,rfl,by simpa [ByteArray.size] using h1⟩,hb⟩
def BytesV (w:World)(en:Ending)(w':World):Prop:=∃s:ByteArray,en= .returned (.tuple #[.string s,.int .i64 0])∧s.size≤2048∧Below w.heap.size w w'
theorem batch_bytes (A:Option Addr)(n c:Nat)(l:List Wr)(tok:ByteArray)(w:World)(h:Rs tyWr 212 w (.slice A n c) l)(hl:l.length≤24)(hz:sizeW l≤512)(ht1:1≤tok.size)(ht2:tok.size≤16)(hr:Rises l)(hk:∀x∈l,okW x):
  Calls Tryz.prog 207 #[.agg #[.int .i64 1,.string tok,.slice A n c]] w (BytesV w):=by
 obtain rfl:=h.len
 have HL:=h_ hl
 have HS:=h_ hz
 have HK:=h_ hk
 have HT:=h_ (And.intro ht1 ht2)
 have HRI:=h_ hr
 have hwr:IntKind.u64.wrap (l.length:Int)=(l.length:Int):=by
  unfold IntKind.wrap
  simp[IntKind.bits,IntKind.signed]
  omega
 have HN1:=h_ (numS_small 1 (by decide))
 have HNL:=h_ (numS_small l.length (by omega))
 have HTW:=h_ (textW_size tok (by omega))
 have hcat1:(9223372036854775807<(numS 1).size+(Wire.textW tok).size)=False:=eq_false (by have:=HN1.out;have:=HTW.out;omega)
 have hcat2:(9223372036854775807<(numS 1).size+(Wire.textW tok).size+(numS l.length).size)=False:=eq_false (by have:=HN1.out;have:=HTW.out;have:=HNL.out;omega)
 clear hl hz hk ht1 ht2 hr
 have HB:Hid (Below w.heap.size w w):=h_ (Below.refl _ _)
 have HR:=h_ h
 clear h
 go_enter Tryz.func207,Tryz.ntmps207
 go_wp2_with fail
 refine(batch_may _ _ _ l tok _ (Rs.below HR.out (below_alloc HB.out _)) HL.out HT.out.1 HT.out.2 HRI.out HK.out).mono ?_
 rintro e w1 ⟨rfl,hb⟩
 obtain⟨hz,_,hb,KB⟩:=na1 hb
 obtain⟨hz,HB⟩:=m1 hb HB
 have HBU0:Hid (BuiltV w1.heap.size w1.heap.size 0 (w1.alloc (.cells #[.pointer none,.slice none 0 0] 257))):=h_ ⟨[],Nat.le_refl _,Lib.fresh_isBuilder _ _ w1⟩
 go_upto_region 4 with(fail)
 refine wp_world fun w2 hW=>?_
 rw[←hW] at HBU0
 have hb:Below w1.heap.size w1 w2:=hW▸one _ _
 clear hW
 obtain⟨hz,KB,HB⟩:=m2 hb KB HB
 have HBU:=HBU0
 clear HBU0
 go_cut [] from 11 (fun wx=>wx.heap[w.heap.size]? =some (.cells #[.int .i64 1,.string tok,.slice A l.length c] 141 (0,0))∧(BuiltV w1.heap.size w1.heap.size 30 wx)∧(w1.heap.size≤wx.heap.size)∧Below w.heap.size w wx)
 case first=>
  refine rg1 KB fun u1 hb hHeld=>?_
  replace HBU:Hid (BuiltV w1.heap.size w1.heap.size 0 u1):=h_ (BuiltV.below HBU.out hb)
  obtain⟨hz,KB,HB⟩:=m2 hb KB HB
  refine t_ 0 ?_
  refine tq 1 (fun _ k=>bq k 0) ?_
  refine t_ 2 ?_
  refine t_ 4 ?_
  refine tq 5 (fun _ k=>bq k 1) ?_
  refine t_ 8 ?_
  refine tq 9 (fun _ k=>bq k 2) ?_
  refine t_ 10 ?_
  refine t_ 11 ?_
  refine rd 3 fun K hK=>?_
  go_simp
  go_at_call 48
  refine(Giv.num_calls 1 _ (by have:=HL.out;omega)).mono ?_
  rintro e w3 ⟨rfl,hb⟩
  replace HBU:Hid (BuiltV w1.heap.size w1.heap.size 0 w3):=h_ (BuiltV.below HBU.out hb)
  obtain⟨hz,KB,HB⟩:=m2 hb KB HB
  refine bk hK KB.out fun hHeld=>?_
  refine rd 6 fun K hK=>?_
  go_simp
  go_at_call 79
  refine(Wire.text_calls tok _ (by have:=HT.out;omega)).mono ?_
  rintro e w4 ⟨rfl,hb⟩
  replace HBU:Hid (BuiltV w1.heap.size w1.heap.size 0 w4):=h_ (BuiltV.below HBU.out hb)
  obtain⟨hz,KB,HB⟩:=m2 hb KB HB
  refine bk hK KB.out fun hHeld=>?_
  refine t_ 7 ?_
  refine rd 12 fun K hK=>?_
  go_simp
  go_at_call 48
  refine(Giv.num_calls l.length _ (by have:=HL.out;omega)).mono ?_
  rintro e w5 ⟨rfl,hb⟩
  replace HBU:Hid (BuiltV w1.heap.size w1.heap.size 0 w5):=h_ (BuiltV.below HBU.out hb)
  obtain⟨hz,KB,HB⟩:=m2 hb KB HB
  refine bk hK KB.out fun hHeld=>?_
  refine t_ 13 ?_
  refine rd 14 fun K hK=>?_
  go_simp
  go_at_call 140
  refine(built_write HBU.out (by omega) (by rw[ByteArray.size_append,ByteArray.size_append];have:=HN1.out;have:=HNL.out;have:=HTW.out;have:=HT.out;omega) (by omega)).mono ?_
  rintro e w106 ⟨rfl,hBU,hb⟩
  have hB:=HB.out.trans (hb.mono (by omega))
  replace KB:=h_ (blk_low KB.out hb (by omega))
  clear HBU
  have HBU:Hid (BuiltV w1.heap.size w1.heap.size 30 w106):=h_ (by obtain⟨bl,h1,h2⟩:=hBU;exact⟨bl,Nat.le_trans h1 (by rw[ByteArray.size_append,ByteArray.size_append];have:=HN1.out;have:=HNL.out;have:=HTW.out;have:=HT.out;omega),h2⟩)
  have HB:=h_ hB
  have hz:=hb.size
  have HZ1:Hid (w1.heap.size≤w106.heap.size):=h_ (by omega)
  clear hBU hB hb
  refine bk hK KB.out fun hHeld=>?_
  refine d_ ?_
  go_wp2_with fail
  go_meet
  exact⟨KB.out,HBU.out,HZ1.out,HB.out⟩
 case rest=>
  rename World=>wc1
  clear KB HB
  obtain⟨kB,p_HBU,p_HZ1,hB⟩:=hcut
  obtain⟨KB,B2lt,B2ne,B2en⟩:=hid_mv kB
  clear kB
  have HBU:=h_ p_HBU
  clear p_HBU
  have HZ1:=h_ p_HZ1
  clear p_HZ1
  have HB:=h_ hB
  have hs2_:=HB.out.size
  clear hB
  go_upto_region 5 with(fail)
  refine nm fun wl hb=>?_
  replace HBU:Hid (BuiltV w1.heap.size w1.heap.size 30 wl):=h_ (BuiltV.below HBU.out hb)
  obtain⟨hz,KB,HB⟩:=m2 hb KB HB
  have CB:=cells3 KB.out
  have hB0:Aside0 (Below w.heap.size w wl):=⟨HB.out⟩
  have hBU0:Aside0 (∃n,n+sizeW (l.drop 0)≤30+9*0+sizeW l∧BuiltV w1.heap.size w1.heap.size n wl):=⟨⟨30,by simp,HBU.out⟩⟩
  have hs1:Aside0 (w1.heap.size≤wl.heap.size):=⟨by have:=HZ1.out;omega⟩
  clear HBU HB KB hz HZ1
  go_wp2
  go_loopg [6,7,29] l.length (fun kq v6 v7 v29 w'=>∃i:Nat,v29= .int .i64 i∧Aside0 (kq+i=l.length)∧Aside0 (∃n,n+sizeW (l.drop i)≤30+9*i+sizeW l∧BuiltV w1.heap.size w1.heap.size n w')∧Aside0 (Below w.heap.size w w')∧Aside0 (w1.heap.size≤w'.heap.size))
  case atStart=>exact⟨0,rfl,⟨by omega⟩,hBU0,hB0,hs1⟩
  case round=>
   obtain⟨i,rfl,HI,HBU,HW,HZ⟩:=hrel
   clear hBU0 hB0 hs1
   by_cases hi:i<l.length
   ·have c0b:decide ((i:Int)<(l.length:Int))=true:=decide_eq_true (by omega)
    obtain⟨A',c',e1,_,hat⟩:=at_Wr (HR.out.below HW.out)
    cases e1
    obtain⟨ad,e2,hx0,hx1,hx2⟩:=hat i hi
    subst e2
    clear hat
    have hp:((0:Int)≤(i:Int))=True:=eq_true (by omega)
    have hq:((i:Int)<(l.length:Int))=True:=eq_true (by omega)
    have hi40:(i:Int)≤24:=by have:=HL.out;omega
    have hsum:=h_ (sizeW_next l i hi)
    have HXS:=h_ (HK.out l[i] (List.getElem_mem hi))
    have HSW:Hid (sizeW (l.drop i)≤1000):=h_ (by obtain⟨n,h1,_⟩:=HBU.out;have:=HS.out;have:=HL.out;omega)
    generalize l[i]=x at hx0 hx1 hx2 hsum HXS
    obtain⟨n,hn,hbu⟩:=HBU.out
    have HBU2:=h_ hbu
    have HN:=h_ hn
    have HZ1:=h_ HZ.out
    have HB:=h_ HW.out
    have HLEN:Hid (n≤1000):=h_ (by have:=HS.out;have:=HL.out;omega)
    clear HBU HW HZ hn hbu
    have HBU:=HBU2
    clear HBU2
    go_upto_region 8 with(fail)
    refine wp_world fun v0 hW=>?_
    have hb:Below wr.heap.size wr v0:=hW▸one _ _
    have kX0:Hid (v0.heap[wr.heap.size]? =some (.cells #[.string x.key,.string x.val,.bool x.del] 212 (0,0))):=h_ (hW▸blk_new' _ _ _ rfl)
    clear hW
    replace HBU:Hid (BuiltV w1.heap.size w1.heap.size n v0):=h_ (BuiltV.below HBU.out hb)
    replace HZ1:Hid (w1.heap.size≤v0.heap.size):=h_ (Nat.le_trans HZ1.out hb.size)
    obtain⟨hz,HB⟩:=m1 hb HB
    have KX:=kX0
    clear kX0
    have CX:=cells3 KX.out
    go_upto_if 34 with(fail)
    go_cut [7,29] from 29 to 46 (fun s7 s29 wx=>∃nn:Nat,s7= .int .u64 nn∧s29= .int .i64 i∧nn≤1∧wx=v0)
    case first=>
     clear CX
     cases hd:x.del with
     |true=>
      go_wp2_with fail
      go_meet
      exact⟨1,rfl,rfl,Nat.le_refl _,rfl⟩
     |false=>
      go_wp2_with fail
      go_meet
      exact⟨0,rfl,rfl,by decide,rfl⟩
    case rest=>
     clear CX
     rename World=>v1
     obtain⟨nn,rfl,rfl,hnn,hwe⟩:=hcut
     have hb:=below_of_eq hwe
     clear hwe
     replace HBU:Hid (BuiltV w1.heap.size w1.heap.size n v1):=h_ (BuiltV.below HBU.out hb)
     replace HZ1:Hid (w1.heap.size≤v1.heap.size):=h_ (Nat.le_trans HZ1.out hb.size)
     obtain⟨hz,KX,HB⟩:=m2 hb KX HB
     have HNN:=h_ (numS_small nn (by omega))
     have HTK:=h_ (textW_size x.key (by have:=HXS.out.2.1;omega))
     have HTV:=h_ (textW_size x.val (by have:=HXS.out.2.2.1;omega))
     have hcat3:(9223372036854775807<(numS nn).size+(Wire.textW x.key).size)=False:=eq_false (by have:=HNN.out;have:=HTK.out;have:=HXS.out.2.1;omega)
     have hcat4:(9223372036854775807<(numS nn).size+(Wire.textW x.key).size+(Wire.textW x.val).size)=False:=eq_false (by have:=HNN.out;have:=HTK.out;have:=HTV.out;have:=HXS.out.2.1;have:=HXS.out.2.2.1;omega)
     go_upto_region 11 with(fail)
     refine nm fun v2 hb=>?_
     replace HBU:Hid (BuiltV w1.heap.size w1.heap.size n v2):=h_ (BuiltV.below HBU.out hb)
     replace HZ1:Hid (w1.heap.size≤v2.heap.size):=h_ (Nat.le_trans HZ1.out hb.size)
     obtain⟨hz,KX,HB⟩:=m2 hb KX HB
     refine rl1 10 KX fun u21 hb=>?_
     replace HBU:Hid (BuiltV w1.heap.size w1.heap.size n u21):=h_ (BuiltV.below HBU.out hb)
     replace HZ1:Hid (w1.heap.size≤u21.heap.size):=h_ (Nat.le_trans HZ1.out hb.size)
     obtain⟨hz,KX,HB⟩:=m2 hb KX HB
     refine l_ 0 (.inr KX.out) ?_
     refine l_ 2 (.inr KX.out) ?_
     refine lqC 3 [4,8,10] (fun _ k=>bq k 0) KX.out ?_
     refine l_ 6 (.inr KX.out) ?_
     refine lqC 7 [8,10] (fun _ k=>bq k 1) KX.out ?_
     refine ld 1 fun K hK=>?_
     go_simp
     go_at_call 48
     refine(Giv.num_calls nn _ (by have:=HL.out;omega)).mono ?_
     rintro e v3 ⟨rfl,hb⟩
     replace HBU:Hid (BuiltV w1.heap.size w1.heap.size n v3):=h_ (BuiltV.below HBU.out hb)
     replace HZ1:Hid (w1.heap.size≤v3.heap.size):=h_ (Nat.le_trans HZ1.out hb.size)
     obtain⟨hz,KX,HB⟩:=m2 hb KX HB
     refine b_ hK (.inr KX.out) ?_
     refine ld 4 fun K hK=>?_
     go_simp
     go_at_call 79
     refine(Wire.text_calls x.key _ (by have:=HXS.out.2.1;have:=HXS.out.2.2.1;omega)).mono ?_
     rintro e v4 ⟨rfl,hb⟩
     replace HBU:Hid (BuiltV w1.heap.size w1.heap.size n v4):=h_ (BuiltV.below HBU.out hb)
     replace HZ1:Hid (w1.heap.size≤v4.heap.size):=h_ (Nat.le_trans HZ1.out hb.size)
     obtain⟨hz,KX,HB⟩:=m2 hb KX HB
     refine b_ hK (.inr KX.out) ?_
     refine l_ 5 (.inr KX.out) ?_
     refine ld 8 fun K hK=>?_
     go_simp
     go_at_call 79
     refine(Wire.text_calls x.val _ (by have:=HXS.out.2.1;have:=HXS.out.2.2.1;omega)).mono ?_
     rintro e v5 ⟨rfl,hb⟩
     replace HBU:Hid (BuiltV w1.heap.size w1.heap.size n v5):=h_ (BuiltV.below HBU.out hb)
     replace HZ1:Hid (w1.heap.size≤v5.heap.size):=h_ (Nat.le_trans HZ1.out hb.size)
     obtain⟨hz,KX,HB⟩:=m2 hb KX HB
     refine b_ hK (.inr KX.out) ?_
     refine l_ 9 (.inr KX.out) ?_
     refine ld 10 fun K hK=>?_
     go_simp
     go_at_call 140
     refine(built_write HBU.out (by have:=HLEN.out;omega) (by rw[ByteArray.size_append,ByteArray.size_append];have:=HNN.out;have:=HTK.out;have:=HTV.out;have:=HXS.out.2.1;have:=HXS.out.2.2.1;omega) (by have:=HZ1.out;omega)).mono ?_
     rintro e w147 ⟨rfl,hBU,hb⟩
     have hB:=HB.out.trans (hb.mono (by omega))
     clear KX
     clear HBU
     have HBU:Hid (BuiltV w1.heap.size w1.heap.size (n+(9+x.key.size+x.val.size)) w147):=h_ (by obtain⟨bl,h1,h2⟩:=hBU;exact⟨bl,Nat.le_trans h1 (by rw[ByteArray.size_append,ByteArray.size_append];have:=HNN.out;have:=HTK.out;have:=HTV.out;have:=HXS.out.2.1;have:=HXS.out.2.2.1;omega),h2⟩)
     have HB:=h_ hB
     have hz:=hb.size
     replace HZ1:Hid (w1.heap.size≤w147.heap.size):=h_ (Nat.le_trans HZ1.out hz)
     clear hBU hB hb
     refine b_ hK (.inl (by kernel_rfl)) ?_
     refine dl ?_
     go_wp2
     go_roundg (gk - 1)
     case measure=>have:=HI.out;omega
     case rel=>exact⟨i+1,by go_num,⟨by have:=HI.out;omega⟩,⟨⟨_,by have:=HN.out;have:=hsum.out;omega,HBU.out⟩⟩,⟨HB.out⟩,⟨HZ1.out⟩⟩
   ·have c0b:decide ((i:Int)<(l.length:Int))=false:=decide_eq_false (by omega)
    have HB:=h_ HW.out
    have HZ1:=h_ HZ.out
    obtain⟨n,hn,hbu⟩:=HBU.out
    have HN:Hid (n≤2048):=h_ (by have:=HS.out;have:=HL.out;have:=HI.out;omega)
    have HBU2:=h_ hbu
    clear HBU HW HZ hn hbu
    go_wp2_with fail
    refine(built_string HBU2.out HZ1.out).mono ?_
    rintro e w9 ⟨⟨s,rfl,hs⟩,hb⟩
    have HF:Hid (BytesV w (.returned (.tuple #[.string s,.int .i64 0])) w9):=h_ ⟨s,rfl,Nat.le_trans hs HN.out,HB.out.trans (hb.mono (by omega))⟩
    clear hs hb
    go_wp2
    go_ret2
    exact HF.out
end Go.Proofs.YtmgmdiekpmffbaaGreatDoor.Top
namespace Go.Proofs.YtmgmdiekpmffbaaGreatDoor.Top
open Go Go.RowKit Go.Proofs.YtmgmdiekpmffbaaGreatDoor.DecM Go.Proofs.YtmgmdiekpmffbaaGreatDoor.SumM Go.Proofs.YtmgmdiekpmffbaaGreatDoorW.PrintWords
def DoV (tok:ByteArray)(w:World)(en:Ending)(w':World):Prop:=∃D dn dc K kc,en= .returned (.tuple #[.agg #[.slice D dn dc,.slice K 1 kc],.int .i64 0])∧Rs tyPr 123 w' (.slice K 1 kc) [⟨tok,⟨#[99]⟩⟩]∧Below w.heap.size w w'
theorem batch_do (A:Option Addr)(n c:Nat)(l:List Wr)(tok:ByteArray)(w:World)(h:Rs tyWr 212 w (.slice A n c) l)(hl:l.length≤24)(hz:sizeW l≤512)(ht1:1≤tok.size)(ht2:tok.size≤16)(hr:Rises l)(hk:∀x∈l,okW x):
  Calls Tryz.prog 58 #[.agg #[.slice none 0 0,.slice none 0 0],.agg #[.int .i64 1,.string tok,.slice A n c]] w (DoV tok w):=by
 have HL:=h_ hl
 have HKW:=h_ hk
 have HT:=h_ (And.intro ht1 ht2)
 have HRI:=h_ hr
 clear hl hz hk ht1 ht2 hr
 have HB:Hid (Below w.heap.size w w):=h_ (Below.refl _ _)
 have HR:=h_ h
 clear h
 go_enter Tryz.func58,Tryz.ntmps58
 go_wp2_with fail
 refine(batch_may _ _ _ l tok _ (Rs.below HR.out (below_alloc (below_alloc (below_alloc HB.out _) _) _)) HL.out HT.out.1 HT.out.2 HRI.out HKW.out).mono ?_
 rintro e w1 ⟨rfl,hb⟩
 have kS:=hid_mv (show w1.heap[w.heap.size]? =some (.cells #[.slice none 0 0,.slice none 0 0] 33 (0,0))from bb (bb (bb (blk_new' _ _ _ (by simp)) (one _ _)) (one _ _)) hb)
 have kB:=hid_mv (show w1.heap[w.heap.size+1]? =some (.cells #[.int .i64 1,.string tok,.slice A n c] 141 (0,0))from bb (bb (blk_new' _ _ _ (by simp)) (one _ _)) hb)
 have kQ:=hid_mv (show w1.heap[w.heap.size+1+1]? =some (.cells #[.slice none 0 0,.slice none 0 0] 33 (0,0))from bb (blk_new' _ _ _ (by simp)) hb)
 have hz:=(hb).size
 skip
 obtain⟨KS,S0lt,S0ne,S0en⟩:=kS
 obtain⟨KB,B0lt,B0ne,B0en⟩:=kB
 obtain⟨KQ,Q0lt,Q0ne,Q0en⟩:=kQ
 replace HB:=h_ (below_call (below_alloc (below_alloc (below_alloc HB.out _) _) _) hb)
 have hs0_:=HB.out.size
 clear hb
 go_upto_region 3 with(fail)
 refine nm fun w2 hb=>?_
 obtain⟨hz,KS,KB,KQ,HB⟩:=m4 hb KS KB KQ HB
 have CS:=cells2 KS.out
 have CB:=cells3 KB.out
 go_wp2_with fail
 refine(batch_decided0 _ _ _ tok _).mono ?_
 rintro e w3 ⟨rfl,hb⟩
 clear CS CB
 obtain⟨hz,KS,KB,KQ,HB⟩:=m4 hb KS KB KQ HB
 have CB:=cells3 KB.out
 go_upto_region 9 with(fail)
 refine nm fun w4 hb=>?_
 clear CB
 obtain⟨hz,KS,KB,KQ,HB⟩:=m4 hb KS KB KQ HB
 refine rg2 KS KB fun u1 hb hHeld=>?_
 obtain⟨hz,KS,KB,KQ,HB⟩:=m4 hb KS KB KQ HB
 refine t_ 0 ?_
 refine tq 1 (fun _ k=>bq k.1 0) ?_
 refine t_ 2 ?_
 refine tq 3 (fun _ k=>bq k.2 2) ?_
 refine t_ 5 ?_
 refine tq 6 (fun _ k=>bq k.1 1) ?_
 refine t_ 7 ?_
 refine tq 8 (fun _ k=>bq k.2 1) ?_
 refine t_ 9 ?_
 refine rd 4 fun K hK=>?_
 go_simp
 go_at_call 110
 refine(table_apply _ l _ (Rs.below HR.out HB.out) (by have:=HL.out;omega) HRI.out).mono ?_
 rintro e w5 ⟨v9,rfl,hR,hb⟩
 obtain⟨D9,dc9,rfl,-⟩:=hR.slice
 clear hR
 obtain⟨hz,KS,KB,KQ,HB⟩:=m4 hb KS KB KQ HB
 refine bk hK ⟨KS.out,KB.out⟩ fun hHeld=>?_
 refine rd 10 fun K hK=>?_
 go_simp
 go_at_call 111
 refine(table_put _ [] tok ⟨#[99]⟩ _ (Rs.nil _ _ _) (by decide) (by intro y hy;cases hy) (by intro y hy;cases hy)).mono ?_
 rintro e w6 ⟨v8,rfl,hR,hb⟩
 obtain⟨K9,kc9,rfl,-⟩:=hR.slice
 have HK9:Hid (Rs tyPr 123 w6 (.slice K9 1 kc9) [⟨tok,⟨#[99]⟩⟩]):=h_ hR
 clear hR
 have HK_:=HK9
 clear HK9
 obtain⟨hz,KS,KB,KQ,HB⟩:=m4 hb KS KB KQ HB
 have HK:=HK_
 clear HK_
 refine bk hK ⟨KS.out,KB.out⟩ fun hHeld=>?_
 refine t_ 11 ?_
 refine rd 12 fun K hK=>?_
 refine sm 0 [.slice D9 (applied l).length dc9,.slice K9 1 kc9] KQ fun u2 ho kQ=>?_
 obtain⟨hz,KS,KB,HK,HB⟩:=o4 ho KS KB HK HB
 replace KQ:=kQ
 clear kQ
 refine bk hK ⟨KS.out,KB.out⟩ fun hHeld=>?_
 refine t_ 13 ?_
 refine d_ ?_
 go_wp2
 refine bodyPost_ret (res_cell_tmp (cs:=#[.slice D9 (applied l).length dc9,.slice K9 1 kc9]) Tryz.results58 rfl KQ.out Tryz.underlying33 rfl (by kernel_rfl)) rfl ⟨_,_,_,_,_,rfl,HK.out,HB.out⟩
theorem kv_fails (w:World):Calls Tryz.prog 209 #[.int .i64 0] w fun e w'=>e= .returned .nilIface∧w'=w:=by
 go_enter Tryz.func209,Tryz.ntmps209
 go_wp2
 go_ret
 exact⟨rfl,rfl⟩
def AppV (w:World)(en:Ending)(w':World):Prop:=∃A n c r s,en= .returned (.tuple #[.agg #[.slice A n c,.int .i64 (r),.int .i64 (-1),.bool false],.int .i64 0])∧Rs tyFl 129 w' (.slice A n c) [eFile,⟨w1S,⟨#[]⟩,s⟩]∧s.size≤5000∧Below w.heap.size w w'
theorem append_e (V:Option Addr)(vn vc:Nat)(room:Int)(s:ByteArray)(w:World)(h:Rs tyFl 129 w (.slice V vn vc) [eFile])(hs:s.size≤2100)(h0:2200≤room)(h1:room≤1000000):
  Calls Tryz.prog 51 #[.agg #[.slice V vn vc,.int .i64 room,.int .i64 (-1),.bool false],.string w1S,.string s] w (AppV w):=
 (disk_append V vn vc [eFile] room w1S s w h (by decide) (by intro x hx;rw[List.mem_singleton.1 hx];exact sq_e_w1) (by decide) (by decide) (by omega) (by omega) h1).mono fun e w' ⟨A,n,c,h1,h2,h3⟩=>⟨A,n,c,_,s,h1,h2,by omega,h3⟩
def WPutV (w:World)(en:Ending)(w':World):Prop:=∃A n c r s,en= .returned (.tuple #[.agg #[.slice A n c,.int .i64 (r),.int .i64 (-1),.bool false],.int .i64 1,.int .i64 0])∧Rs tyFl 129 w' (.slice A n c) [eFile,⟨w1S,⟨#[]⟩,s⟩]∧s.size≤5000∧Below w.heap.size w w'
theorem wal_put (V:Option Addr)(vn vc:Nat)(room:Int)(s:ByteArray)(w:World)(h:Rs tyFl 129 w (.slice V vn vc) [eFile])(hs:s.size≤2048)(h0:2200≤room)(h1:room≤1000000):
  Calls Tryz.prog 208 #[.agg #[.slice V vn vc,.int .i64 (room),.int .i64 (-1),.bool false],.int .i64 1,.string s] w (WPutV w):=by
 have c1:decide ((2048:Int)<(s.size:Int))=false:=decide_eq_false (by omega)
 have HS:=h_ hs
 clear hs
 have HB:Hid (Below w.heap.size w w):=h_ (Below.refl _ _)
 have HR:=h_ h
 clear h
 go_enter Tryz.func208,Tryz.ntmps208
 go_wp2_with fail
 refine(wal_may 1 _ (by decide) (by decide)).mono ?_
 rintro e w1 ⟨rfl,rfl⟩
 go_upto_region 5 with(fail)
 refine nm fun w2 hb=>?_
 obtain⟨hz,_,hb,KD,KQ⟩:=na2 hb
 obtain⟨hz,HB⟩:=m1 hb HB
 refine rg1 KD fun u1 hb hHeld=>?_
 obtain⟨hz,KD,KQ,HB⟩:=m3 hb KD KQ HB
 refine tl 0 0 4 (fun _ k=>k) Tryz.underlying28 ?_
 refine t_ 1 ?_
 refine rd 2 fun K hK=>?_
 go_simp
 go_at_call 103
 refine(wal_name _).mono ?_
 rintro e w3 ⟨rfl,hb⟩
 obtain⟨hz,KD,KQ,HB⟩:=m3 hb KD KQ HB
 refine bk hK KD.out fun hHeld=>?_
 refine rd 3 fun K hK=>?_
 go_simp
 go_at_call 45
 refine(disk_read_miss _ [eFile] room w1S _ (Rs.below HR.out HB.out) (by decide) no_w1).mono ?_
 rintro e w4 ⟨rfl,hb⟩
 obtain⟨hz,KD,KQ,HB⟩:=m3 hb KD KQ HB
 refine bk hK KD.out fun hHeld=>?_
 refine t_ 4 ?_
 refine t_ 5 ?_
 refine t_ 6 ?_
 refine t_ 7 ?_
 refine t_ 8 ?_
 refine d_ ?_
 go_upto_region 13 with(fail)
 refine nm fun w5 hb=>?_
 obtain⟨hz,KD,KQ,HB⟩:=m3 hb KD KQ HB
 refine rl1 9 KD fun u2 hb=>?_
 obtain⟨hz,KD,KQ,HB⟩:=m3 hb KD KQ HB
 refine ll 0 0 4 (fun _ k=>k) KD.out Tryz.underlying28 ?_
 refine l_ 1 (.inr KD.out) ?_
 refine l_ 3 (.inr KD.out) ?_
 refine ld 2 fun K hK=>?_
 go_simp
 go_at_call 103
 refine(wal_name _).mono ?_
 rintro e w6 ⟨rfl,hb⟩
 obtain⟨hz,KD,KQ,HB⟩:=m3 hb KD KQ HB
 refine b_ hK (.inr KD.out) ?_
 refine ld 4 fun K hK=>?_
 go_simp
 go_at_call 47
 refine(seal_calls s _ (by have:=HS.out;omega)).mono ?_
 rintro e w7 ⟨rfl,hb⟩
 obtain⟨hz,KD,KQ,HB⟩:=m3 hb KD KQ HB
 refine b_ hK (.inr KD.out) ?_
 refine ld 5 fun K hK=>?_
 go_simp
 go_at_call 51
 refine(append_e V vn vc room (sealS s) _ (Rs.below HR.out HB.out) (by have:=sealS_size s (by have:=HS.out;omega);have:=HS.out;omega) h0 h1).mono ?_
 rintro e w8 ⟨A3,n3,c3,r3,s3,rfl,hR,hs3,hb⟩
 have HR3:=h_ hR
 have HS5:=h_ hs3
 clear hR hs3
 obtain⟨hz,KD,KQ,HB⟩:=m3 hb KD KQ HB
 refine b_ hK (.inr KD.out) ?_
 refine l_ 6 (.inr KD.out) ?_
 refine l_ 7 (.inr KD.out) ?_
 refine l_ 8 (.inr KD.out) ?_
 refine ld 9 fun K hK=>?_
 refine sm 0 [.slice A3 n3 c3,.int .i64 (r3),.int .i64 (-1),.bool false] KD fun u3 ho kD=>?_
 obtain⟨hz,KQ,HR3,HB⟩:=o3 ho KQ HR3 HB
 replace KD:=kD
 clear kD
 refine b_ hK (.inl (by kernel_rfl)) ?_
 refine l_ 10 (.inl (by kernel_rfl)) ?_
 refine dl ?_
 go_upto_region 14 with(fail)
 refine nm fun w9 hb=>?_
 obtain⟨hz,KD,KQ,HR3,HB⟩:=m4 hb KD KQ HR3 HB
 have CD:=cells4 KD.out
 have CQ:=cells4 KQ.out
 go_wp2
 refine bodyPost_ret (res_cell_tmp2 (cs:=#[.slice A3 n3 c3,.int .i64 (r3),.int .i64 (-1),.bool false]) Tryz.results208 rfl (blk_put KQ.out 0 [.slice A3 n3 c3,.int .i64 (r3),.int .i64 (-1),.bool false] (Nat.le_of_ble_eq_true rfl)) Tryz.underlying28 rfl (by kernel_rfl)) rfl ⟨_,_,_,_,_,rfl,(Rs.puts HR3.out KQ.out (by decide) 0 [.slice A3 n3 c3,.int .i64 (r3),.int .i64 (-1),.bool false]),HS5.out,(below_puts HB.out (w.heap.size+1) (by omega) 0 [.slice A3 n3 c3,.int .i64 (r3),.int .i64 (-1),.bool false])⟩
def WSyncV (room:Int)(w:World)(en:Ending)(w':World):Prop:=∃A n c,en= .returned (.tuple #[.agg #[.slice A n c,.int .i64 (room),.int .i64 (-1),.bool false],.int .i64 0])∧Below w.heap.size w w'
theorem wal_sync (V:Option Addr)(vn vc:Nat)(room:Int)(s:ByteArray)(w:World)(h:Rs tyFl 129 w (.slice V vn vc) [eFile,⟨w1S,⟨#[]⟩,s⟩])(hs:s.size≤5000):
  Calls Tryz.prog 211 #[.agg #[.slice V vn vc,.int .i64 (room),.int .i64 (-1),.bool false],.int .i64 1] w (WSyncV room w):=by
 have HS:=h_ hs
 have HX:Hid (idx (fun x:Fl=>sq x.name w1S) [eFile,⟨w1S,⟨#[]⟩,s⟩] 0=((1:Nat):Int)):=h_ (idx_snoc (fun x:Fl=>sq x.name w1S) [eFile] ⟨w1S,⟨#[]⟩,s⟩ 0 (by intro x hx;rw[List.mem_singleton.1 hx];exact sq_e_w1) (sq_self w1S))
 clear hs
 have HB:Hid (Below w.heap.size w w):=h_ (Below.refl _ _)
 have HR:=h_ h
 clear h
 go_enter Tryz.func211,Tryz.ntmps211
 go_upto_region 1 with(fail)
 refine nm fun w2 hb=>?_
 obtain⟨hz,_,hb,KD,KQ⟩:=na2 hb
 obtain⟨hz,HB⟩:=m1 hb HB
 go_cut [6,7] from 8 (fun s6 s7 wx=>∃n_FL,s6= .pointer (some ⟨n_FL,0,none⟩)∧s7= .bool true∧wx.heap[w.heap.size]? =some (.cells #[.slice V vn vc,.int .i64 (room),.int .i64 (-1),.bool false] 28 (0,0))∧wx.heap[w.heap.size+1]? =some (.cells #[.slice none 0 0,.int .i64 0,.int .i64 0,.bool false] 28 (0,0))∧wx.heap[n_FL]? =some (.cells #[.string w1S,.string ⟨#[]⟩,.string s] 129 (0,0))∧w2.heap.size≤n_FL∧Below w.heap.size w wx)
 case first=>
  refine rg1 KD fun u1 hb hHeld=>?_
  obtain⟨hz,KD,KQ,HB⟩:=m3 hb KD KQ HB
  refine tl 0 0 4 (fun _ k=>k) Tryz.underlying28 ?_
  refine t_ 1 ?_
  refine wpAnyH_ready (rs:= [2,7]) (by kernel_rfl) (by simp) ?_
  refine AllReadyH.cons rfl (fun K hK=>?_) ?_
  ·go_simp
   go_at_call 103
   refine(wal_name _).mono ?_
   rintro e w3 ⟨rfl,hb⟩
   obtain⟨hz,KD,KQ,HB⟩:=m3 hb KD KQ HB
   refine bk hK KD.out fun hHeld=>?_
   refine wpAnyH_ready (rs:= [3,7]) (by kernel_rfl) (by simp) ?_
   refine AllReadyH.cons rfl (fun K hK=>?_) ?_
   ·go_simp
    go_at_call 49
    refine(disk_find_hit _ [eFile,⟨w1S,⟨#[]⟩,s⟩] room w1S 1 ⟨w1S,⟨#[]⟩,s⟩ _ (Rs.below HR.out HB.out) (by simp) rfl HX.out).mono ?_
    rintro e w4 ⟨rfl,hb⟩
    obtain⟨hz,KD,KQ,HB⟩:=m3 hb KD KQ HB
    refine bk hK KD.out fun hHeld=>?_
    refine t_ 4 ?_
    refine t_ 5 ?_
    refine t_ 6 ?_
    refine rd 7 fun K hK=>?_
    go_simp
    refine na fun u2 hb KFL=>?_
    obtain⟨hz,KD,KQ,HB⟩:=m3 hb KD KQ HB
    have FLlt:=blk_lt KFL.out
    refine bk hK KD.out fun hHeld=>?_
    refine rd 8 fun K hK=>?_
    refine sm 0 [.string w1S,.string ⟨#[]⟩,.string s] KFL fun u3 ho kFL=>?_
    obtain⟨hz,KD,KQ,HB⟩:=o3 ho KD KQ HB
    replace KFL:=kFL
    clear kFL
    refine bk hK KD.out fun hHeld=>?_
    refine t_ 9 ?_
    refine d_ ?_
    go_wp2_with fail
    go_meet
    exact⟨w4.heap.size,rfl,rfl,KD.out,KQ.out,KFL.out,by omega,HB.out⟩
   refine AllReadyH.cons rfl (fun K hK=>?_) AllReadyH.nil
   go_simp
   refine na fun u4 hb KFL=>?_
   obtain⟨hz,KD,KQ,HB⟩:=m3 hb KD KQ HB
   have FLlt:=blk_lt KFL.out
   refine bk hK KD.out fun hHeld=>?_
   refine rd 3 fun K hK=>?_
   go_simp
   go_at_call 49
   refine(disk_find_hit _ [eFile,⟨w1S,⟨#[]⟩,s⟩] room w1S 1 ⟨w1S,⟨#[]⟩,s⟩ _ (Rs.below HR.out HB.out) (by simp) rfl HX.out).mono ?_
   rintro e w4 ⟨rfl,hb⟩
   obtain⟨hz,KD,KQ,KFL,HB⟩:=m4 hb KD KQ KFL HB
   refine bk hK KD.out fun hHeld=>?_
   refine t_ 4 ?_
   refine t_ 5 ?_
   refine t_ 6 ?_
   refine rd 8 fun K hK=>?_
   refine sm 0 [.string w1S,.string ⟨#[]⟩,.string s] KFL fun u5 ho kFL=>?_
   obtain⟨hz,KD,KQ,HB⟩:=o3 ho KD KQ HB
   replace KFL:=kFL
   clear kFL
   refine bk hK KD.out fun hHeld=>?_
   refine t_ 9 ?_
   refine d_ ?_
   go_wp2_with fail
   go_meet
   exact⟨w3.heap.size,rfl,rfl,KD.out,KQ.out,KFL.out,by omega,HB.out⟩
  refine AllReadyH.cons rfl (fun K hK=>?_) AllReadyH.nil
  go_simp
  refine na fun u6 hb KFL=>?_
  obtain⟨hz,KD,KQ,HB⟩:=m3 hb KD KQ HB
  have FLlt:=blk_lt KFL.out
  refine bk hK KD.out fun hHeld=>?_
  refine rd 2 fun K hK=>?_
  go_simp
  go_at_call 103
  refine(wal_name _).mono ?_
  rintro e w3 ⟨rfl,hb⟩
  obtain⟨hz,KD,KQ,KFL,HB⟩:=m4 hb KD KQ KFL HB
  refine bk hK KD.out fun hHeld=>?_
  refine rd 3 fun K hK=>?_
  go_simp
  go_at_call 49
  refine(disk_find_hit _ [eFile,⟨w1S,⟨#[]⟩,s⟩] room w1S 1 ⟨w1S,⟨#[]⟩,s⟩ _ (Rs.below HR.out HB.out) (by simp) rfl HX.out).mono ?_
  rintro e w4 ⟨rfl,hb⟩
  obtain⟨hz,KD,KQ,KFL,HB⟩:=m4 hb KD KQ KFL HB
  refine bk hK KD.out fun hHeld=>?_
  refine t_ 4 ?_
  refine t_ 5 ?_
  refine t_ 6 ?_
  refine rd 8 fun K hK=>?_
  refine sm 0 [.string w1S,.string ⟨#[]⟩,.string s] KFL fun u7 ho kFL=>?_
  obtain⟨hz,KD,KQ,HB⟩:=o3 ho KD KQ HB
  replace KFL:=kFL
  clear kFL
  refine bk hK KD.out fun hHeld=>?_
  refine t_ 9 ?_
  refine d_ ?_
  go_wp2_with fail
  go_meet
  exact⟨u1.heap.size,rfl,rfl,KD.out,KQ.out,KFL.out,by omega,HB.out⟩
 case rest=>
  rename World=>wc1
  clear KD KQ HB
  obtain⟨n_FL,rfl,rfl,kD,kQ,kFL,FLge,hB⟩:=hcut
  obtain⟨KD,D1lt,D1ne,D1en⟩:=hid_mv kD
  clear kD
  obtain⟨KQ,Q1lt,Q1ne,Q1en⟩:=hid_mv kQ
  clear kQ
  obtain⟨KFL,FL1lt,FL1ne,FL1en⟩:=hid_mv kFL
  clear kFL
  have HB:=h_ hB
  have hs1_:=HB.out.size
  clear hB
  go_upto_region 4 with(fail)
  refine nm fun w5 hb=>?_
  obtain⟨hz,KD,KQ,KFL,HB⟩:=m4 hb KD KQ KFL HB
  refine rg1 KD fun u8 hb hHeld=>?_
  obtain⟨hz,KD,KQ,KFL,HB⟩:=m4 hb KD KQ KFL HB
  refine tl 0 0 4 (fun _ k=>k) Tryz.underlying28 ?_
  refine t_ 1 ?_
  refine rd 2 fun K hK=>?_
  go_simp
  go_at_call 103
  refine(wal_name _).mono ?_
  rintro e w6 ⟨rfl,hb⟩
  obtain⟨hz,KD,KQ,KFL,HB⟩:=m4 hb KD KQ KFL HB
  refine bk hK KD.out fun hHeld=>?_
  refine rd 3 fun K hK=>?_
  go_simp
  go_at_call 52
  refine(disk_sync V vn vc [eFile,⟨w1S,⟨#[]⟩,s⟩] room w1S 1 ⟨w1S,⟨#[]⟩,s⟩ _ (Rs.below HR.out HB.out) (by simp) rfl HX.out (Nat.zero_le _) (by have:=HS.out;show s.size≤100000;omega)).mono ?_
  rintro e w7 ⟨A3,n3,c3,rfl,-,hb⟩
  obtain⟨hz,KD,KQ,KFL,HB⟩:=m4 hb KD KQ KFL HB
  refine bk hK KD.out fun hHeld=>?_
  refine t_ 4 ?_
  refine t_ 5 ?_
  refine rd 6 fun K hK=>?_
  refine sm 0 [.slice A3 n3 c3,.int .i64 (room),.int .i64 (-1),.bool false] KQ fun u9 ho kQ=>?_
  obtain⟨hz,KD,KFL,HB⟩:=o3 ho KD KFL HB
  replace KQ:=kQ
  clear kQ
  refine bk hK KD.out fun hHeld=>?_
  refine t_ 7 ?_
  refine d_ ?_
  go_wp2
  refine bodyPost_ret (res_cell_tmp (cs:=#[.slice A3 n3 c3,.int .i64 (room),.int .i64 (-1),.bool false]) Tryz.results211 rfl KQ.out Tryz.underlying28 rfl (by kernel_rfl)) rfl ⟨_,_,_,rfl,HB.out⟩
def ComV (tok:ByteArray)(w:World)(en:Ending)(w':World):Prop:=∃V vn vc r D dn dc K kc,en= .returned (.tuple #[.agg #[.slice V vn vc,.int .i64 (r),.int .i64 (-1),.bool false,.int .i64 1,.int .i64 1,.int .i64 0,.slice D dn dc,.slice K 1 kc,.bool false],.int .i64 0])∧Rs tyPr 123 w' (.slice K 1 kc) [⟨tok,⟨#[99]⟩⟩]∧Below w.heap.size w w'
theorem kv_commit (V:Option Addr)(vn vc:Nat)(room:Int)(A:Option Addr)(n c:Nat)(l:List Wr)(tok:ByteArray)(w:World)(hV:Rs tyFl 129 w (.slice V vn vc) [eFile])(h:Rs tyWr 212 w (.slice A n c) l)(hl:l.length≤24)(hz:sizeW l≤512)(ht1:1≤tok.size)(ht2:tok.size≤16)(hr:Rises l)(hk:∀x∈l,okW x)(h0:2200≤room)(h1:room≤1000000):
  Calls Tryz.prog 181 #[.agg #[.slice V vn vc,.int .i64 (room),.int .i64 (-1),.bool false,.int .i64 1,.int .i64 1,.int .i64 0,.slice none 0 0,.slice none 0 0,.bool false],.agg #[.int .i64 1,.string tok,.slice A n c]] w (ComV tok w):=by
 have HH:Hid (l.length≤24∧sizeW l≤512∧1≤tok.size∧tok.size≤16∧Rises l∧∀x∈l,okW x):=h_ ⟨hl,hz,ht1,ht2,hr,hk⟩
 clear hl hz ht1 ht2 hr hk
 have HB:Hid (Below w.heap.size w w):=h_ (Below.refl _ _)
 have HF:=h_ hV
 clear hV
 have HR:=h_ h
 clear h
 go_enter Tryz.func181,Tryz.ntmps181
 go_wp2_with fail
 refine(batch_bytes _ _ _ l tok _ (Rs.below HR.out (below_alloc (below_alloc (below_alloc HB.out _) _) _)) HH.out.1 HH.out.2.1 HH.out.2.2.1 HH.out.2.2.2.1 HH.out.2.2.2.2.1 HH.out.2.2.2.2.2).mono ?_
 rintro e w1 ⟨s,rfl,hs,hb⟩
 have HS:=h_ hs
 clear hs
 have kX:=hid_mv (show w1.heap[w.heap.size]? =some (.cells #[.slice V vn vc,.int .i64 (room),.int .i64 (-1),.bool false,.int .i64 1,.int .i64 1,.int .i64 0,.slice none 0 0,.slice none 0 0,.bool false] 35 (0,0))from bb (bb (bb (blk_new' _ _ _ (by simp)) (one _ _)) (one _ _)) hb)
 have kB:=hid_mv (show w1.heap[w.heap.size+1]? =some (.cells #[.int .i64 1,.string tok,.slice A n c] 141 (0,0))from bb (bb (blk_new' _ _ _ (by simp)) (one _ _)) hb)
 have kQ:=hid_mv (show w1.heap[w.heap.size+1+1]? =some (.cells #[.slice none 0 0,.int .i64 0,.int .i64 0,.bool false,.int .i64 0,.int .i64 0,.int .i64 0,.slice none 0 0,.slice none 0 0,.bool false] 35 (0,0))from bb (blk_new' _ _ _ (by simp)) hb)
 have hz:=(hb).size
 skip
 obtain⟨KX,X0lt,X0ne,X0en⟩:=kX
 obtain⟨KB,B0lt,B0ne,B0en⟩:=kB
 obtain⟨KQ,Q0lt,Q0ne,Q0en⟩:=kQ
 replace HB:=h_ (below_call (below_alloc (below_alloc (below_alloc HB.out _) _) _) hb)
 have hs0_:=HB.out.size
 clear hb
 have CX:=cells10 KX.out
 go_upto_region 6 with(fail)
 refine nm fun w2 hb=>?_
 clear CX
 obtain⟨hz,KX,KB,KQ,HB⟩:=m4 hb KX KB KQ HB
 have CX:=cells10 KX.out
 have CB:=cells3 KB.out
 go_wp2_with fail
 refine(batch_decided0 _ _ _ tok _).mono ?_
 rintro e w3 ⟨rfl,hb⟩
 clear CX CB
 obtain⟨hz,KX,KB,KQ,HB⟩:=m4 hb KX KB KQ HB
 have CX:=cells10 KX.out
 go_upto_region 9 with(fail)
 refine nm fun w4 hb=>?_
 clear CX
 obtain⟨hz,KX,KB,KQ,HB⟩:=m4 hb KX KB KQ HB
 have CX:=cells10 KX.out
 go_wp2_with fail
 refine(wal_put V vn vc room s _ (Rs.below HF.out HB.out) HS.out h0 h1).mono ?_
 rintro e w5 ⟨A3,n3,c3,r3,s3,rfl,hR,hs3,hb⟩
 have HR3:=h_ hR
 have HS3:=h_ hs3
 clear hR hs3
 clear CX
 obtain⟨hz,KX,KB,KQ,HB⟩:=m4 hb KX KB KQ HB
 have CX:=cells10 KX.out
 go_upto_region 10 with(fail)
 refine nm fun w6 hb=>?_
 clear CX
 obtain⟨hz,_,hb,KK⟩:=na1 hb
 obtain⟨hz,KX,KB,KQ,HR3,HB⟩:=m5 hb KX KB KQ HR3 HB
 have CX:=cells10 KX.out
 have CK:=cells4 KK.out
 go_upto_region 11 with(fail)
 refine nm fun w7 hb=>?_
 clear CX CK
 have hR3:Rs tyFl 129 w7 (.slice A3 n3 c3) ([eFile,⟨w1S,⟨#[]⟩,s3⟩]):=Rs.below (Rs.set (Rs.puts HR3.out KX.out (by decide) 0 [.slice A3 n3 c3,.int .i64 (r3),.int .i64 (-1),.bool false]) (blk_put KX.out 0 [.slice A3 n3 c3,.int .i64 (r3),.int .i64 (-1),.bool false] (Nat.le_of_ble_eq_true rfl)) (by decide) _ _) hb
 have hz:=(hb).size
 clear HR3
 replace KX:=h_ (show w7.heap[w.heap.size]? =some (.cells #[.slice A3 n3 c3,.int .i64 (r3),.int .i64 (-1),.bool false,.int .i64 1,.int .i64 1,.int .i64 0,.slice none 0 0,.slice none 0 0,.bool false] 35 (0,0))from bb (blk_set (blk_put KX.out 0 [.slice A3 n3 c3,.int .i64 (r3),.int .i64 (-1),.bool false] (Nat.le_of_ble_eq_true rfl)) 5 _) hb)
 replace KB:=h_ (bb (blk_far' (blk_puts_far KB.out (w.heap.size) (by omega) 0 [.slice A3 n3 c3,.int .i64 (r3),.int .i64 (-1),.bool false]) _ _ (by omega) _) hb)
 replace KQ:=h_ (bb (blk_far' (blk_puts_far KQ.out (w.heap.size) (by omega) 0 [.slice A3 n3 c3,.int .i64 (r3),.int .i64 (-1),.bool false]) _ _ (by omega) _) hb)
 replace KK:=h_ (bb (blk_far' (blk_puts_far KK.out (w.heap.size) (by omega) 0 [.slice A3 n3 c3,.int .i64 (r3),.int .i64 (-1),.bool false]) _ _ (by omega) _) hb)
 have HR3:=h_ hR3
 clear hR3
 replace HB:=h_ (below_call (below_set (below_puts HB.out (w.heap.size) (by omega) 0 [.slice A3 n3 c3,.int .i64 (r3),.int .i64 (-1),.bool false]) _ _ (by omega) _) hb)
 have hs6_:=HB.out.size
 clear hb
 go_wp2_with fail
 refine(kv_fails _).mono ?_
 rintro e w8 ⟨rfl,rfl⟩
 go_upto_region 14 with(fail)
 refine nm fun w9 hb=>?_
 obtain⟨hz,KX,KB,KQ,KK,HR3,HB⟩:=m6 hb KX KB KQ KK HR3 HB
 have CX:=cells10 KX.out
 go_wp2_with fail
 refine(wal_sync _ _ _ r3 s3 _ HR3.out HS3.out).mono ?_
 rintro e w10 ⟨A4,n4,c4,rfl,hb⟩
 clear CX
 obtain⟨hz,KX,KB,KQ,KK,HR3,HB⟩:=m6 hb KX KB KQ KK HR3 HB
 have CX:=cells10 KX.out
 go_upto_region 15 with(fail)
 refine nm fun w11 hb=>?_
 clear CX
 obtain⟨ho,kX⟩:=pw 0 [.slice A4 n4 c4,.int .i64 (r3),.int .i64 (-1),.bool false] KX hb
 obtain⟨hz,KB,KQ,KK,HR3,HB⟩:=o5 ho KB KQ KK HR3 HB
 replace KX:=kX
 clear kX
 go_wp2_with fail
 refine(kv_fails _).mono ?_
 rintro e w12 ⟨rfl,rfl⟩
 go_upto_region 18 with(fail)
 refine nm fun w13 hb=>?_
 obtain⟨hz,KX,KB,KQ,KK,HR3,HB⟩:=m6 hb KX KB KQ KK HR3 HB
 have CX:=cells10 KX.out
 have CB:=cells3 KB.out
 go_wp2_with fail
 refine(batch_do _ _ _ l tok _ (Rs.below HR.out HB.out) HH.out.1 HH.out.2.1 HH.out.2.2.1 HH.out.2.2.2.1 HH.out.2.2.2.2.1 HH.out.2.2.2.2.2).mono ?_
 rintro e w14 ⟨D9,dn9,dc9,K9,kc9,rfl,hR,hb⟩
 have HR9:=h_ hR
 clear hR
 clear CX CB
 obtain⟨hz,KX,KB,KQ,KK,HR3,HB⟩:=m6 hb KX KB KQ KK HR3 HB
 have CX:=cells10 KX.out
 go_upto_region 19 with(fail)
 refine nm fun w15 hb=>?_
 clear CX
 obtain⟨ho,kX⟩:=pw 7 [.slice D9 dn9 dc9,.slice K9 1 kc9] KX hb
 obtain⟨hz,KB,KQ,KK,HR3,HR9,HB⟩:=o6 ho KB KQ KK HR3 HR9 HB
 replace KX:=kX
 clear kX
 have CX:=cells10 KX.out
 have CQ:=cells10 KQ.out
 go_wp2
 refine bodyPost_ret (res_cell_tmp (cs:=#[.slice A4 n4 c4,.int .i64 (r3),.int .i64 (-1),.bool false,.int .i64 1,.int .i64 1,.int .i64 0,.slice D9 dn9 dc9,.slice K9 1 kc9,.bool false]) Tryz.results181 rfl (blk_put KQ.out 0 [.slice A4 n4 c4,.int .i64 (r3),.int .i64 (-1),.bool false,.int .i64 1,.int .i64 1,.int .i64 0,.slice D9 dn9 dc9,.slice K9 1 kc9,.bool false] (Nat.le_of_ble_eq_true rfl)) Tryz.underlying35 rfl (by kernel_rfl)) rfl ⟨_,_,_,_,_,_,_,_,_,rfl,(Rs.puts HR9.out KQ.out (by decide) 0 [.slice A4 n4 c4,.int .i64 (r3),.int .i64 (-1),.bool false,.int .i64 1,.int .i64 1,.int .i64 0,.slice D9 dn9 dc9,.slice K9 1 kc9,.bool false]),(below_puts HB.out (w.heap.size+1+1) (by omega) 0 [.slice A4 n4 c4,.int .i64 (r3),.int .i64 (-1),.bool false,.int .i64 1,.int .i64 1,.int .i64 0,.slice D9 dn9 dc9,.slice K9 1 kc9,.bool false])⟩
end Go.Proofs.YtmgmdiekpmffbaaGreatDoor.Top
namespace Go.Proofs.YtmgmdiekpmffbaaGreatDoor.Top
open Go Go.RowKit Go.Proofs.YtmgmdiekpmffbaaGreatDoorW.PrintWords
section
variable {P:Program} {ops:Array Oper} {rest:List Oper} {o:Oper} {a:Act} {w:World} {Q:Exit→Act→World→Prop}
theorem run_clear_row (w:World)(t e ty:TypeId)(z:Value)(ht:P.underlying t=some (.slice e))(hv:∀w,(zeroValue e).run P w= .ok z w)(h1:∀v∈z.cells.toList,v.oneCell'=true)(b o n c:Nat)(hn:0<n)
  (hc:∀j,j<n*z.cells.size→(w.cell? ⟨b,o+j,none⟩).isSome=true) (hf:∀j,j<n*z.cells.size→w.frozen? ⟨b,o+j,none⟩=false):
  (Builtin.clear_ #[t] ty #[.slice (some ⟨b,o,none⟩) n c]).run P w= .ok (.tuple #[]) (putAt w b o (Builtin.zeroCells z.cells n).toList):=by
 have hl:(Builtin.zeroCells z.cells n).toList.length=n*z.cells.size:=by rw[Array.length_toList,size_zeroCells]
 have hst:=run_storeCells_cells (P:=P) b o (Builtin.zeroCells z.cells n).toList 0 w (by rw[hl];simpa using hc) (by rw[hl];simpa using hf) (by
  intro v hv'
  unfold Builtin.zeroCells at hv'
  simp at hv'
  obtain⟨i,hi,rfl⟩:=hv'
  have hs:0<z.cells.size:=by
   rcases Nat.eq_zero_or_pos z.cells.size with h|h
   ·rw [h] at hi
    simp at hi
   ·exact h
  refine h1 _ ?_
  rw[getElem!_pos z.cells (i % z.cells.size) (Nat.mod_lt _ hs)]
  simp)
 simp only[Nat.add_zero] at hst
 rw[put_cells] at hst
 obtain⟨m,rfl⟩:∃m,n=m+1:=⟨n - 1,by omega⟩
 simp[Builtin.clear_,run_underlying ht,hv,hst]
end
def GoneV (D:Nat)(w:World)(en:Ending)(w':World):Prop:=∃A c,en= .returned (.slice A 0 c)∧Below D w w'
theorem zero_Tx:∀w:World,(zeroValue 237).run Tryz.prog w= .ok (.agg #[.int .i64 0,.string ByteArray.empty,.slice none 0 0,.bool false,.int .i64 0,.string ByteArray.empty,.string ByteArray.empty,.string ByteArray.empty,.string ByteArray.empty,.int .i64 0]) w:=fun w=>by
 obtain⟨i0,hi,hz,_,_⟩:=info_parts infoTx
 simp[zeroValue,typeInfo,hi,hz]
theorem del_all_Tx (s:Value)(l:List Tx)(D B0:Nat)(w:World)(h:w.ownsRow D 237 tyTx.sz s l.length (tyTx.all l))(hD:D≤w.heap.size)(hl:l.length≤1000)
  (hC:∀(x:Tx) (W:World),Below w.heap.size w W→Calls Tryz.prog 204 #[.agg #[.int .i64 1,.string x.token,.slice x.A x.n x.c,.bool false,.int .i64 0,.string ⟨#[]⟩,.string ⟨#[]⟩,.string ⟨#[]⟩,.string ⟨#[]⟩,.int .i64 0],.pointer (some ⟨B0,0,none⟩)] W fun e w'=>e= .returned (.bool true)∧Below W.heap.size W w'):
  Calls Tryz.prog 203 #[s,.func (.func 204) #[] #[.pointer (some ⟨B0,0,none⟩)]] w (GoneV D w):=by
 have hr:Rs tyTx 237 w s l:=Rs.of_own h
 obtain⟨A,c,rfl,hc,-⟩:=at_Tx hr
 have HX:=h_ (index_engine_work_goes1 _ l (fun _=>true) B0 w hr (by omega) (fun x W _ hb=>hC x W hb))
 have HC:=h_ hC
 have HO:=h_ h
 have HR:=h_ hr
 have HL:=h_ hl
 have HD:=h_ hD
 have hl40:(l.length:Int)≤1000:=by omega
 have HF:Hid (∀(A:Option Addr) (c:Nat) (w':World),Below D w w'→GoneV D w (.returned (.slice A 0 c)) w'):=h_ fun A c w' h1=>⟨A,c,rfl,h1⟩
 clear h hr hC hl hD
 by_cases hpos:0<l.length
 ·have hidx:idx (fun _:Tx=>true) l 0=0:=by
   cases l with
   |nil=>simp at hpos
   |cons x r=>rfl
  rw[hidx] at HX
  clear hidx
  obtain⟨g,cap,cur,e1,hcap,hg0,hg,hcs,-⟩:=own_form HO.out hpos
  cases e1
  have HG:=h_ hg
  have hs1:∀u:World,(Instr.slice 40 (.slice (some ⟨g,0,none⟩) l.length c) (some (.int .i64 0)) none none).run Tryz.prog u= .ok (.slice (some ⟨g,0,none⟩) l.length c) u:=fun u=>by
   have e:=run_slice_from u _ _ 10 Tryz.underlying40 (by have:=infoTx;obtain⟨i0,hi,_,hz1,_⟩:=info_parts this;rw[hi];simp[hz1]) (some ⟨g,0,none⟩) l.length c 0 (Nat.zero_le _)
   simpa [add0] using e
  have hs2:∀u:World,(Instr.slice 40 (.slice (some ⟨g,0,none⟩) l.length c) none (some (.int .i64 0)) none).run Tryz.prog u= .ok (.slice (some ⟨g,0,none⟩) 0 c) u:=fun u=>run_slice_to u _ _ 10 Tryz.underlying40 (by have:=infoTx;obtain⟨i0,hi,_,hz1,_⟩:=info_parts this;rw[hi];simp[hz1]) g 0 l.length c 0 (Nat.zero_le _)
  have hclr:∀(ty:TypeId) (u:World),Below w.heap.size w u→(Builtin.clear_ #[40] ty #[.slice (some ⟨g,0,none⟩) l.length c]).run Tryz.prog u= .ok (.tuple #[]) (putAt u g 0 (Builtin.zeroCells (Value.agg #[.int .i64 0,.string ByteArray.empty,.slice none 0 0,.bool false,.int .i64 0,.string ByteArray.empty,.string ByteArray.empty,.string ByteArray.empty,.string ByteArray.empty,.int .i64 0]).cells l.length).toList):=fun ty u hu=>by
   have hgu:=bb HG.out hu
   have hm:l.length*10≤c*10:=Nat.mul_le_mul_right _ hcap
   have hcs':cur.size=c*10:=hcs
   refine run_clear_row u _ 237 _ _ Tryz.underlying40 zero_Tx (by decide) g 0 l.length c hpos (fun j hj=>?_) (fun j _=>bz hgu _)
   have hj':j<l.length*10:=hj
   rw[Nat.zero_add,bq hgu,Array.getElem?_eq_getElem (by omega)]
   rfl
  have HFIN:Hid (∀u:World,Below w.heap.size w u→Below D w (putAt u g 0 (Builtin.zeroCells (Value.agg #[.int .i64 0,.string ByteArray.empty,.slice none 0 0,.bool false,.int .i64 0,.string ByteArray.empty,.string ByteArray.empty,.string ByteArray.empty,.string ByteArray.empty,.int .i64 0]).cells l.length).toList)):=h_ fun u hu=>Below.later (hu.mono HD.out) (putAt_only _ _ _ _) hg0 (Nat.le_trans HD.out hu.size)
  have HCLR:=h_ hclr
  clear hclr hg hcs
  go_enter Tryz.func203,Tryz.ntmps203
  go_wp2_with fail
  refine HX.out.mono ?_
  rintro e w1 ⟨rfl,hb1⟩
  have b1':Aside0 (Below w.heap.size w w1):=⟨hb1⟩
  clear hb1
  go_wp2
  go_loopg [5,6,7] (l.length - 1) (fun kq v5 v6 v7 w'=>∃i:Nat,v6= .int .i64 i∧v5= .int .i64 0∧Aside0 (1≤i)∧Aside0 (kq+i=l.length)∧Aside0 (Below w.heap.size w w'))
  case atStart=>exact⟨1,rfl,rfl,⟨Nat.le_refl _⟩,⟨by omega⟩,b1'⟩
  case round=>
   obtain⟨i,rfl,rfl,H1,HK,HW⟩:=hrel
   clear b1'
   by_cases hi:i<l.length
   ·have c0b:decide ((i:Int)<(l.length:Int))=true:=decide_eq_true (by omega)
    obtain⟨hx0,hx1,hx2,hx3,hx4,hx5,hx6,hx7,hx8,hx9⟩:=el_Tx (HR.out.below HW.out) i l[i] (List.getElem?_eq_getElem hi)
    have hp:((0:Int)≤(i:Int))=True:=eq_true (by omega)
    have hq:((i:Int)<(l.length:Int))=True:=eq_true (by omega)
    generalize l[i]=x at hx0 hx1 hx2 hx3 hx4 hx5 hx6 hx7 hx8 hx9
    go_wp2_with fail
    refine(HC.out x _ (HW.out.trans ((one _ _).mono HW.out.size))).mono ?_
    rintro e w3 ⟨rfl,b3⟩
    have b3':Aside0 (Below w.heap.size w w3):=⟨below_call (below_alloc HW.out _) b3⟩
    clear b3
    go_wp2
    go_roundg (gk - 1)
    case measure=>have:=HK.out;omega
    case rel=>exact⟨i+1,by go_num,rfl,⟨by omega⟩,⟨by have:=HK.out;omega⟩,b3'⟩
   ·have c0b:decide ((i:Int)<(l.length:Int))=false:=decide_eq_false (by omega)
    have hcl:=fun ty=>HCLR.out ty wr HW.out
    go_wp2
    go_ret
    exact HF.out _ _ _ (HFIN.out _ HW.out)
 ·have hidx:idx (fun _:Tx=>true) l 0= -1:=by
   cases l with
   |nil=>rfl
   |cons x r=>simp at hpos
  have hlen:l.length=0:=by omega
  rw[hidx] at HX
  rw[hlen] at HX⊢
  clear hidx HO HR
  go_enter Tryz.func203,Tryz.ntmps203
  go_wp2_with fail
  refine HX.out.mono ?_
  rintro e w1 ⟨rfl,hb1⟩
  have HB1:=h_ hb1
  clear hb1
  go_wp2
  go_ret
  exact HF.out _ _ _ (HB1.out.mono HD.out)
theorem zero_Hd:∀w:World,(zeroValue 351).run Tryz.prog w= .ok (.agg #[.int .i64 0,.int .i64 0,.string ByteArray.empty,.string ByteArray.empty]) w:=fun w=>by
 obtain⟨i0,hi,hz,_,_⟩:=info_parts infoHd
 simp[zeroValue,typeInfo,hi,hz]
theorem del_all_Hd (s:Value)(l:List Hd)(D B0:Nat)(w:World)(h:w.ownsRow D 351 tyHd.sz s l.length (tyHd.all l))(hD:D≤w.heap.size)(hl:l.length≤1000)
  (hC:∀(x:Hd) (W:World),Below w.heap.size w W→Calls Tryz.prog 235 #[.agg #[.int .i64 1,.int .i64 x.mode,.string x.lo,.string x.hi],.pointer (some ⟨B0,0,none⟩)] W fun e w'=>e= .returned (.bool true)∧Below W.heap.size W w'):
  Calls Tryz.prog 234 #[s,.func (.func 235) #[] #[.pointer (some ⟨B0,0,none⟩)]] w (GoneV D w):=by
 have hr:Rs tyHd 351 w s l:=Rs.of_own h
 obtain⟨A,c,rfl,hc,-⟩:=at_Hd hr
 have HX:=h_ (index_lock_Free1 _ l (fun _=>true) B0 w hr (by omega) (fun x W _ hb=>hC x W hb))
 have HC:=h_ hC
 have HO:=h_ h
 have HR:=h_ hr
 have HL:=h_ hl
 have HD:=h_ hD
 have hl40:(l.length:Int)≤1000:=by omega
 have HF:Hid (∀(A:Option Addr) (c:Nat) (w':World),Below D w w'→GoneV D w (.returned (.slice A 0 c)) w'):=h_ fun A c w' h1=>⟨A,c,rfl,h1⟩
 clear h hr hC hl hD
 by_cases hpos:0<l.length
 ·have hidx:idx (fun _:Hd=>true) l 0=0:=by
   cases l with
   |nil=>simp at hpos
   |cons x r=>rfl
  rw[hidx] at HX
  clear hidx
  obtain⟨g,cap,cur,e1,hcap,hg0,hg,hcs,-⟩:=own_form HO.out hpos
  cases e1
  have HG:=h_ hg
  have hs1:∀u:World,(Instr.slice 36 (.slice (some ⟨g,0,none⟩) l.length c) (some (.int .i64 0)) none none).run Tryz.prog u= .ok (.slice (some ⟨g,0,none⟩) l.length c) u:=fun u=>by
   have e:=run_slice_from u _ _ 4 Tryz.underlying36 (by have:=infoHd;obtain⟨i0,hi,_,hz1,_⟩:=info_parts this;rw[hi];simp[hz1]) (some ⟨g,0,none⟩) l.length c 0 (Nat.zero_le _)
   simpa [add0] using e
  have hs2:∀u:World,(Instr.slice 36 (.slice (some ⟨g,0,none⟩) l.length c) none (some (.int .i64 0)) none).run Tryz.prog u= .ok (.slice (some ⟨g,0,none⟩) 0 c) u:=fun u=>run_slice_to u _ _ 4 Tryz.underlying36 (by have:=infoHd;obtain⟨i0,hi,_,hz1,_⟩:=info_parts this;rw[hi];simp[hz1]) g 0 l.length c 0 (Nat.zero_le _)
  have hclr:∀(ty:TypeId) (u:World),Below w.heap.size w u→(Builtin.clear_ #[36] ty #[.slice (some ⟨g,0,none⟩) l.length c]).run Tryz.prog u= .ok (.tuple #[]) (putAt u g 0 (Builtin.zeroCells (Value.agg #[.int .i64 0,.int .i64 0,.string ByteArray.empty,.string ByteArray.empty]).cells l.length).toList):=fun ty u hu=>by
   have hgu:=bb HG.out hu
   have hm:l.length*4≤c*4:=Nat.mul_le_mul_right _ hcap
   have hcs':cur.size=c*4:=hcs
   refine run_clear_row u _ 351 _ _ Tryz.underlying36 zero_Hd (by decide) g 0 l.length c hpos (fun j hj=>?_) (fun j _=>bz hgu _)
   have hj':j<l.length*4:=hj
   rw[Nat.zero_add,bq hgu,Array.getElem?_eq_getElem (by omega)]
   rfl
  have HFIN:Hid (∀u:World,Below w.heap.size w u→Below D w (putAt u g 0 (Builtin.zeroCells (Value.agg #[.int .i64 0,.int .i64 0,.string ByteArray.empty,.string ByteArray.empty]).cells l.length).toList)):=h_ fun u hu=>Below.later (hu.mono HD.out) (putAt_only _ _ _ _) hg0 (Nat.le_trans HD.out hu.size)
  have HCLR:=h_ hclr
  clear hclr hg hcs
  go_enter Tryz.func234,Tryz.ntmps234
  go_wp2_with fail
  refine HX.out.mono ?_
  rintro e w1 ⟨rfl,hb1⟩
  have b1':Aside0 (Below w.heap.size w w1):=⟨hb1⟩
  clear hb1
  go_wp2
  go_loopg [5,6,7] (l.length - 1) (fun kq v5 v6 v7 w'=>∃i:Nat,v6= .int .i64 i∧v5= .int .i64 0∧Aside0 (1≤i)∧Aside0 (kq+i=l.length)∧Aside0 (Below w.heap.size w w'))
  case atStart=>exact⟨1,rfl,rfl,⟨Nat.le_refl _⟩,⟨by omega⟩,b1'⟩
  case round=>
   obtain⟨i,rfl,rfl,H1,HK,HW⟩:=hrel
   clear b1'
   by_cases hi:i<l.length
   ·have c0b:decide ((i:Int)<(l.length:Int))=true:=decide_eq_true (by omega)
    obtain⟨hx0,hx1,hx2,hx3⟩:=el_Hd (HR.out.below HW.out) i l[i] (List.getElem?_eq_getElem hi)
    have hp:((0:Int)≤(i:Int))=True:=eq_true (by omega)
    have hq:((i:Int)<(l.length:Int))=True:=eq_true (by omega)
    generalize l[i]=x at hx0 hx1 hx2 hx3
    go_wp2_with fail
    refine(HC.out x _ (HW.out.trans ((one _ _).mono HW.out.size))).mono ?_
    rintro e w3 ⟨rfl,b3⟩
    have b3':Aside0 (Below w.heap.size w w3):=⟨below_call (below_alloc HW.out _) b3⟩
    clear b3
    go_wp2
    go_roundg (gk - 1)
    case measure=>have:=HK.out;omega
    case rel=>exact⟨i+1,by go_num,rfl,⟨by omega⟩,⟨by have:=HK.out;omega⟩,b3'⟩
   ·have c0b:decide ((i:Int)<(l.length:Int))=false:=decide_eq_false (by omega)
    have hcl:=fun ty=>HCLR.out ty wr HW.out
    go_wp2
    go_ret
    exact HF.out _ _ _ (HFIN.out _ HW.out)
 ·have hidx:idx (fun _:Hd=>true) l 0= -1:=by
   cases l with
   |nil=>rfl
   |cons x r=>simp at hpos
  have hlen:l.length=0:=by omega
  rw[hidx] at HX
  rw[hlen] at HX⊢
  clear hidx HO HR
  go_enter Tryz.func234,Tryz.ntmps234
  go_wp2_with fail
  refine HX.out.mono ?_
  rintro e w1 ⟨rfl,hb1⟩
  have HB1:=h_ hb1
  clear hb1
  go_wp2
  go_ret
  exact HF.out _ _ _ (HB1.out.mono HD.out)
theorem clo_goes1 (x:Tx)(B:Nat)(w:World)(h:w.cell? ⟨B,0,none⟩=some (.int .i64 1)):
  Calls Tryz.prog 204 #[.agg #[.int .i64 1,.string x.token,.slice x.A x.n x.c,.bool false,.int .i64 0,.string ⟨#[]⟩,.string ⟨#[]⟩,.string ⟨#[]⟩,.string ⟨#[]⟩,.int .i64 0],.pointer (some ⟨B,0,none⟩)] w fun e w'=>e= .returned (.bool true)∧Below w.heap.size w w':=by
 have lB:B<w.heap.size:=World.block_lt_of_cell? w ⟨B,0,none⟩ h
 have nB:B≠w.heap.size:=Nat.ne_of_lt lB
 go_enter Tryz.func204,Tryz.ntmps204
 go_wp2
 go_ret
 exact⟨rfl,one _ _⟩
theorem clo_free1 (x:Hd)(B:Nat)(w:World)(h:w.cell? ⟨B,0,none⟩=some (.int .i64 1)):
  Calls Tryz.prog 235 #[.agg #[.int .i64 1,.int .i64 x.mode,.string x.lo,.string x.hi],.pointer (some ⟨B,0,none⟩)] w fun e w'=>e= .returned (.bool true)∧Below w.heap.size w w':=by
 have lB:B<w.heap.size:=World.block_lt_of_cell? w ⟨B,0,none⟩ h
 have nB:B≠w.heap.size:=Nat.ne_of_lt lB
 go_enter Tryz.func235,Tryz.ntmps235
 go_wp2
 go_ret
 exact⟨rfl,one _ _⟩
theorem del_nil_Cl (c:Value)(w:World):Calls Tryz.prog 236 #[.slice none 0 0,c] w fun e w'=>e= .returned (.slice none 0 0)∧w'=w:=by
 go_enter Tryz.func236,Tryz.ntmps236
 go_wp2_with fail
 refine(idxnil_Cl _ _).mono ?_
 rintro e w1 ⟨rfl,rfl⟩
 go_wp2
 go_ret
 exact⟨rfl,rfl⟩
theorem lock_settle (A:Option Addr)(c:Nat)(w:World):Calls Tryz.prog 238 #[.agg #[.slice A 0 c,.slice none 0 0]] w fun e w'=>e= .returned (.tuple #[.agg #[.slice A 0 c,.slice none 0 0],.slice none 0 0])∧Below w.heap.size w w':=by
 have HB:Hid (Below w.heap.size w w):=h_ (Below.refl _ _)
 go_enter Tryz.func238,Tryz.ntmps238
 go_wp2_with fail
 go_step3
 go_wp2_with fail
 go_step3
 go_wp2_with fail
 refine wp_loop_rounds 1 ?_
 rw[rounds_succ]
 go_wp2_with fail
 refine wp_loop_rounds 1 ?_
 rw[rounds_succ]
 go_wp2_with fail
 try rw[Exit.noGoto_ret]
 skip
 refine bodyPost_ret (res_cell_tmp (cs:=#[.slice A 0 c,.slice none 0 0]) Tryz.results238 rfl (blk_new' _ _ _ (by simp)) Tryz.underlying39 rfl (by kernel_rfl)) rfl ⟨rfl,?_⟩
 ·exact(below_alloc (below_alloc HB.out _) _)
def FreeV (w:World)(en:Ending)(w':World):Prop:=∃A c,en= .returned (.tuple #[.agg #[.slice A 0 c,.slice none 0 0],.slice none 0 0])∧Below w.heap.size w w'
theorem lock_free (HA:Option Addr)(hn hc:Nat)(l:List Hd)(w:World)(h:Rs tyHd 351 w (.slice HA hn hc) l)(hl:l.length≤1000):
  Calls Tryz.prog 205 #[.agg #[.slice HA hn hc,.slice none 0 0],.int .i64 1] w (FreeV w):=by
 have HB:Hid (Below w.heap.size w w):=h_ (Below.refl _ _)
 have HH:=h_ h
 clear h
 go_enter Tryz.func205,Tryz.ntmps205
 go_wp2_with fail
 refine(clone_Hd _ l _ (Rs.below HH.out (below_alloc (below_alloc (below_alloc HB.out _) _) _)) (by omega)).mono ?_
 rintro e w1 ⟨v1,rfl,hown,hb1⟩
 have HI:Hid (w1.cell? ⟨w.heap.size+1,0,none⟩=some (.int .i64 1)):=h_ (bq (bb (bb (blk_new' _ _ _ (by simp)) (one _ _)) hb1) 0)
 have HOWN:=h_ hown
 have HB1:=h_ hb1
 clear hown hb1
 go_wp2_with fail
 refine(del_all_Hd v1 l _ _ _ HOWN.out HB1.out.size hl (fun x W hb=>clo_free1 x _ W (pw_cell_below hb HI.out))).mono ?_
 rintro e w2 ⟨A2,c2,rfl,hb2⟩
 have hb:=HB1.out.trans hb2
 clear HB1 HOWN HI hb2
 have kD:=hid_mv (show w2.heap[w.heap.size]? =some (.cells #[.slice HA hn hc,.slice none 0 0] 39 (0,0))from bb (bb (bb (blk_new' _ _ _ (by simp)) (one _ _)) (one _ _)) hb)
 have kI:=hid_mv (show w2.heap[w.heap.size+1]? =some (.cells #[.int .i64 1] 3 (0,0))from bb (bb (blk_new' _ _ _ (by simp)) (one _ _)) hb)
 have kQ:=hid_mv (show w2.heap[w.heap.size+1+1]? =some (.cells #[.slice none 0 0,.slice none 0 0] 39 (0,0))from bb (blk_new' _ _ _ (by simp)) hb)
 have hz:=(hb).size
 skip
 obtain⟨KD,D0lt,D0ne,D0en⟩:=kD
 obtain⟨KI,I0lt,I0ne,I0en⟩:=kI
 obtain⟨KQ,Q0lt,Q0ne,Q0en⟩:=kQ
 replace HB:=h_ (below_call (below_alloc (below_alloc (below_alloc HB.out _) _) _) hb)
 have hs0_:=HB.out.size
 clear hb
 have CD:=cells2 KD.out
 go_upto_region 2 with(fail)
 refine nm fun w3 hb=>?_
 clear CD
 obtain⟨ho,kD⟩:=ps KD hb
 obtain⟨hz,KI,KQ,HB⟩:=o3 ho KI KQ HB
 replace KD:=kD
 clear kD
 have CD:=cells2 KD.out
 go_wp2_with fail
 refine(clone_nil_Cl _).mono ?_
 rintro e w4 ⟨rfl,rfl⟩
 go_wp2_with fail
 refine(del_nil_Cl _ _).mono ?_
 rintro e w4 ⟨rfl,rfl⟩
 go_upto_region 3 with(fail)
 refine nm fun w5 hb=>?_
 clear CD
 obtain⟨ho,kD⟩:=ps KD hb
 obtain⟨hz,KI,KQ,HB⟩:=o3 ho KI KQ HB
 replace KD:=kD
 clear kD
 have CD:=cells2 KD.out
 have CQ:=cells2 KQ.out
 go_wp2_with fail
 refine(lock_settle _ _ _).mono ?_
 rintro e w6 ⟨rfl,hb⟩
 clear CD CQ
 obtain⟨hz,KD,KI,KQ,HB⟩:=m4 hb KD KI KQ HB
 have CQ:=cells2 KQ.out
 go_wp2
 refine bodyPost_ret (res_cell_tmp (cs:=#[.slice A2 0 c2,.slice none 0 0]) Tryz.results205 rfl (blk_put KQ.out 0 [.slice A2 0 c2,.slice none 0 0] (Nat.le_of_ble_eq_true rfl)) Tryz.underlying39 rfl (by kernel_rfl)) rfl ⟨_,_,rfl,?_⟩
 ·exact(below_puts HB.out (w.heap.size+1+1) (by omega) 0 [.slice A2 0 c2,.slice none 0 0])
end Go.Proofs.YtmgmdiekpmffbaaGreatDoor.Top
namespace Go.Proofs.YtmgmdiekpmffbaaGreatDoor.Fr
open Go Go.RowKit Go.Proofs.YtmgmdiekpmffbaaGreatDoor.DecM Go.Proofs.YtmgmdiekpmffbaaGreatDoor.Giv Go.Proofs.YtmgmdiekpmffbaaGreatDoor.DecPure
theorem empty_wait:(takeText ByteArray.empty 2048).2.2=2:=by
 have h:takeNum ByteArray.empty=(0,ByteArray.empty,2):=by
  have e64:=two64_eq
  have:ByteArray.empty.data.toList= []:=rfl
  unfold takeNum
  simp only[this]
  have hv:val (([]:List UInt8).take (nd []))<two64:=by
   rw[List.take_nil]
   show 0<two64
   omega
  rw[if_neg (by simp[nd]),if_neg,if_pos (show nd ([]:List UInt8)=([]:List UInt8).length from rfl)]
  rintro(⟨h,_⟩|h|⟨h,_⟩)
  ·simp [nd] at h
  ·exact h hv
  ·simp [nd] at h
 unfold takeText
 rw[h,if_pos (by decide)]
theorem frame_all (t:ByteArray)(ht:t.size≤2048):pairs (textS t)= [(t,ByteArray.empty)]∧rest (textS t)=ByteArray.empty∧more (textS t)=true:=by
 have e:=text_back t ByteArray.empty 2048 (by omega)
 rw[if_neg (by omega),ByteArray.append_empty] at e
 have hz:(takeText (textS t) 2048).2.2=0:=by rw[e]
 have hz0:¬(takeText ByteArray.empty 2048).2.2=0:=by rw[empty_wait];decide
 refine⟨?_,?_,?_⟩
 ·rw [pairs_ok hz,e,pairs_no hz0]
 ·rw [rest_ok hz,e,rest_no hz0]
 ·unfold more
  rw[rest_ok hz,e,rest_no hz0,empty_wait]
  rfl
def FedOne (t:ByteArray)(w:World)(en:Ending)(w':World):Prop:=
 ∃b c cur,en= .returned (.tuple #[.agg #[.string ⟨#[]⟩,.bool false],.slice (some ⟨b,0,none⟩) 1 c,.int .i64 0])∧w'.heap[b]? =some (.cells cur 9 (0,0))∧cur[0]? =some (.string t)∧w.heap.size≤b∧Below w.heap.size w w'
theorem feed_one (t:ByteArray)(w:World)(ht:t.size≤2048):
  Calls Tryz.prog 15 #[.agg #[.string ⟨#[]⟩,.bool false],.string (Wire.textW t)] w (FedOne t w):=by
 obtain⟨h1,h2,h3⟩:=frame_all t ht
 have e0:(⟨#[]⟩:ByteArray)++Wire.textW t=textS t:=ByteArray.empty_append
 have hsz:(⟨#[]⟩:ByteArray).size+(Wire.textW t).size≤1099511627776:=by
  have:=numS_size t.size (by omega)
  have h0:(⟨#[]⟩:ByteArray).size=0:=rfl
  unfold Wire.textW
  rw[ByteArray.size_append]
  omega
 have h:=feed_calls ⟨#[]⟩ (Wire.textW t) w hsz
 rw[e0,h1,h2,if_pos h3] at h
 refine h.mono ?_
 rintro e w' ⟨v,rfl,hown,hb⟩
 obtain⟨b,cap,cur,rfl,h4,h5,h6,h7,h8⟩:=Top.own_form hown (Nat.succ_pos 0)
 exact⟨b,cap,cur,rfl,h6,h8 0 (.string t) rfl,h5,hb⟩
end Go.Proofs.YtmgmdiekpmffbaaGreatDoor.Fr
