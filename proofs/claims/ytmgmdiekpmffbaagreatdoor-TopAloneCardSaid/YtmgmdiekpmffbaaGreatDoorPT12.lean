/- Part of the proof of the statement TopAlone, as a card; what is proved, and on which condition, stands at the head of YtmgmdiekpmffbaaGreatDoorPT20 (texts TopView0, TopView1, TopTab1, TopLock0, TopLock1, TopSpan, TopLock2) -/
import Derived.WalkKit
import Derived.WalkSpells
import Derived.Outline
import Derived.Deep.QuietTactic
import Derived.BigQuiet
import Derived.Deep.LoopGhost
import Derived.Test.YtmgmdiekpmffbaaGreatDoorPT1
import Derived.Test.YtmgmdiekpmffbaaGreatDoorPT5
import Derived.Test.YtmgmdiekpmffbaaGreatDoorPT6
import Derived.Test.YtmgmdiekpmffbaaGreatDoorPT9
import Derived.Test.YtmgmdiekpmffbaaGreatDoorPT10
import Derived.Test.YtmgmdiekpmffbaaGreatDoorPT11
set_option maxHeartbeats 64000000
set_option maxRecDepth 100000
set_option linter.unusedVariables false
set_option linter.unusedSimpArgs false
namespace Go.Proofs.YtmgmdiekpmffbaaGreatDoor.Top
open Go Go.RowKit Go.Proofs.YtmgmdiekpmffbaaGreatDoorW.PrintWords
theorem clo_get1 (y:Wr)(key:ByteArray)(B:Nat)(w:World)(h:w.cell? ⟨B,0,none⟩=some (.string key)):
  Calls Tryz.prog 247 #[.agg #[.string y.key,.string y.val,.bool y.del],.pointer (some ⟨B,0,none⟩)] w fun e w'=>e= .returned (.bool (sq y.key key))∧Below w.heap.size w w':=by
 have lB:B<w.heap.size:=World.block_lt_of_cell? w ⟨B,0,none⟩ h
 have nB:B≠w.heap.size:=Nat.ne_of_lt lB
 go_enter Tryz.func247,Tryz.ntmps247
 go_wp2
 go_ret
 exact⟨rfl,one _ _⟩
theorem first_get1 (v:Value)(l:List Wr)(key:ByteArray)(B:Nat)(w:World)(h:Rs tyWr 212 w v l)(hl:l.length≤100000)(hB:w.cell? ⟨B,0,none⟩=some (.string key)):
  Calls Tryz.prog 246 #[v,.func (.func 247) #[] #[.pointer (some ⟨B,0,none⟩)]] w fun e w'=>e= .returned (.int .i64 (idx (fun y:Wr=>sq y.key key) l 0))∧Below w.heap.size w w':=by
 generalize hp0:(fun y:Wr=>sq y.key key)=p
 have hC:∀(x:Wr) (W:World),Below w.heap.size w W→Calls Tryz.prog 247 #[.agg #[.string x.key,.string x.val,.bool x.del],.pointer (some ⟨B,0,none⟩)] W fun e w'=>e= .returned (.bool (p x))∧Below W.heap.size W w':=fun x W hb=>by
  subst hp0
  exact clo_get1 x key B W (pw_cell_below hb hB)
 clear hp0 hB
 obtain⟨A,c,rfl,hc,-⟩:=at_Wr h
 have HR:=h_ h
 have HL:=h_ hl
 have HC:=h_ hC
 have b0':Aside0 (Below w.heap.size w w):=⟨Below.refl _ _⟩
 have HF:Hid (∀(z:Int) (w':World),idx p l 0=z→Below w.heap.size w w'→(Ending.returned (.int .i64 z)=Ending.returned (.int .i64 (idx p l 0))∧Below w.heap.size w w')):=h_ fun z w' h1 h2=>⟨by rw[h1],h2⟩
 clear h hl hC
 go_enter Tryz.func246,Tryz.ntmps246
 go_wp2
 go_loopg [5,6,9] l.length (fun kq v5 v6 v9 w'=>∃i:Nat,v9= .int .i64 i∧Aside0 (kq+i=l.length)∧Aside0 (idx p l 0=idx p (l.drop i) i)∧Aside0 (Below w.heap.size w w'))
 case atStart=>exact⟨0,rfl,⟨by omega⟩,⟨rfl⟩,b0'⟩
 case round=>
  obtain⟨i,rfl,HK,HN,HW⟩:=hrel
  clear b0'
  by_cases hi:i<l.length
  ·have c0b:decide ((i:Int)<(l.length:Int))=true:=decide_eq_true (by omega)
   obtain⟨A',c',e1,_,hat⟩:=at_Wr (HR.out.below HW.out)
   cases e1
   obtain⟨ad,e2,hx0,hx1,hx2⟩:=hat i hi
   subst e2
   clear hat
   have hp:((0:Int)≤(i:Int))=True:=eq_true (by omega)
   have hq:((i:Int)<(l.length:Int))=True:=eq_true (by omega)
   have hi40:(i:Int)≤100000:=by have:=HL.out;omega
   have HY:=h_ (HC.out l[i])
   cases hlg:p l[i] with
   |true=>
    have HZ:=h_ (HN.out.trans (idx_hit p l i hi hlg))
    rw[hlg] at HY
    clear hlg
    generalize l[i]=x at hx0 hx1 hx2 HY
    go_wp2_with (go_at_call 247;refine(HY.out _ (HW.out.trans ((one _ _).mono HW.out.size))).mono ?_;rintro e w3 ⟨rfl,b3⟩)
    have HB3:=h_ ((HW.out.trans ((one _ _).mono HW.out.size)).trans (b3.mono (HW.out.trans ((one wr _).mono HW.out.size)).size))
    clear b3
    go_wp2
    go_ret
    exact HF.out _ _ HZ.out HB3.out
   |false=>
    have HZ:Aside0 (idx p l 0=idx p (l.drop (i+1)) ((i+1:Nat):Int)):=⟨HN.out.trans (idx_next p l i hi hlg)⟩
    rw[hlg] at HY
    clear hlg
    generalize l[i]=x at hx0 hx1 hx2 HY
    go_wp2_with (go_at_call 247;refine(HY.out _ (HW.out.trans ((one _ _).mono HW.out.size))).mono ?_;rintro e w3 ⟨rfl,b3⟩)
    have b3':Aside0 (Below w.heap.size w w3):=⟨(HW.out.trans ((one _ _).mono HW.out.size)).trans (b3.mono (HW.out.trans ((one wr _).mono HW.out.size)).size)⟩
    clear b3
    go_wp2
    go_roundg (gk - 1)
    case measure=>have:=HK.out;omega
    case rel=>exact⟨i+1,by go_num,⟨by have:=HK.out;omega⟩,HZ,b3'⟩
  ·have c0b:decide ((i:Int)<(l.length:Int))=false:=decide_eq_false (by omega)
   have HZ:Hid (idx p l 0= -1):=h_ (by rw[HN.out,List.drop_of_length_le (by omega)];rfl)
   go_wp2
   go_ret
   exact HF.out _ _ HZ.out HW.out
theorem clo_set1 (y:Wr)(key:ByteArray)(B:Nat)(w:World)(h:w.cell? ⟨B,0,none⟩=some (.string key)):
  Calls Tryz.prog 249 #[.agg #[.string y.key,.string y.val,.bool y.del],.pointer (some ⟨B,0,none⟩)] w fun e w'=>e= .returned (.bool (sq y.key key))∧Below w.heap.size w w':=by
 have lB:B<w.heap.size:=World.block_lt_of_cell? w ⟨B,0,none⟩ h
 have nB:B≠w.heap.size:=Nat.ne_of_lt lB
 go_enter Tryz.func249,Tryz.ntmps249
 go_wp2
 go_ret
 exact⟨rfl,one _ _⟩
theorem first_set1 (v:Value)(l:List Wr)(key:ByteArray)(B:Nat)(w:World)(h:Rs tyWr 212 w v l)(hl:l.length≤100000)(hB:w.cell? ⟨B,0,none⟩=some (.string key)):
  Calls Tryz.prog 246 #[v,.func (.func 249) #[] #[.pointer (some ⟨B,0,none⟩)]] w fun e w'=>e= .returned (.int .i64 (idx (fun y:Wr=>sq y.key key) l 0))∧Below w.heap.size w w':=by
 generalize hp0:(fun y:Wr=>sq y.key key)=p
 have hC:∀(x:Wr) (W:World),Below w.heap.size w W→Calls Tryz.prog 249 #[.agg #[.string x.key,.string x.val,.bool x.del],.pointer (some ⟨B,0,none⟩)] W fun e w'=>e= .returned (.bool (p x))∧Below W.heap.size W w':=fun x W hb=>by
  subst hp0
  exact clo_set1 x key B W (pw_cell_below hb hB)
 clear hp0 hB
 obtain⟨A,c,rfl,hc,-⟩:=at_Wr h
 have HR:=h_ h
 have HL:=h_ hl
 have HC:=h_ hC
 have b0':Aside0 (Below w.heap.size w w):=⟨Below.refl _ _⟩
 have HF:Hid (∀(z:Int) (w':World),idx p l 0=z→Below w.heap.size w w'→(Ending.returned (.int .i64 z)=Ending.returned (.int .i64 (idx p l 0))∧Below w.heap.size w w')):=h_ fun z w' h1 h2=>⟨by rw[h1],h2⟩
 clear h hl hC
 go_enter Tryz.func246,Tryz.ntmps246
 go_wp2
 go_loopg [5,6,9] l.length (fun kq v5 v6 v9 w'=>∃i:Nat,v9= .int .i64 i∧Aside0 (kq+i=l.length)∧Aside0 (idx p l 0=idx p (l.drop i) i)∧Aside0 (Below w.heap.size w w'))
 case atStart=>exact⟨0,rfl,⟨by omega⟩,⟨rfl⟩,b0'⟩
 case round=>
  obtain⟨i,rfl,HK,HN,HW⟩:=hrel
  clear b0'
  by_cases hi:i<l.length
  ·have c0b:decide ((i:Int)<(l.length:Int))=true:=decide_eq_true (by omega)
   obtain⟨A',c',e1,_,hat⟩:=at_Wr (HR.out.below HW.out)
   cases e1
   obtain⟨ad,e2,hx0,hx1,hx2⟩:=hat i hi
   subst e2
   clear hat
   have hp:((0:Int)≤(i:Int))=True:=eq_true (by omega)
   have hq:((i:Int)<(l.length:Int))=True:=eq_true (by omega)
   have hi40:(i:Int)≤100000:=by have:=HL.out;omega
   have HY:=h_ (HC.out l[i])
   cases hlg:p l[i] with
   |true=>
    have HZ:=h_ (HN.out.trans (idx_hit p l i hi hlg))
    rw[hlg] at HY
    clear hlg
    generalize l[i]=x at hx0 hx1 hx2 HY
    go_wp2_with (go_at_call 249;refine(HY.out _ (HW.out.trans ((one _ _).mono HW.out.size))).mono ?_;rintro e w3 ⟨rfl,b3⟩)
    have HB3:=h_ ((HW.out.trans ((one _ _).mono HW.out.size)).trans (b3.mono (HW.out.trans ((one wr _).mono HW.out.size)).size))
    clear b3
    go_wp2
    go_ret
    exact HF.out _ _ HZ.out HB3.out
   |false=>
    have HZ:Aside0 (idx p l 0=idx p (l.drop (i+1)) ((i+1:Nat):Int)):=⟨HN.out.trans (idx_next p l i hi hlg)⟩
    rw[hlg] at HY
    clear hlg
    generalize l[i]=x at hx0 hx1 hx2 HY
    go_wp2_with (go_at_call 249;refine(HY.out _ (HW.out.trans ((one _ _).mono HW.out.size))).mono ?_;rintro e w3 ⟨rfl,b3⟩)
    have b3':Aside0 (Below w.heap.size w w3):=⟨(HW.out.trans ((one _ _).mono HW.out.size)).trans (b3.mono (HW.out.trans ((one wr _).mono HW.out.size)).size)⟩
    clear b3
    go_wp2
    go_roundg (gk - 1)
    case measure=>have:=HK.out;omega
    case rel=>exact⟨i+1,by go_num,⟨by have:=HK.out;omega⟩,HZ,b3'⟩
  ·have c0b:decide ((i:Int)<(l.length:Int))=false:=decide_eq_false (by omega)
   have HZ:Hid (idx p l 0= -1):=h_ (by rw[HN.out,List.drop_of_length_le (by omega)];rfl)
   go_wp2
   go_ret
   exact HF.out _ _ HZ.out HW.out
theorem clo_set2 (y:Wr)(key:ByteArray)(B:Nat)(w:World)(h:w.cell? ⟨B,0,none⟩=some (.string key)):
  Calls Tryz.prog 251 #[.agg #[.string y.key,.string y.val,.bool y.del],.pointer (some ⟨B,0,none⟩)] w fun e w'=>e= .returned (.bool (Op.bytesLess key.toList y.key.toList))∧Below w.heap.size w w':=by
 have lB:B<w.heap.size:=World.block_lt_of_cell? w ⟨B,0,none⟩ h
 have nB:B≠w.heap.size:=Nat.ne_of_lt lB
 go_enter Tryz.func251,Tryz.ntmps251
 go_wp2
 go_ret
 exact⟨rfl,one _ _⟩
theorem first_set2 (v:Value)(l:List Wr)(key:ByteArray)(B:Nat)(w:World)(h:Rs tyWr 212 w v l)(hl:l.length≤100000)(hB:w.cell? ⟨B,0,none⟩=some (.string key)):
  Calls Tryz.prog 246 #[v,.func (.func 251) #[] #[.pointer (some ⟨B,0,none⟩)]] w fun e w'=>e= .returned (.int .i64 (idx (fun y:Wr=>Op.bytesLess key.toList y.key.toList) l 0))∧Below w.heap.size w w':=by
 generalize hp0:(fun y:Wr=>Op.bytesLess key.toList y.key.toList)=p
 have hC:∀(x:Wr) (W:World),Below w.heap.size w W→Calls Tryz.prog 251 #[.agg #[.string x.key,.string x.val,.bool x.del],.pointer (some ⟨B,0,none⟩)] W fun e w'=>e= .returned (.bool (p x))∧Below W.heap.size W w':=fun x W hb=>by
  subst hp0
  exact clo_set2 x key B W (pw_cell_below hb hB)
 clear hp0 hB
 obtain⟨A,c,rfl,hc,-⟩:=at_Wr h
 have HR:=h_ h
 have HL:=h_ hl
 have HC:=h_ hC
 have b0':Aside0 (Below w.heap.size w w):=⟨Below.refl _ _⟩
 have HF:Hid (∀(z:Int) (w':World),idx p l 0=z→Below w.heap.size w w'→(Ending.returned (.int .i64 z)=Ending.returned (.int .i64 (idx p l 0))∧Below w.heap.size w w')):=h_ fun z w' h1 h2=>⟨by rw[h1],h2⟩
 clear h hl hC
 go_enter Tryz.func246,Tryz.ntmps246
 go_wp2
 go_loopg [5,6,9] l.length (fun kq v5 v6 v9 w'=>∃i:Nat,v9= .int .i64 i∧Aside0 (kq+i=l.length)∧Aside0 (idx p l 0=idx p (l.drop i) i)∧Aside0 (Below w.heap.size w w'))
 case atStart=>exact⟨0,rfl,⟨by omega⟩,⟨rfl⟩,b0'⟩
 case round=>
  obtain⟨i,rfl,HK,HN,HW⟩:=hrel
  clear b0'
  by_cases hi:i<l.length
  ·have c0b:decide ((i:Int)<(l.length:Int))=true:=decide_eq_true (by omega)
   obtain⟨A',c',e1,_,hat⟩:=at_Wr (HR.out.below HW.out)
   cases e1
   obtain⟨ad,e2,hx0,hx1,hx2⟩:=hat i hi
   subst e2
   clear hat
   have hp:((0:Int)≤(i:Int))=True:=eq_true (by omega)
   have hq:((i:Int)<(l.length:Int))=True:=eq_true (by omega)
   have hi40:(i:Int)≤100000:=by have:=HL.out;omega
   have HY:=h_ (HC.out l[i])
   cases hlg:p l[i] with
   |true=>
    have HZ:=h_ (HN.out.trans (idx_hit p l i hi hlg))
    rw[hlg] at HY
    clear hlg
    generalize l[i]=x at hx0 hx1 hx2 HY
    go_wp2_with (go_at_call 251;refine(HY.out _ (HW.out.trans ((one _ _).mono HW.out.size))).mono ?_;rintro e w3 ⟨rfl,b3⟩)
    have HB3:=h_ ((HW.out.trans ((one _ _).mono HW.out.size)).trans (b3.mono (HW.out.trans ((one wr _).mono HW.out.size)).size))
    clear b3
    go_wp2
    go_ret
    exact HF.out _ _ HZ.out HB3.out
   |false=>
    have HZ:Aside0 (idx p l 0=idx p (l.drop (i+1)) ((i+1:Nat):Int)):=⟨HN.out.trans (idx_next p l i hi hlg)⟩
    rw[hlg] at HY
    clear hlg
    generalize l[i]=x at hx0 hx1 hx2 HY
    go_wp2_with (go_at_call 251;refine(HY.out _ (HW.out.trans ((one _ _).mono HW.out.size))).mono ?_;rintro e w3 ⟨rfl,b3⟩)
    have b3':Aside0 (Below w.heap.size w w3):=⟨(HW.out.trans ((one _ _).mono HW.out.size)).trans (b3.mono (HW.out.trans ((one wr _).mono HW.out.size)).size)⟩
    clear b3
    go_wp2
    go_roundg (gk - 1)
    case measure=>have:=HK.out;omega
    case rel=>exact⟨i+1,by go_num,⟨by have:=HK.out;omega⟩,HZ,b3'⟩
  ·have c0b:decide ((i:Int)<(l.length:Int))=false:=decide_eq_false (by omega)
   have HZ:Hid (idx p l 0= -1):=h_ (by rw[HN.out,List.drop_of_length_le (by omega)];rfl)
   go_wp2
   go_ret
   exact HF.out _ _ HZ.out HW.out
def sizeW (l:List Wr):Nat:=(l.map fun x=>x.key.size+x.val.size).sum
theorem sizeW_next (l:List Wr)(i:Nat)(hi:i<l.length):sizeW (l.drop i)=(l[i].key.size+l[i].val.size)+sizeW (l.drop (i+1)):=by
 rw[List.drop_eq_getElem_cons hi]
 unfold sizeW
 rw[List.map_cons,List.sum_cons]
theorem view_size (v:Value)(l:List Wr)(w:World)(h:Rs tyWr 212 w v l)(hl:l.length≤100000)(hs:sizeW l≤1000000000):
  Calls Tryz.prog 224 #[v] w fun e w'=>e= .returned (.int .i64 (sizeW l))∧Below w.heap.size w w':=by
 obtain⟨A,c,rfl,hc,-⟩:=at_Wr h
 have HR:=h_ h
 have HL:=h_ hl
 have HS:=h_ hs
 have b0':Aside0 (Below w.heap.size w w):=⟨Below.refl _ _⟩
 have HF:Hid (∀(z:Nat) (w':World),z=sizeW l→Below w.heap.size w w'→(Ending.returned (.int .i64 (z:Int))=Ending.returned (.int .i64 (sizeW l:Int))∧Below w.heap.size w w')):=h_ fun z w' h1 h2=>⟨by rw[h1],h2⟩
 clear h hl hs
 go_enter Tryz.func224,Tryz.ntmps224
 go_wp2
 go_loopg [3,5,8] l.length (fun kq v3 v5 v8 w'=>∃i z:Nat,v8= .int .i64 i∧v3= .int .i64 z∧Aside0 (kq+i=l.length)∧Aside0 (z+sizeW (l.drop i)=sizeW l)∧Aside0 (Below w.heap.size w w'))
 case atStart=>exact⟨0,0,rfl,rfl,⟨by omega⟩,⟨by simp⟩,b0'⟩
 case round=>
  obtain⟨i,z,rfl,rfl,HK,HN,HW⟩:=hrel
  clear b0'
  by_cases hi:i<l.length
  ·have c0b:decide ((i:Int)<(l.length:Int))=true:=decide_eq_true (by omega)
   obtain⟨A',c',e1,_,hat⟩:=at_Wr (HR.out.below HW.out)
   cases e1
   obtain⟨ad,e2,hx0,hx1,hx2⟩:=hat i hi
   subst e2
   clear hat
   have hp:((0:Int)≤(i:Int))=True:=eq_true (by omega)
   have hq:((i:Int)<(l.length:Int))=True:=eq_true (by omega)
   have hi40:(i:Int)≤100000:=by have:=HL.out;omega
   have hsum:=sizeW_next l i hi
   have hle:z+(l[i].key.size+l[i].val.size)≤1000000000:=by have:=HN.out;have:=HS.out;omega
   have HZ:Aside0 ((z+(l[i].key.size+l[i].val.size))+sizeW (l.drop (i+1))=sizeW l):=⟨by have:=HN.out;omega⟩
   clear hsum
   generalize l[i]=x at hx0 hx1 hx2 hle HZ
   have hw1:IntKind.i64.wrap ((x.key.size:Int)+(x.val.size:Int))=(x.key.size:Int)+(x.val.size:Int):=by rw[IntKind.wrap_i64];omega
   have hw2:IntKind.i64.wrap ((z:Int)+((x.key.size:Int)+(x.val.size:Int)))=((z+(x.key.size+x.val.size):Nat):Int):=by rw[IntKind.wrap_i64];omega
   clear hle
   go_wp2
   go_roundg (gk - 1)
   case measure=>have:=HK.out;omega
   case rel=>exact⟨i+1,z+(x.key.size+x.val.size),by go_num,by first|rfl|(show Value.int _ _=Value.int _ _;congr 1;push_cast;omega),⟨by have:=HK.out;omega⟩,HZ,⟨HW.out.alloc HW.out.size _⟩⟩
  ·have c0b:decide ((i:Int)<(l.length:Int))=false:=decide_eq_false (by omega)
   have HZ:Hid (z=sizeW l):=h_ (by have:=HN.out;rw[List.drop_of_length_le (by omega)] at this;simpa [sizeW] using this)
   go_wp2
   go_ret
   exact HF.out _ _ HZ.out HW.out
theorem idx_cases' {α:Type}(p:α→Bool):∀(l:List α) (k:Nat),(idx p l k= -1∧∀x∈l,p x=false)∨∃(i:Nat) (hi:i<l.length),idx p l k=((k+i:Nat):Int)∧p l[i]=true∧∀(j:Nat) (hj:j<i),p (l[j]'(Nat.lt_trans hj hi))=false
 | [],k=> .inl ⟨rfl,fun x hx=>by cases hx⟩
 |x :: l,k=>by
  by_cases h:p x=true
  ·refine .inr ⟨0,by simp,?_,by simpa using h,fun j hj=>by omega⟩
   rw[idx,if_pos h]
   rfl
  ·have h':p x=false:=by simpa using h
   rcases idx_cases' p l (k+1)with ⟨h1,h2⟩|⟨i,hi,h1,h2,h3⟩
   ·refine .inl ⟨?_,fun y hy=>?_⟩
    ·rw [idx,if_neg h]
     exact h1
    ·rcases List.mem_cons.1 hy with rfl|hy
     ·exact h'
     ·exact h2 y hy
   ·refine .inr ⟨i+1,by simpa using hi,?_,by simpa using h2,fun j hj=>?_⟩
    ·rw [idx,if_neg h]
     have h4:idx p l ((k:Int)+1)=((k+1+i:Nat):Int):=h1
     rw[h4]
     congr 1
     omega
    ·cases j with
     |zero=>simpa using h'
     |succ j=>simpa using h3 j (by omega)
theorem idx_cases {α:Type}(p:α→Bool)(l:List α):(idx p l 0= -1∧∀x∈l,p x=false)∨∃(i:Nat) (hi:i<l.length),idx p l 0=(i:Int)∧p l[i]=true∧∀(j:Nat) (hj:j<i),p (l[j]'(Nat.lt_trans hj hi))=false:=by
 rcases idx_cases' p l 0 with h|⟨i,hi,h1,h2,h3⟩
 ·exact .inl h
 ·exact .inr ⟨i,hi,by rw[show(i:Int)=((0+i:Nat):Int)by simp];exact h1,h2,h3⟩
theorem append_full {α:Type}(T:Ty α){P:Program}(W:World)(t ty e:TypeId)(i:TypeInfo)(z:Value)(ht:P.underlying t=some (.slice e))(hi:P.info? e=some i)(hz:i.zero=some z)(hzs:z.cells.size=T.sz)(hs:i.size=T.sz)(hb:i.bytes≤1000)
  (b Y:Nat) (l:List α) (x:α) (h:Rs T e W (.slice (some ⟨b,0,none⟩) l.length l.length) l) (hl:l.length≤1000) (hY:W.heap[Y]? =some (.cells (T.enc x).toArray e (0,0))):
  ∃g cap w',(Builtin.append_ #[t,t] ty #[.slice (some ⟨b,0,none⟩) l.length l.length,.slice (some ⟨Y,0,none⟩) 1 1]).run P W= .ok (.slice (some ⟨g,0,none⟩) (l.length+1) cap) w'∧Rs T e w' (.slice (some ⟨g,0,none⟩) (l.length+1) cap) (l++ [x])∧Below W.heap.size W w':=by
 have hcell:∀(j:Nat) (u:Value),(T.all l)[j]? =some u→W.cell? ⟨b,j,none⟩=some u:=by
  rcases h with⟨_,h⟩|⟨b',c',cur,fr,hv',_,h2,h3⟩
  ·cases h
  ·cases hv'
   exact fun j u hj=>by rw[cell_of_row W b j cur e fr h2];exact h3 j u hj
 have hcap:l.length<l.length+1:=by omega
 have hfit:=growslice_fits (need:=l.length+1) (old:=l.length) (bytes:=i.bytes) hcap (by
  have:(l.length+1)*i.bytes≤1001*1000:=Nat.mul_le_mul (by omega) hb
  omega)
 have hr:=run_append_grow (P:=P) W t ty e i z ht hi hz ⟨b,0,none⟩ l.length l.length (T.all l) (by rw[T.all_len,hs]) (fun j v hj=>by rw[add0];exact hcell j v hj) ⟨Y,0,none⟩ 1 1 (T.enc x) (by rw[T.len,hs,Nat.one_mul]) (fun j v hj=>by rw[add0,bq hY];simpa using hj) hcap (by omega) hfit
 have hge:=grownCap_ge W (l.length+1) l.length e
 refine⟨_,_,_,hr,.inr ⟨W.heap.size,_,_,(0,0),by rw[List.length_append,List.length_singleton],by rw[List.length_append,List.length_singleton];exact hge,heap_alloc_new W.drew _,fun j u hj=>?_⟩,(drew_below W).trans (one W.drew _)⟩
 rw[T.all_app,T.all_single] at hj
 have hj':=(List.getElem?_eq_some_iff.1 hj).1
 rw[Array.getElem?_append_left (by simpa using hj')]
 simpa using hj
theorem Rs.trim {α:Type}{T:Ty α}{e:TypeId}{w:World}{b n c:Nat}{l:List α}(h:Rs T e w (.slice (some ⟨b,0,none⟩) n c) l):Rs T e w (.slice (some ⟨b,0,none⟩) l.length l.length) l:=by
 rcases h with⟨_,h⟩|⟨b',c',cur,fr,hv',_,h2,h3⟩
 ·cases h
 ·cases hv'
  exact .inr ⟨b,l.length,cur,fr,rfl,Nat.le_refl _,h2,h3⟩
def GetR (l:List Wr)(v:ByteArray):Prop:=v=⟨#[]⟩∨∃x∈l,v=x.val
theorem view_get (s:Value)(l:List Wr)(key:ByteArray)(w:World)(h:Rs tyWr 212 w s l)(hl:l.length≤1000):
  Calls Tryz.prog 221 #[s,.slice none 0 0,.string key] w fun e w'=>∃v fd,e= .returned (.tuple #[.string v,.bool fd])∧GetR l v∧Below w.heap.size w w':=by
 obtain⟨A,c,rfl,hc,-⟩:=at_Wr h
 have HR:=h_ h
 have HL:=h_ hl
 clear h
 rcases idx_cases (fun y:Wr=>sq y.key key) l with⟨hx,_⟩|⟨i,hi,hx,_,_⟩
 ·have HX:=h_ hx
  clear hx
  go_enter Tryz.func221,Tryz.ntmps221
  go_wp2_with fail
  refine(first_get1 _ l key w.heap.size _ (Rs.below HR.out (one _ _)) (by have:=HL.out;omega) (cell_new' _ _ _ _ _ _ rfl rfl)).mono ?_
  rintro e w1 ⟨rfl,hb⟩
  rw[HX.out]
  have kB:=bb (blk_new w (.cells #[.string key] 9)) hb
  have c0:=bq kB 0
  have HB:=h_ (below_call (below_alloc (Below.refl w.heap.size w) _) hb)
  clear hb kB
  go_wp2_with fail
  refine(table_find0 key _).mono ?_
  rintro e w2 ⟨rfl,hb⟩
  have HB2:=h_ (below_call HB.out hb)
  clear hb c0
  go_wp2
  go_ret2
  exact⟨_,_,rfl,.inl rfl,HB2.out⟩
 ·have HX:=h_ hx
  clear hx
  go_enter Tryz.func221,Tryz.ntmps221
  go_wp2_with fail
  refine(first_get1 _ l key w.heap.size _ (Rs.below HR.out (one _ _)) (by have:=HL.out;omega) (cell_new' _ _ _ _ _ _ rfl rfl)).mono ?_
  rintro e w1 ⟨rfl,hb⟩
  rw[HX.out]
  have HB:=h_ (below_call (below_alloc (Below.refl w.heap.size w) _) hb)
  have hR1:=Rs.below HR.out HB.out
  obtain⟨A',c',e1,_,hat⟩:=at_Wr hR1
  cases e1
  obtain⟨ad,e2,hx0,hx1,hx2⟩:=hat i hi
  subst e2
  clear hat hR1 hb
  have hp:((0:Int)≤(i:Int))=True:=eq_true (by omega)
  have hn:((i:Int)<0)=False:=eq_false (by omega)
  have hq:((i:Int)<(l.length:Int))=True:=eq_true (by omega)
  have hi40:(i:Int)≤100000:=by omega
  have HM:Hid (l[i]∈l):=h_ (List.getElem_mem hi)
  generalize l[i]=x at hx0 hx1 hx2 HM
  cases hd:x.del with
  |true=>
   rw[hd] at hx2
   go_wp2
   go_ret2
   exact⟨_,_,rfl,.inl rfl,HB.out⟩
  |false=>
   rw[hd] at hx2
   go_wp2
   go_ret2
   exact⟨_,_,rfl,.inr ⟨x,HM.out,rfl⟩,HB.out⟩
def SetR (l:List Wr)(x:Wr)(l':List Wr):Prop:=
 (∃(i:Nat) (hi:i<l.length),sq l[i].key x.key=true∧l'=l.set i x)∨
 ((∀y∈l,sq y.key x.key=false)∧(((∀y∈l,Op.bytesLess x.key.toList y.key.toList=false)∧l'=l++ [x])∨
  ∃(i:Nat) (hi:i<l.length),Op.bytesLess x.key.toList l[i].key.toList=true∧(∀(j:Nat) (hj:j<i),Op.bytesLess x.key.toList (l[j]'(Nat.lt_trans hj hi)).key.toList=false)∧l'=l.take i++x :: l.drop i))
theorem szWr:(Tryz.prog.info? 212).map (·.size)=some 3:=by
 obtain⟨i0,h,_,h1,_⟩:=info_parts infoWr
 rw[h]
 simp[h1]
def SetV (l:List Wr)(x:Wr)(w:World)(en:Ending)(w':World):Prop:=∃l',RsV tyWr 212 l' w en w'∧SetR l x l'
theorem view_set_nil (x:Wr)(w:World):Calls Tryz.prog 223 #[.slice none 0 0,.agg #[.string x.key,.string x.val,.bool x.del]] w (SetV [] x w):=by
 have hs:∀u:World,(Instr.slice 139 (.slice none 0 0) none (some (.int .i64 0)) (some (.int .i64 0))).run Tryz.prog u= .ok (.slice none 0 0) u:=fun u=>run_slice_full u 139 212 3 Tryz.underlying139 szWr none 0 0 (fun _ h=>by cases h) (Nat.le_refl _)
 have HB:Hid (Below w.heap.size w w):=h_ (Below.refl _ _)
 go_enter Tryz.func223,Tryz.ntmps223
 go_wp2_with fail
 refine(first_set1 (.slice none 0 0) [] x.key w.heap.size _ (Rs.nil _ _ _) (by decide) (bq (blk_new' _ _ _ (by simp)) 0)).mono ?_
 rintro e w1 ⟨rfl,hb⟩
 rw[show(idx (fun y:Wr=>sq y.key x.key) ([]:List Wr) 0:Int)= -1 from rfl]
 obtain⟨hz,_,hb,KX⟩:=na1 hb
 obtain⟨hz,HB⟩:=m1 hb HB
 obtain⟨X0,Xf0,X1,Xf1,X2,Xf2⟩:=cells3 KX.out
 go_wp2_with fail
 refine(first_set2 (.slice none 0 0) [] x.key w.heap.size _ (Rs.nil _ _ _) (by decide) (bq KX.out 0)).mono ?_
 rintro e w2 ⟨rfl,hb⟩
 rw[show(idx (fun y:Wr=>Op.bytesLess x.key.toList y.key.toList) ([]:List Wr) 0:Int)= -1 from rfl]
 clear X0 Xf0 X1 Xf1 X2 Xf2
 obtain⟨hz,KX,HB⟩:=m2 hb KX HB
 obtain⟨X0,Xf0,X1,Xf1,X2,Xf2⟩:=cells3 KX.out
 go_wp2_with (at_builtin;refine print_append_cells (w0:=_) _ rfl _ _ 139 212 _ 3 40 rfl Tryz.underlying139 infoWr rfl (by decide) (by decide) (.slice none 0 0) 0 [] (tyWr.enc x) rfl rfl rfl (tyWr.one _) (World.ownsRow_nil _ _ _ _) (Below.refl _ _) (Nat.le_refl _) ?_ ?_)
 ·decide
 intro v_ w3 hown hb _ _
 obtain⟨g,cap,cur,rfl,_,_,_,_,_⟩:=own_form hown (Nat.succ_pos 0)
 have HR:=h_ (Rs.of_own (T:=tyWr) (l:= [x]) hown)
 clear hown
 clear X0 Xf0 X1 Xf1 X2 Xf2
 obtain⟨hz,KX,HB⟩:=m2 hb KX HB
 obtain⟨X0,Xf0,X1,Xf1,X2,Xf2⟩:=cells3 KX.out
 go_wp2
 go_ret
 exact⟨[x],⟨_,rfl,HR.out,HB.out⟩,.inr ⟨(fun _ h=>by cases h),.inl ⟨(fun _ h=>by cases h),rfl⟩⟩⟩
theorem view_set_hit (b c:Nat)(l:List Wr)(x:Wr)(w:World)(h:Rs tyWr 212 w (.slice (some ⟨b,0,none⟩) l.length c) l)(hl:l.length≤1000)(hc:l.length≤c)(i:Nat)(hi:i<l.length)(hx:Hid (idx (fun y:Wr=>sq y.key x.key) l 0=(i:Int)))(hq:Hid (sq l[i].key x.key=true)):
  Calls Tryz.prog 223 #[.slice (some ⟨b,0,none⟩) l.length c,.agg #[.string x.key,.string x.val,.bool x.del]] w (SetV l x w):=by
 have hsz:(Tryz.prog.info? 212).map (·.size)=some 3:=szWr
 have hs:∀u:World,(Instr.slice 139 (.slice (some ⟨b,0,none⟩) l.length c) none (some (.int .i64 l.length)) (some (.int .i64 l.length))).run Tryz.prog u= .ok (.slice (some ⟨b,0,none⟩) l.length l.length) u:=fun u=>run_slice_full u 139 212 3 Tryz.underlying139 hsz (some ⟨b,0,none⟩) l.length c (fun ad h=>by cases h;exact⟨b,0,rfl⟩) hc
 have hT:=Rs.trim h
 clear h hsz
 have HL:=h_ hl
 have HB:Hid (Below w.heap.size w w):=h_ (Below.refl _ _)
 have HR:=h_ hT
 clear hT
 go_enter Tryz.func223,Tryz.ntmps223
 have hp:((0:Int)≤(i:Int))=True:=eq_true (by omega)
 have hn:((i:Int)<0)=False:=eq_false (by omega)
 have hq2:((i:Int)<(l.length:Int))=True:=eq_true (by omega)
 have hi40:(i:Int)≤100000:=by omega
 go_wp2_with fail
 refine(first_set1 _ l x.key w.heap.size _ (Rs.below HR.out (below_alloc HB.out _)) (by have:=HL.out;omega) (bq (blk_new' _ _ _ (by simp)) 0)).mono ?_
 rintro e w1 ⟨rfl,hb⟩
 rw[hx.out]
 obtain⟨hz,_,hb,KX⟩:=na1 hb
 obtain⟨hz,HB⟩:=m1 hb HB
 obtain⟨X0,Xf0,X1,Xf1,X2,Xf2⟩:=cells3 KX.out
 go_wp2_with fail
 refine(clone_Wr _ l _ (Rs.below HR.out HB.out) (by have:=HL.out;omega)).mono ?_
 rintro e w2 ⟨v2,rfl,hown,hb⟩
 obtain⟨q,cap,cur,rfl,hcap,hq0,hqk,hqs,hqc⟩:=own_form hown (by omega)
 have HQC:=h_ hqc
 have KC:=h_ hqk
 clear hown hqc hqk
 clear X0 Xf0 X1 Xf1 X2 Xf2
 obtain⟨hz,KX,HB⟩:=m2 hb KX HB
 obtain⟨X0,Xf0,X1,Xf1,X2,Xf2⟩:=cells3 KX.out
 have hqs':i*3+3≤cur.size:=by rw[hqs];show i*3+3≤cap*3;omega
 have hqX:q≠w.heap.size:=by omega
 have hqX2:=hqX.symm
 go_wp2_with (refine wpList_store_mid (by rfl) 212 _ _ (by rfl) q (i*3) #[.string x.key,.string x.val,.bool x.del] (by rfl) (by rfl) (there_at KC.out (i*3) 3 (by omega)) (by kernel_rfl) (by first|kernel_rfl|simp[Value.oneCell']) ?_;rw[put_cells])
 have HT:=h_ (own_put (T:=tyWr) (l:=l) i x hi hcap KC.out hqs HQC.out)
 go_ret
 exact⟨l.set i x,⟨_,rfl,HT.out,Below.later HB.out (putAt_only q (tyWr.enc x) w2 (i*3)) (by omega) HB.out.size⟩,.inl ⟨i,hi,hq.out,rfl⟩⟩
theorem view_set_last (b c:Nat)(l:List Wr)(x:Wr)(w:World)(h:Rs tyWr 212 w (.slice (some ⟨b,0,none⟩) l.length c) l)(hl:l.length≤1000)(hc:l.length≤c)(hx:Hid (idx (fun y:Wr=>sq y.key x.key) l 0= -1))(hq:Hid (∀y∈l,sq y.key x.key=false))(hx2:Hid (idx (fun y:Wr=>Op.bytesLess x.key.toList y.key.toList) l 0= -1))(hq2:Hid (∀y∈l,Op.bytesLess x.key.toList y.key.toList=false)):
  Calls Tryz.prog 223 #[.slice (some ⟨b,0,none⟩) l.length c,.agg #[.string x.key,.string x.val,.bool x.del]] w (SetV l x w):=by
 have hsz:(Tryz.prog.info? 212).map (·.size)=some 3:=szWr
 have hs:∀u:World,(Instr.slice 139 (.slice (some ⟨b,0,none⟩) l.length c) none (some (.int .i64 l.length)) (some (.int .i64 l.length))).run Tryz.prog u= .ok (.slice (some ⟨b,0,none⟩) l.length l.length) u:=fun u=>run_slice_full u 139 212 3 Tryz.underlying139 hsz (some ⟨b,0,none⟩) l.length c (fun ad h=>by cases h;exact⟨b,0,rfl⟩) hc
 have hT:=Rs.trim h
 clear h hsz
 have HL:=h_ hl
 have HB:Hid (Below w.heap.size w w):=h_ (Below.refl _ _)
 have HR:=h_ hT
 clear hT
 go_enter Tryz.func223,Tryz.ntmps223
 go_wp2_with fail
 refine(first_set1 _ l x.key w.heap.size _ (Rs.below HR.out (below_alloc HB.out _)) (by have:=HL.out;omega) (bq (blk_new' _ _ _ (by simp)) 0)).mono ?_
 rintro e w1 ⟨rfl,hb⟩
 rw[hx.out]
 obtain⟨hz,_,hb,KX⟩:=na1 hb
 obtain⟨hz,HB⟩:=m1 hb HB
 obtain⟨X0,Xf0,X1,Xf1,X2,Xf2⟩:=cells3 KX.out
 go_wp2_with fail
 refine(first_set2 _ l x.key w.heap.size _ (Rs.below HR.out HB.out) (by have:=HL.out;omega) (bq KX.out 0)).mono ?_
 rintro e w2 ⟨rfl,hb⟩
 rw[hx2.out]
 clear X0 Xf0 X1 Xf1 X2 Xf2
 obtain⟨hz,KX,HB⟩:=m2 hb KX HB
 obtain⟨X0,Xf0,X1,Xf1,X2,Xf2⟩:=cells3 KX.out
 obtain⟨i0,hInf,hz0,hz1,hz2⟩:=info_parts infoWr
 obtain⟨g,cap,w3,hrun,hR3,hb⟩:=append_full tyWr (w2.alloc (.cells #[.string x.key,.string x.val,.bool x.del] 212)) 139 139 212 i0 _ Tryz.underlying139 hInf hz0 rfl hz1 (by rw[hz2];decide) b w2.heap.size l x (Rs.below (Rs.below HR.out HB.out) (one _ _)) hl (blk_new _ _)
 have HRUN:=h_ hrun
 have HR3:=h_ hR3
 have HB3:=h_ (below_call (below_alloc HB.out _) hb)
 clear hrun hR3 hb hz0 hz1 hz2 hInf
 go_wp2_with (at_builtin;refine wpList_append_run rfl _ _ 139 139 rfl _ _ rfl rfl _ _ HRUN.out ?_)
 go_ret
 exact⟨l++ [x],⟨_,rfl,HR3.out,HB3.out⟩,.inr ⟨hq.out,.inl ⟨hq2.out,rfl⟩⟩⟩
theorem view_set_mid (b c:Nat)(l:List Wr)(x:Wr)(w:World)(h:Rs tyWr 212 w (.slice (some ⟨b,0,none⟩) l.length c) l)(hl:l.length≤1000)(hc:l.length≤c)(hx:Hid (idx (fun y:Wr=>sq y.key x.key) l 0= -1))(hq:Hid (∀y∈l,sq y.key x.key=false))(i:Nat)(hi:i<l.length)(hx2:Hid (idx (fun y:Wr=>Op.bytesLess x.key.toList y.key.toList) l 0=(i:Int)))(hq2:Hid (Op.bytesLess x.key.toList l[i].key.toList=true))(hq3:Hid (∀(j:Nat) (hj:j<i),Op.bytesLess x.key.toList (l[j]'(Nat.lt_trans hj hi)).key.toList=false)):
  Calls Tryz.prog 223 #[.slice (some ⟨b,0,none⟩) l.length c,.agg #[.string x.key,.string x.val,.bool x.del]] w (SetV l x w):=by
 have hsz:(Tryz.prog.info? 212).map (·.size)=some 3:=szWr
 have hs:∀u:World,(Instr.slice 139 (.slice (some ⟨b,0,none⟩) l.length c) none (some (.int .i64 l.length)) (some (.int .i64 l.length))).run Tryz.prog u= .ok (.slice (some ⟨b,0,none⟩) l.length l.length) u:=fun u=>run_slice_full u 139 212 3 Tryz.underlying139 hsz (some ⟨b,0,none⟩) l.length c (fun ad h=>by cases h;exact⟨b,0,rfl⟩) hc
 have hT:=Rs.trim h
 clear h hsz
 have HL:=h_ hl
 have HB:Hid (Below w.heap.size w w):=h_ (Below.refl _ _)
 have HR:=h_ hT
 clear hT
 go_enter Tryz.func223,Tryz.ntmps223
 have hn:((i:Int)<0)=False:=eq_false (by omega)
 have hn2:¬((i:Int)<0):=by omega
 go_wp2_with fail
 refine(first_set1 _ l x.key w.heap.size _ (Rs.below HR.out (below_alloc HB.out _)) (by have:=HL.out;omega) (bq (blk_new' _ _ _ (by simp)) 0)).mono ?_
 rintro e w1 ⟨rfl,hb⟩
 rw[hx.out]
 obtain⟨hz,_,hb,KX⟩:=na1 hb
 obtain⟨hz,HB⟩:=m1 hb HB
 obtain⟨X0,Xf0,X1,Xf1,X2,Xf2⟩:=cells3 KX.out
 go_wp2_with fail
 refine(first_set2 _ l x.key w.heap.size _ (Rs.below HR.out HB.out) (by have:=HL.out;omega) (bq KX.out 0)).mono ?_
 rintro e w2 ⟨rfl,hb⟩
 rw[hx2.out]
 clear X0 Xf0 X1 Xf1 X2 Xf2
 obtain⟨hz,KX,HB⟩:=m2 hb KX HB
 obtain⟨X0,Xf0,X1,Xf1,X2,Xf2⟩:=cells3 KX.out
 go_wp2_with fail
 refine(insert_wr b i w2.heap.size l x _ (Rs.below (Rs.below HR.out HB.out) (one _ _)) hi hl (blk_new _ _)).mono ?_
 rintro e w3 ⟨v3,rfl,hR3,hb⟩
 have HR3:=h_ hR3
 have HB3:=h_ (below_call (below_alloc HB.out _) hb)
 clear hR3 hb
 go_wp2
 go_ret
 exact⟨_,⟨v3,rfl,HR3.out,HB3.out⟩,.inr ⟨hq.out,.inr ⟨i,hi,hq2.out,hq3.out,rfl⟩⟩⟩
theorem view_set (s:Value)(l:List Wr)(x:Wr)(w:World)(h:Rs tyWr 212 w s l)(hl:l.length≤1000):Calls Tryz.prog 223 #[s,.agg #[.string x.key,.string x.val,.bool x.del]] w (SetV l x w):=by
 rcases h with⟨rfl,rfl⟩|⟨b,c,cur,fr,rfl,hc,h2,h3⟩
 ·exact view_set_nil x w
 have hR:Rs tyWr 212 w (.slice (some ⟨b,0,none⟩) l.length c) l:= .inr ⟨b,c,cur,fr,rfl,hc,h2,h3⟩
 rcases idx_cases (fun y:Wr=>sq y.key x.key) l with⟨h4,h5⟩|⟨i,hi,h4,h5,_⟩
 ·rcases idx_cases (fun y:Wr=>Op.bytesLess x.key.toList y.key.toList) l with⟨h6,h7⟩|⟨i,hi,h6,h7,h8⟩
  ·exact view_set_last b c l x w hR hl hc (h_ h4) (h_ h5) (h_ h6) (h_ h7)
  ·exact view_set_mid b c l x w hR hl hc (h_ h4) (h_ h5) i hi (h_ h6) (h_ h7) (h_ h8)
 ·exact view_set_hit b c l x w hR hl hc i hi (h_ h4) (h_ h5)
def applied (l:List Wr):List Pr:=(l.filter fun x=> !x.del).map fun x=>⟨x.key,x.val⟩
theorem applied_next (l:List Wr)(i:Nat)(hi:i<l.length):applied (l.take (i+1))=applied (l.take i)++(if l[i].del then [] else [⟨l[i].key,l[i].val⟩]):=by
 rw[List.take_succ_eq_append_getElem hi]
 unfold applied
 rw[List.filter_append,List.map_append]
 cases h:l[i].del <;> simp[h]
theorem applied_mem {l:List Wr}{p:Pr}(h:p∈applied l):∃x∈l,p=⟨x.key,x.val⟩:=by
 obtain⟨x,hx,rfl⟩:=List.mem_map.1 h
 exact⟨x,(List.mem_filter.1 hx).1,rfl⟩
theorem applied_len (l:List Wr):(applied l).length≤l.length:=by
 unfold applied
 rw[List.length_map]
 exact List.length_filter_le _ _
def Rises (l:List Wr):Prop:=l.Pairwise fun x y=>Op.bytesLess x.key.toList y.key.toList=true
theorem less_not {a b:List UInt8}(h:Op.bytesLess a b=true):Op.bytesLess b a=false∧(a==b)=false:=by
 rw[bl_lt] at h⊢
 have h':a<b:=by simpa using h
 constructor
 ·have:¬b<a:=by grind
  simp[this]
 ·exact beq_eq_false_iff_ne.mpr (fun e=>by subst e;exact absurd h' (by simp))
theorem rises_before {l:List Wr}(h:Rises l)(i:Nat)(hi:i<l.length):∀y∈applied (l.take i),sq y.key l[i].key=false∧Op.bytesLess l[i].key.toList y.key.toList=false:=by
 intro y hy
 obtain⟨x,hx,rfl⟩:=applied_mem hy
 obtain⟨j,hj,rfl⟩:=List.getElem_of_mem hx
 rw[List.length_take] at hj
 rw[List.getElem_take]
 have h1:=List.pairwise_iff_getElem.1 h j i (by omega) hi (by omega)
 obtain⟨h2,h3⟩:=less_not h1
 exact⟨h3,h2⟩
theorem table_apply (s:Value)(l:List Wr)(w:World)(h:Rs tyWr 212 w s l)(hl:l.length≤1000)(hr:Rises l):
  Calls Tryz.prog 110 #[.slice none 0 0,s] w (RsV tyPr 123 (applied l) w):=by
 obtain⟨A,c,rfl,hc,-⟩:=at_Wr h
 have HR:=h_ h
 have HL:=h_ hl
 have HS:=h_ hr
 have HF:Hid (∀(z:Value) (w':World),Rs tyPr 123 w' z (applied l)→Below w.heap.size w w'→RsV tyPr 123 (applied l) w (.returned z) w'):=h_ fun z w' h1 h2=>⟨z,rfl,h1,h2⟩
 clear h hl hr
 go_enter Tryz.func110,Tryz.ntmps110
 go_wp2_with fail
 refine(clone_nil_Pr _).mono ?_
 rintro e w1 ⟨rfl,rfl⟩
 go_wp2
 go_loopg [0,6,7,12] l.length (fun kq v0 v6 v7 v12 w'=>∃i:Nat,v12= .int .i64 i∧Aside0 (kq+i=l.length)∧Aside0 (Rs tyPr 123 w' v0 (applied (l.take i)))∧Aside0 (Below w1.heap.size w1 w'))
 case atStart=>exact⟨0,rfl,⟨by omega⟩,⟨Rs.nil _ _ _⟩,⟨Below.refl _ _⟩⟩
 case round=>
  obtain⟨i,rfl,HK,HN,HW⟩:=hrel
  by_cases hi:i<l.length
  ·have c0b:decide ((i:Int)<(l.length:Int))=true:=decide_eq_true (by omega)
   obtain⟨A',c',e1,_,hat⟩:=at_Wr (HR.out.below HW.out)
   cases e1
   obtain⟨ad,e2,hx0,hx1,hx2⟩:=hat i hi
   subst e2
   clear hat
   have hp:((0:Int)≤(i:Int))=True:=eq_true (by omega)
   have hq:((i:Int)<(l.length:Int))=True:=eq_true (by omega)
   have hi40:(i:Int)≤100000:=by have:=HL.out;omega
   have HB4:=h_ (rises_before HS.out i hi)
   have HNX:=h_ (applied_next l i hi)
   have HLE:Hid ((applied (l.take i)).length≤1000):=h_ (by have:=applied_len (l.take i);have:=HL.out;rw[List.length_take] at *;omega)
   generalize l[i]=x at hx0 hx1 hx2 HB4 HNX
   cases hd:x.del with
   |true=>
    have HNX2:Hid (applied (l.take (i+1))=applied (l.take i)):=h_ (by rw[HNX.out,hd];simp)
    rw[hd] at hx2
    go_wp2_with fail
    refine(hd▸tw_drop u0 (applied (l.take i)) x _ (Rs.below HN.out (one _ _)) HLE.out (fun y hy=>(HB4.out y hy).1)).mono ?_
    rintro e w3 ⟨v3,rfl,hR,hb⟩
    have HR3:Aside0 (Rs tyPr 123 w3 v3 (applied (l.take (i+1)))):=⟨by rw[HNX2.out];exact hR⟩
    have HW3:Aside0 (Below w1.heap.size w1 w3):=⟨below_call (below_alloc HW.out _) hb⟩
    clear hR hb
    go_wp2
    go_roundg (gk - 1)
    case measure=>have:=HK.out;omega
    case rel=>exact⟨i+1,by go_num,⟨by have:=HK.out;omega⟩,HR3,HW3⟩
   |false=>
    have HNX2:Hid (applied (l.take (i+1))=applied (l.take i)++ [⟨x.key,x.val⟩]):=h_ (by rw[HNX.out,hd];simp)
    rw[hd] at hx2
    go_wp2_with fail
    refine(hd▸tw_put u0 (applied (l.take i)) x _ (Rs.below HN.out (one _ _)) HLE.out (fun y hy=>(HB4.out y hy).1) (fun y hy=>(HB4.out y hy).2)).mono ?_
    rintro e w3 ⟨v3,rfl,hR,hb⟩
    have HR3:Aside0 (Rs tyPr 123 w3 v3 (applied (l.take (i+1)))):=⟨by rw[HNX2.out];exact hR⟩
    have HW3:Aside0 (Below w1.heap.size w1 w3):=⟨below_call (below_alloc HW.out _) hb⟩
    clear hR hb
    go_wp2
    go_roundg (gk - 1)
    case measure=>have:=HK.out;omega
    case rel=>exact⟨i+1,by go_num,⟨by have:=HK.out;omega⟩,HR3,HW3⟩
  ·have c0b:decide ((i:Int)<(l.length:Int))=false:=decide_eq_false (by omega)
   have HRF:Hid (Rs tyPr 123 wr u0 (applied l)):=h_ (by have:=HN.out;rw[List.take_of_length_le (by omega)] at this;exact this)
   go_wp2
   go_ret
   exact HF.out _ _ HRF.out HW.out
def RangeV (l:List Pr)(most:Int)(w:World)(en:Ending)(w':World):Prop:=∃m,RsV tyPr 123 m w en w'∧m.Sublist l∧(m.length:Int)≤most
theorem between_some (a b c:ByteArray):∃r,QWi.table_Between.f a b c=some r:=by
 unfold QWi.table_Between.f
 split
 ·exact⟨_,rfl⟩
 ·split <;> exact⟨_,rfl⟩
theorem table_range (s:Value)(l:List Pr)(lo hi:ByteArray)(most:Int)(w:World)(h:Rs tyPr 123 w s l)(hl:l.length≤1000)(hm0:1≤most)(hm1:most≤16):
  Calls Tryz.prog 248 #[s,.string lo,.string hi,.int .i64 most] w (RangeV l most w):=by
 obtain⟨A,c,rfl,hc,-⟩:=at_Pr h
 have HR:=h_ h
 have HL:=h_ hl
 have HF:Hid (∀(m:List Pr) (i:Nat) (z:Value) (w':World),w'.ownsRow w.heap.size 123 2 z m.length (tyPr.all m)→Below w.heap.size w w'→m.Sublist (l.take i)→(m.length:Int)≤most→RangeV l most w (.returned z) w'):=h_ fun m i z w' h1 h2 h3 h4=>⟨m,⟨z,rfl,Rs.of_own (T:=tyPr) h1,h2⟩,h3.trans (List.take_sublist _ _),h4⟩
 clear h hl
 go_enter Tryz.func248,Tryz.ntmps248
 go_wp2
 go_loopg [9,11,14] l.length (fun kq v9 v11 v14 w'=>∃(i:Nat) (m:List Pr) (O:Option Addr) (oc:Nat),v14= .int .i64 i∧v9= .slice O m.length oc∧Aside0 (kq+i=l.length)∧Aside0 (w'.ownsRow w.heap.size 123 2 (.slice O m.length oc) m.length (tyPr.all m))∧Aside0 (m.Sublist (l.take i))∧Aside0 ((m.length:Int)≤most)∧Aside0 (Below w.heap.size w w'))
 case atStart=>exact⟨0,[],none,0,rfl,rfl,⟨by omega⟩,⟨World.ownsRow_nil _ _ _ _⟩,⟨List.Sublist.refl _⟩,⟨by simp;omega⟩,⟨Below.refl _ _⟩⟩
 case round=>
  obtain⟨i,m,O,oc,rfl,rfl,HK,HO,HS,HN,HW⟩:=hrel
  by_cases hi':i<l.length
  ·have c0b:decide ((i:Int)<(l.length:Int))=true:=decide_eq_true (by omega)
   obtain⟨A',c',e1,_,hat⟩:=at_Pr (HR.out.below HW.out)
   cases e1
   obtain⟨ad,e2,hx0,hx1⟩:=hat i hi'
   subst e2
   clear hat
   have hp:((0:Int)≤(i:Int))=True:=eq_true (by omega)
   have hq:((i:Int)<(l.length:Int))=True:=eq_true (by omega)
   have hi40:(i:Int)≤100000:=by have:=HL.out;omega
   have HT:=h_ (List.take_succ_eq_append_getElem hi')
   have HM:Hid (m.length≤1000):=h_ (by have:=HN.out;omega)
   generalize l[i]=x at hx0 hx1 HT
   by_cases hge:most≤(m.length:Int)
   ·have c1:(most≤(m.length:Int))=True:=eq_true hge
    have HO1:=h_ (own_keep HO.out (one wr (.cells #[.string x.key,.string x.val] 123)))
    have HW1:=h_ (below_alloc HW.out (.cells #[.string x.key,.string x.val] 123))
    clear hge
    go_wp2
    go_ret
    exact HF.out m i _ _ HO1.out HW1.out HS.out HN.out
   ·have c1:(most≤(m.length:Int))=False:=eq_false hge
    have HG:Hid ((m.length:Int)+1≤most):=h_ (by omega)
    clear hge
    obtain⟨r,hr⟩:=between_some x.key lo hi
    have HBT:=h_ hr
    clear hr
    cases r with
    |false=>
     go_wp2_with fail
     refine(QWi.table_Between.calls _ _ _ false _ HBT.out).mono ?_
     rintro e w3 ⟨rfl,hd⟩
     have hb:=Drawn0.below hd
     have HO3:Aside0 (w3.ownsRow w.heap.size 123 2 (.slice O m.length oc) m.length (tyPr.all m)):=⟨own_keep (own_keep HO.out (one wr _)) hb⟩
     have HW3:Aside0 (Below w.heap.size w w3):=⟨below_call (below_alloc HW.out _) hb⟩
     have HS3:Aside0 (m.Sublist (l.take (i+1))):=⟨by rw[HT.out];exact HS.out.trans (List.sublist_append_left _ _)⟩
     clear hd hb
     go_wp2
     go_roundg (gk - 1)
     case measure=>have:=HK.out;omega
     case rel=>exact⟨i+1,m,O,oc,by go_num,rfl,⟨by have:=HK.out;omega⟩,HO3,HS3,HN,HW3⟩
    |true=>
     go_wp2_with fail
     refine(QWi.table_Between.calls _ _ _ true _ HBT.out).mono ?_
     rintro e w3 ⟨rfl,hd⟩
     have hb:=Drawn0.below hd
     have HO3:=h_ (own_keep (own_keep HO.out (one wr (.cells #[.string x.key,.string x.val] 123))) hb)
     have HW3:=h_ (below_call (below_alloc HW.out (.cells #[.string x.key,.string x.val] 123)) hb)
     have kp:=bb (blk_new wr (.cells #[.string x.key,.string x.val] 123)) hb
     obtain⟨p0,pf0,p1,pf1⟩:=cells2 kp
     clear hd hb kp
     go_wp2_with (at_builtin;refine print_append_cells (w0:=w) w.heap.size rfl _ _ 31 123 _ 2 32 rfl Tryz.underlying31 infoPr rfl (by decide) (by decide) (.slice O m.length oc) m.length (tyPr.all m) (tyPr.enc x) rfl rfl rfl (tyPr.one _) HO3.out HW3.out HW3.out.size ?_ ?_)
     ·have:=HM.out;omega
     intro v4 w4 hown hB4 _ _
     have hown2:w4.ownsRow w.heap.size 123 2 v4 (m++ [x]).length (tyPr.all (m++ [x])):=by rw[List.length_append,List.length_singleton,Ty.all_app,Ty.all_single];exact hown
     obtain⟨g,cap,cur,rfl,_,_,_,_,_⟩:=own_form hown2 (by simp)
     have HO4:Aside0 (w4.ownsRow w.heap.size 123 2 (.slice (some ⟨g,0,none⟩) (m++ [x]).length cap) (m++ [x]).length (tyPr.all (m++ [x]))):=⟨hown2⟩
     have HW4:Aside0 (Below w.heap.size w w4):=⟨hB4⟩
     have HS4:Aside0 ((m++ [x]).Sublist (l.take (i+1))):=⟨by rw[HT.out];exact HS.out.append_right _⟩
     have HN4:Aside0 (((m++ [x]).length:Int)≤most):=⟨by rw[List.length_append,List.length_singleton];have:=HG.out;push_cast;omega⟩
     clear hown hown2 hB4 p0 p1 pf0 pf1
     generalize hmm:m++ [x]=m2 at HO4 HS4 HN4⊢
     clear hmm
     go_wp2
     go_roundg (gk - 1)
     case measure=>have:=HK.out;omega
     case rel=>exact⟨i+1,m2,some ⟨g,0,none⟩,cap,by go_num,rfl,⟨by have:=HK.out;omega⟩,HO4,HS4,HN4,HW4⟩
  ·have c0b:decide ((i:Int)<(l.length:Int))=false:=decide_eq_false (by omega)
   go_wp2
   go_ret
   exact HF.out m i _ _ HO.out HW.out HS.out HN.out
theorem view_scan (s:Value)(l:List Wr)(lo hi:ByteArray)(most:Int)(w:World)(h:Rs tyWr 212 w s l)(hl:l.length≤1000)(hr:Rises l)(hm0:1≤most)(hm1:most≤16):
  Calls Tryz.prog 222 #[s,.slice none 0 0,.string lo,.string hi,.int .i64 most] w (RangeV (applied l) most w):=by
 have HA:=h_ (table_apply s l w h hl hr)
 have HLE:Hid ((applied l).length≤1000):=h_ (Nat.le_trans (applied_len l) hl)
 clear h hl hr
 go_enter Tryz.func222,Tryz.ntmps222
 go_wp2_with fail
 refine HA.out.mono ?_
 rintro e w1 ⟨v1,rfl,hR,hb⟩
 have HR1:=h_ hR
 have HB:=h_ hb
 clear hR hb
 go_wp2_with fail
 refine(table_range v1 (applied l) lo hi most _ HR1.out HLE.out hm0 hm1).mono ?_
 rintro e w2 ⟨m,⟨v2,rfl,hR,hb⟩,h1,h2⟩
 have HX:Hid (RangeV (applied l) most w (.returned v2) w2):=h_ ⟨m,⟨v2,rfl,hR,below_call HB.out hb⟩,h1,h2⟩
 clear hR hb h1 h2
 go_wp2
 go_ret
 exact HX.out
end Go.Proofs.YtmgmdiekpmffbaaGreatDoor.Top
namespace Go.Proofs.YtmgmdiekpmffbaaGreatDoor.Range
open Go Go.RowKit
variable {F:Fence} {n:Nat} {P:Program}
theorem range_none {g:Operand}{ps:Array Tmp}{assign body:Code}{Q:Exit→Act→World→Prop}{a:Act}{w:World}
  (hro:F.round=none) (h1:1≤n) {gf:Nat} {lb:Array Value} (hg:a.eval g= .func (.func gf) #[] lb) (hFg:F.fn gf) (eg:∀args w,(callFunc gf args).run P w= .ok (.enter gf args) w)
  (hseq:∀(l:Nat) (W:World),Below w.heap.size w W→CallsIn F (n - 1) P gf (#[.func (.yield l) #[] #[]]++lb) W fun e W'=>(∃v,e= .returned v)∧Below W.heap.size W W')
  (hdone:∀(D:Nat) (W:World),w.heap.size≤D→D<W.heap.size→Below w.heap.size w W→W.heap[D]? =some (.deferred (some []))→Q .normal { a with defers:= { target:= .collected D,args:=#[] } :: a.defers } W):
  (Code.rangeFunc g ps assign body).wpIn F n P Q a w:=by
 refine wpIn_rangeFunc fun fn hfn=>?_
 rw[hro]
 let rec_:LoopState→Loop:=fun st=> { state:=st,pending:=none,fn:=fn,tmps:=a.tmps,params:=ps,assign:=assign,body:=body,defers:=w.heap.size }
 let W1:=(w.alloc (.deferred (some []))).alloc (.loop (rec_ .ready))
 have s1:W1.heap.size=w.heap.size+2:=by simp[W1]
 have l1:W1.heap[w.heap.size+1]? =some (.loop (rec_ .ready)):=by
  have h:=World.alloc_heap_new (w.alloc (.deferred (some []))) (.loop (rec_ .ready))
  rwa [World.size_alloc] at h
 have d1:W1.heap[w.heap.size]? =some (.deferred (some [])):=(Below.heap_alloc _ _ _ (by simp)).trans (World.alloc_heap_new w _)
 have b1:Below w.heap.size w W1:=((Below.refl _ w).alloc (Nat.le_refl _) _).alloc (by simp) _
 refine⟨w.heap.size+1,[{ target:= .collected w.heap.size,args:=#[] }],W1,{ target:= .fn (.func gf) lb,args:=#[.func (.yield (w.heap.size+1)) #[] #[]] },W1,gf,
  #[.func (.yield (w.heap.size+1)) #[] #[]]++lb,W1,run_enterLoop_outer _ _ _ _ _,?_,?_,?_,fun _=>h1,?_⟩
 ·simp only[resolve,hg]
  simp[go_sem]
 ·intro f' hf'
  simp[Target.leads] at hf'
  subst hf'
  exact hFg
 ·simp [invoke,go_sem,eg]
 refine(hseq (w.heap.size+1) W1 b1).mono ?_
 rintro e W2 ⟨⟨v,rfl⟩,hb⟩
 have hl:W2.heap[w.heap.size+1]? =some (.loop (rec_ .ready)):=(hb.block _ (by omega)).trans l1
 have hd:W2.heap[w.heap.size]? =some (.deferred (some [])):=(hb.block _ (by omega)).trans d1
 have hz:=hb.size
 refine⟨none,_,run_endLoop (r:=rec_ .ready) hl (by simp[rec_]),hdone _ _ (Nat.le_refl _) (by simp;omega) ?_ ((World.putObj_heap_other (by omega)).trans hd)⟩
 exact(b1.trans (hb.mono (by omega))).grown (grownBy_putObj' W2 (w.heap.size+1) _) (by have:=b1.size;omega) (fun k e=>by cases e;omega)
end Go.Proofs.YtmgmdiekpmffbaaGreatDoor.Range
namespace Go.Proofs.YtmgmdiekpmffbaaGreatDoor.Top
open Go Go.RowKit Go.Proofs.YtmgmdiekpmffbaaGreatDoorW.PrintWords Go.Proofs.YtmgmdiekpmffbaaGreatDoor.Range
theorem getObj_iter {P:Program}{w:World}{r m s c:Nat}{a:Array Nat}(h:w.heap[r]? =some (.mapIter (some m) s a c)):(getObj r).run P w= .ok (.mapIter (some m) s a c) w:=by simp[getObj,Sem.run,h]
theorem getObj_map {P:Program}{w:World}{r c:Nat}{es:Array MapEntry}(h:w.heap[r]? =some (.map es c)):(getObj r).run P w= .ok (.map es c) w:=by simp[getObj,Sem.run,h]
theorem keys1 (B b cl:Nat)(l:Value)(w:World)(hB:w.cell? ⟨B,0,none⟩=some (.map (some b)))(hm:w.heap[b]? =some (.map #[] cl)):
  Calls Tryz.prog 263 #[l,.pointer (some ⟨B,0,none⟩)] w fun e w'=>e= .returned (.tuple #[])∧Below w.heap.size w w':=by
 have hr:(Instr.range 381 (.map (some b))).run Tryz.prog w= .ok (.pointer (some ⟨w.heap.size,0,none⟩)) (w.alloc (.mapIter (some b) cl #[] cl)):=by
  simp[Instr.range,run_underlying Tryz.underlying381,go_sem,getObj_map hm]
 have hb:=blk_lt hm
 have hm2:(w.alloc (.mapIter (some b) cl #[] cl)).heap[b]? =some (.map #[] cl):=(Below.heap_alloc w _ b hb).trans hm
 have hi:(w.alloc (.mapIter (some b) cl #[] cl)).heap[w.heap.size]? =some (.mapIter (some b) cl #[] cl):=blk_new _ _
 have hn:(Instr.next (.pointer (some ⟨w.heap.size,0,none⟩)) false 0).run Tryz.prog (w.alloc (.mapIter (some b) cl #[] cl))= .ok (.tuple #[.bool false]) (w.alloc (.mapIter (some b) cl #[] cl)):=by
  simp[Instr.next,go_sem,getObj_iter hi,getObj_map hm2,Question.forced]
 clear hm hm2 hi
 go_enter Tryz.func263,Tryz.ntmps263
 go_wp2
 refine wp_loop_rounds 1 ?_
 rw[rounds_succ]
 go_wp2
 go_end0
 exact⟨rfl,one _ _⟩
theorem keys_calls (b:Nat)(w:World):Calls Tryz.prog 245 #[.map (some b)] w fun e w'=>e= .returned (.func (.func 263) #[] #[.pointer (some ⟨w.heap.size,0,none⟩)])∧w'=w.alloc (.cells #[.map (some b)] 381):=by
 go_enter Tryz.func245,Tryz.ntmps245
 go_wp2
 go_ret
 exact⟨rfl,rfl⟩
theorem appendSeq_in (B b cl:Nat)(w:World)(hB:w.heap[B]? =some (.cells #[.map (some b)] 381 (0,0)))(hm:w.heap[b]? =some (.map #[] cl)):
  CallsIn Fence.wide 5 Tryz.prog 272 #[.slice none 0 0,.func (.func 263) #[] #[.pointer (some ⟨B,0,none⟩)]] w fun e w'=>e= .returned (.slice none 0 0)∧Below w.heap.size w w':=by
 have HB:=h_ hB
 have HM:=h_ hm
 clear hB hm
 refine callsIn_of_wp_marks Tryz.func272 rfl trivial ?_ rfl
 simp only[Tryz.ntmps272,List.size_toArray,List.length_cons,List.length_nil,Nat.reduceAdd,Nat.reduceSub,Array.replicate_succ,Array.replicate_zero,List.push_toArray,List.append_toArray,List.nil_append,List.cons_append]
 gi_wp2
 refine range_none rfl (by omega) (gf:=263) (lb:=#[.pointer (some ⟨B,0,none⟩)]) rfl trivial (enters_of Tryz.func263 (by kernel_rfl) rfl) ?_ ?_
 ·intro l W hb
  have k1:=bb (bb HB.out (one _ _)) hb
  have k2:W.heap[b]? =some (.map #[] cl):=bb (bb HM.out (one _ _)) hb
  refine(callsIn_wide.2 (keys1 B b cl _ W (bq k1 0) k2)).mono ?_
  rintro e W' ⟨rfl,hb'⟩
  exact⟨⟨_,rfl⟩,hb'⟩
 ·intro D W hD hD2 hb hd
  have hc:W.cell? ⟨w.heap.size,0,none⟩=some (.slice none 0 0):=by
   have k:=bb (blk_new w (.cells #[.slice none 0 0] 254)) hb
   exact bq k 0
  have HBB:=h_ hb
  have HD:=h_ hd
  have HDD:=h_ hD
  clear hb hd hD
  gi_wp2
  refine⟨by simp,.inl ⟨_,_,rfl,run_takeDeferred HD.out,?_⟩⟩
  refine⟨_,by simp[results,Tryz.results272,go_sem],rfl,?_⟩
  have h0:=HDD.out
  simp only[World.size_alloc] at h0
  exact(below_call (below_alloc (Below.refl w.heap.size w) _) HBB.out).grown (grownBy_putObj' _ D _) (by omega) (fun k e=>by cases e;omega)
theorem len64_0 (w:World):Calls Tryz.prog 287 #[.int .u64 0] w fun e w'=>e= .returned (.int .i64 0)∧w'=w:=by
 go_enter Tryz.func287,Tryz.ntmps287
 go_wp2
 go_ret
 exact⟨by kernel_rfl,rfl⟩
theorem len_0 (w:World):Calls Tryz.prog 274 #[.int .u64 0] w fun e w'=>e= .returned (.int .i64 0)∧w'=w:=by
 go_enter Tryz.func274,Tryz.ntmps274
 go_wp2_with fail
 refine(len64_0 _).mono ?_
 rintro e w1 ⟨rfl,rfl⟩
 go_wp2
 go_ret
 exact⟨rfl,rfl⟩
theorem insertion_0 (w:World):Calls Tryz.prog 277 #[.slice none 0 0,.int .i64 0,.int .i64 0] w fun e w'=>e= .returned (.tuple #[])∧w'=w:=by
 go_enter Tryz.func277,Tryz.ntmps277
 go_wp2
 refine wp_loop_rounds 1 ?_
 rw[rounds_succ]
 go_wp2
 go_end0
 exact⟨rfl,rfl⟩
theorem pdq_0 (w:World):Calls Tryz.prog 273 #[.slice none 0 0,.int .i64 0,.int .i64 0,.int .i64 0] w fun e w'=>e= .returned (.tuple #[])∧w'=w:=by
 go_enter Tryz.func273,Tryz.ntmps273
 go_wp2
 refine wp_loop_rounds 1 ?_
 rw[rounds_succ]
 go_wp2_with fail
 refine(insertion_0 _).mono ?_
 rintro e w1 ⟨rfl,rfl⟩
 go_wp2
 exact bodyPost_ret (v:= .tuple #[]) (by simp[results,Tryz.results273,go_sem]) rfl ⟨rfl,rfl⟩
theorem sort_0 (w:World):Calls Tryz.prog 262 #[.slice none 0 0] w fun e w'=>e= .returned (.tuple #[])∧w'=w:=by
 go_enter Tryz.func262,Tryz.ntmps262
 go_wp2_with fail
 refine(len_0 _).mono ?_
 rintro e w1 ⟨rfl,rfl⟩
 go_wp2_with fail
 refine(pdq_0 _).mono ?_
 rintro e w1 ⟨rfl,rfl⟩
 go_wp2
 go_end0
 exact⟨rfl,rfl⟩
theorem sorted_none (B b cl:Nat)(w:World)(hB:w.heap[B]? =some (.cells #[.map (some b)] 381 (0,0)))(hm:w.heap[b]? =some (.map #[] cl)):
  Calls Tryz.prog 244 #[.func (.func 263) #[] #[.pointer (some ⟨B,0,none⟩)]] w fun e w'=>e= .returned (.slice none 0 0)∧Below w.heap.size w w':=by
 have hcol:∀W:World,W.heap[B]? =some (.cells #[.map (some b)] 381 (0,0))→W.heap[b]? =some (.map #[] cl)→Calls Tryz.prog 261 #[.func (.func 263) #[] #[.pointer (some ⟨B,0,none⟩)]] W fun e w'=>e= .returned (.slice none 0 0)∧Below W.heap.size W w':=by
  intro W h1 h2
  have H1:=h_ h1
  have H2:=h_ h2
  clear h1 h2 hB hm
  go_enter Tryz.func261,Tryz.ntmps261
  go_wp2_with fail
  refine(callsIn_wide.1 (appendSeq_in B b cl _ H1.out H2.out)).mono ?_
  rintro e w1 ⟨rfl,hb⟩
  go_wp2
  go_ret
  exact⟨rfl,hb⟩
 have HC:=h_ (hcol w hB hm)
 clear hcol hB hm
 go_enter Tryz.func244,Tryz.ntmps244
 go_wp2_with fail
 refine HC.out.mono ?_
 rintro e w1 ⟨rfl,hb⟩
 have HB:=h_ hb
 clear hb
 go_wp2_with fail
 refine(sort_0 _).mono ?_
 rintro e w2 ⟨rfl,rfl⟩
 go_wp2
 go_ret
 exact⟨rfl,HB.out⟩
end Go.Proofs.YtmgmdiekpmffbaaGreatDoor.Top
namespace Go.Proofs.YtmgmdiekpmffbaaGreatDoor.Top
open Go Go.RowKit Go.Proofs.YtmgmdiekpmffbaaGreatDoorW.PrintWords
theorem lock_blockers (HA:Option Addr)(hn hc:Nat)(l:List Hd)(mo:Int)(lo hi:ByteArray)(w:World)(h:Rs tyHd 351 w (.slice HA hn hc) l)(hl:l.length≤100000):
  Calls Tryz.prog 217 #[.agg #[.slice HA hn hc,.slice none 0 0],.int .i64 1,.agg #[.int .i64 mo,.string lo,.string hi],.int .i64 0] w fun e w'=>e= .returned (.slice none 0 0)∧Below w.heap.size w w':=by
 obtain⟨A,c,e1,hc',-⟩:=at_Hd h
 cases e1
 have hmk:∀u:World,(Instr.makeMap 381 none).run Tryz.prog u= .ok (.map (some u.heap.size)) (u.alloc (.map #[] 0)):=fun u=>by simp[Instr.makeMap,run_underlying Tryz.underlying381,go_sem]
 have HR:=h_ h
 have HL:=h_ hl
 clear h hl
 have HB:Hid (Below w.heap.size w w):=h_ (Below.refl _ _)
 go_enter Tryz.func217,Tryz.ntmps217
 go_wp2
 refine wp_world fun w1 hW=>?_
 have hb:=below_of_eq hW
 have hm:w1.heap[w.heap.size+1+1]? =some (.map #[] 0):=bb (blk_new' _ _ _ (by simp)) hb
 have HM:=h_ hm
 clear hm hW
 have kD:=hid_mv (show w1.heap[w.heap.size]? =some (.cells #[.slice HA l.length hc,.slice none 0 0] 39 (0,0))from bb (bb (bb (blk_new' _ _ _ (by simp)) (one _ _)) (one _ _)) hb)
 have kB:=hid_mv (show w1.heap[w.heap.size+1]? =some (.cells #[.int .i64 mo,.string lo,.string hi] 312 (0,0))from bb (bb (blk_new' _ _ _ (by simp)) (one _ _)) hb)
 have hz:=(hb).size
 skip
 obtain⟨KD,D0lt,D0ne,D0en⟩:=kD
 obtain⟨KB,B0lt,B0ne,B0en⟩:=kB
 replace HB:=h_ (below_call (below_alloc (below_alloc (below_alloc HB.out _) _) _) hb)
 have hs0_:=HB.out.size
 clear hb
 go_loopg [11,18] l.length (fun kq v11 v18 w'=>∃i:Nat,v18= .int .i64 i∧Aside0 (kq+i=l.length)∧Aside0 (Below w1.heap.size w1 w'))
 case atStart=>exact⟨0,rfl,⟨by omega⟩,⟨Below.refl _ _⟩⟩
 case round=>
  obtain⟨i,rfl,HK,HW⟩:=hrel
  obtain⟨kD,Dlt,Dne,Den⟩:=hid_mv (bb KD.out HW.out)
  obtain⟨kB,Blt,Bne,Ben⟩:=hid_mv (bb KB.out HW.out)
  obtain⟨D0,Df0,D1,Df1⟩:=cells2 kD.out
  have HM1:=h_ (bb HM.out HW.out)
  have HB1:=h_ (below_call HB.out HW.out)
  by_cases hi:i<l.length
  ·have c0b:decide ((i:Int)<(l.length:Int))=true:=decide_eq_true (by omega)
   obtain⟨A',c',e1,_,hat⟩:=at_Hd (Rs.below HR.out HB1.out)
   cases e1
   obtain⟨ad,e2,hx0,hx1,hx2,hx3⟩:=hat i hi
   subst e2
   clear hat
   have hp:((0:Int)≤(i:Int))=True:=eq_true (by omega)
   have hq:((i:Int)<(l.length:Int))=True:=eq_true (by omega)
   have hi40:(i:Int)≤100000:=by have:=HL.out;omega
   generalize l[i]=x at hx0 hx1 hx2 hx3
   go_wp2
   go_roundg (gk - 1)
   case measure=>have:=HK.out;omega
   case rel=>exact⟨i+1,by go_num,⟨by have:=HK.out;omega⟩,⟨HW.out.alloc HW.out.size _⟩⟩
  ·have c0b:decide ((i:Int)<(l.length:Int))=false:=decide_eq_false (by omega)
   go_wp2
   refine wp_loop_rounds 1 ?_
   rw[rounds_succ]
   go_wp2_with fail
   refine(keys_calls _ _).mono ?_
   rintro e w3 ⟨rfl,rfl⟩
   go_wp2_with fail
   refine(sorted_none _ _ _ _ (blk_new _ _) (bb HM1.out (one _ _))).mono ?_
   rintro e w4 ⟨rfl,hb⟩
   have HB4:=h_ (below_call (below_alloc HB1.out _) hb)
   clear hb
   go_wp2
   go_ret
   exact⟨rfl,HB4.out⟩
end Go.Proofs.YtmgmdiekpmffbaaGreatDoor.Top
namespace Go.Proofs.YtmgmdiekpmffbaaGreatDoor.SpanPure
open Go Go.RowKit Go.Proofs.YtmgmdiekpmffbaaGreatDoor.QWi Go.Proofs.YtmgmdiekpmffbaaGreatDoorW.PrintWords Go.Proofs.YtmgmdiekpmffbaaGreatDoorW.PrintLast
abbrev B:=List UInt8
def inP (lo hi k:B):Prop:=¬k<lo∧(hi= []∨k<hi)
def emP (lo hi:B):Prop:=¬hi= []∧¬lo<hi
def ovP (al ah bl bh:B):Prop:=¬emP al ah∧¬emP bl bh∧(inP al ah bl∨inP bl bh al)
def clP (am:Int)(al ah:B)(bm:Int)(bl bh:B):Prop:=ovP al ah bl bh∧(am=2∨bm=2)
def mayP (m:Int)(lo hi:B):Prop:=(m=1∨m=2)∧¬emP lo hi
def coP (am:Int)(al ah:B)(bm:Int)(bl bh:B):Prop:=
 mayP bm bl bh∧(am=2∨¬bm=2)∧((am=bm∧al=bl∧ah=bh)∨(¬bl<al∧(ah= []∨(¬bh= []∧¬ah<bh))))
instance (lo hi k:B):Decidable (inP lo hi k):=by unfold inP;infer_instance
instance (lo hi:B):Decidable (emP lo hi):=by unfold emP;infer_instance
instance (al ah bl bh:B):Decidable (ovP al ah bl bh):=by unfold ovP;infer_instance
instance (am:Int)(al ah:B)(bm:Int)(bl bh:B):Decidable (clP am al ah bm bl bh):=by unfold clP;infer_instance
instance (m:Int)(lo hi:B):Decidable (mayP m lo hi):=by unfold mayP;infer_instance
instance (am:Int)(al ah:B)(bm:Int)(bl bh:B):Decidable (coP am al ah bm bl bh):=by unfold coP;infer_instance
theorem em_eq (m:Int)(lo hi:ByteArray):span_empty.f m lo hi=some (decide (emP lo.toList hi.toList)):=by
 unfold span_empty.f
 simp only[bl_lt,emP]
 by_cases h2:hi.toList= [] <;> by_cases h1:lo.toList<hi.toList <;> simp[h1,h2]
theorem may_eq (k:Nat)(m:Int)(lo hi:ByteArray):span_May.f (k+1) m lo hi=some (decide (mayP m lo.toList hi.toList)):=by
 unfold span_May.f span_May.j0
 simp only[em_eq,Option.bind_some]
 unfold mayP
 by_cases h:m=1 <;> by_cases h2:m=2 <;> by_cases h3:emP lo.toList hi.toList <;> simp[h,h2,h3]
theorem co_eq (k:Nat)(am:Int)(al ah:ByteArray)(bm:Int)(bl bh:ByteArray):span_Covers.f (k+1) am al ah bm bl bh=some (decide (coP am al.toList ah.toList bm bl.toList bh.toList)):=by
 unfold span_Covers.f span_Covers.j0
 simp only[may_eq,Option.bind_some,bl_lt]
 unfold coP
 by_cases h:mayP bm bl.toList bh.toList
 ·simp only[h,decide_true,true_and,if_true]
  generalize al.toList=a1
  generalize ah.toList=a2
  generalize bl.toList=b1
  generalize bh.toList=b2
  by_cases h8:a2<b2 <;> grind
 ·simp only[h,decide_false,false_and]
  simp
end Go.Proofs.YtmgmdiekpmffbaaGreatDoor.SpanPure
namespace Go.Proofs.YtmgmdiekpmffbaaGreatDoor.Top
open Go Go.RowKit Go.Proofs.YtmgmdiekpmffbaaGreatDoorW.PrintWords Go.Proofs.YtmgmdiekpmffbaaGreatDoor.QWi
def covB (mo:Int)(lo hi:ByteArray)(x:Hd):Bool:=decide (SpanPure.coP x.mode x.lo.toList x.hi.toList mo lo.toList hi.toList)
def mayB (mo:Int)(lo hi:ByteArray):Bool:=decide (SpanPure.mayP mo lo.toList hi.toList)
theorem idxnil_Cl (c:Value)(w:World):Calls Tryz.prog 258 #[.slice none 0 0,c] w fun e w'=>e= .returned (.int .i64 (-1))∧w'=w:=by
 go_enter Tryz.func258,Tryz.ntmps258
 go_wp2
 refine wp_loop_rounds 1 ?_
 rw[rounds_succ]
 go_wp2
 go_ret
 exact⟨rfl,rfl⟩
theorem hasnil_Cl (c:Value)(w:World):Calls Tryz.prog 240 #[.slice none 0 0,c] w fun e w'=>e= .returned (.bool false)∧w'=w:=by
 go_enter Tryz.func240,Tryz.ntmps240
 go_wp2_with fail
 refine(idxnil_Cl c _).mono ?_
 rintro e w1 ⟨rfl,rfl⟩
 go_wp2
 go_ret
 exact⟨rfl,rfl⟩
theorem lock_waits (HA:Option Addr)(hn hc:Nat)(w:World):Calls Tryz.prog 215 #[.agg #[.slice HA hn hc,.slice none 0 0],.int .i64 1] w fun e w'=>e= .returned (.bool false)∧Below w.heap.size w w':=by
 go_enter Tryz.func215,Tryz.ntmps215
 go_wp2_with fail
 refine(hasnil_Cl _ _).mono ?_
 rintro e w1 ⟨rfl,rfl⟩
 go_wp2
 go_ret
 exact⟨rfl,two _ _ _⟩
theorem lock_ask1 (x:Hd)(B0 B1:Nat)(mo:Int)(lo hi:ByteArray)(w:World)(h0:w.cell? ⟨B0,0,none⟩=some (.int .i64 1))(h1:w.heap[B1]? =some (.cells #[.int .i64 mo,.string lo,.string hi] 312 (0,0))):
  Calls Tryz.prog 212 #[.agg #[.int .i64 1,.int .i64 x.mode,.string x.lo,.string x.hi],.pointer (some ⟨B0,0,none⟩),.pointer (some ⟨B1,0,none⟩)] w fun e w'=>e= .returned (.bool (covB mo lo hi x))∧Below w.heap.size w w':=by
 have l0:B0<w.heap.size:=World.block_lt_of_cell? w ⟨B0,0,none⟩ h0
 have n0:B0≠w.heap.size:=Nat.ne_of_lt l0
 have l1:B1<w.heap.size:=blk_lt h1
 have n1:B1≠w.heap.size:=Nat.ne_of_lt l1
 obtain⟨y0,yf0,y1,yf1,y2,yf2⟩:=cells3 h1
 clear h1 yf0 yf1 yf2
 go_enter Tryz.func212,Tryz.ntmps212
 go_wp2_with fail
 refine(span_Covers.calls 1 x.mode x.lo x.hi mo lo hi (covB mo lo hi x) _ (SpanPure.co_eq 0 _ _ _ _ _ _)).mono ?_
 rintro e w1 ⟨rfl,hb⟩
 have HB:=h_ (below_call (one w _) hb)
 clear hb
 go_wp2
 go_ret
 exact⟨rfl,HB.out⟩
theorem has_lock_Ask1 (v:Value)(l:List Hd)(B0 B1:Nat)(mo:Int)(lo hi:ByteArray)(b:Bool)(w:World)(h:Rs tyHd 351 w v l)(hl:l.length≤100000)(h0:w.cell? ⟨B0,0,none⟩=some (.int .i64 1))(h1:w.heap[B1]? =some (.cells #[.int .i64 mo,.string lo,.string hi] 312 (0,0)))(hz:decide ((0:Int)≤idx (covB mo lo hi) l 0)=b):
  Calls Tryz.prog 216 #[v,.func (.func 212) #[] #[.pointer (some ⟨B0,0,none⟩),.pointer (some ⟨B1,0,none⟩)]] w fun e w'=>e= .returned (.bool b)∧Below w.heap.size w w':=by
 have HI:=h_ (index_lock_Ask1 v l (covB mo lo hi) B0 B1 w h hl (fun x W _ hb=>lock_ask1 x B0 B1 mo lo hi W (pw_cell_below hb h0) (bb h1 hb)))
 clear h h0 h1
 generalize idx (covB mo lo hi) l 0=z at HI hz
 go_enter Tryz.func216,Tryz.ntmps216
 go_wp2_with fail
 refine HI.out.mono ?_
 rintro e w1 ⟨rfl,hb⟩
 go_wp2
 go_ret
 exact⟨rfl,hb⟩
theorem lock_ask_no (HA:Option Addr)(hn hc:Nat)(l:List Hd)(mo:Int)(lo hi:ByteArray)(w:World)(h:Rs tyHd 351 w (.slice HA hn hc) l)(hl:l.length≤100000)(hm:mayB mo lo hi=false):
  Calls Tryz.prog 182 #[.agg #[.slice HA hn hc,.slice none 0 0],.int .i64 1,.agg #[.int .i64 mo,.string lo,.string hi],.int .u64 5] w (fun e w'=>e= .returned (.tuple #[.agg #[.slice HA hn hc,.slice none 0 0],.int .i64 1])∧Below w.heap.size w w'):=by
 have hmay:span_May.f 1 mo lo hi=some false:=(SpanPure.may_eq 0 _ _ _).trans (congrArg some hm)
 obtain rfl:=h.len
 have HL:=h_ hl
 clear hm hl
 have HB:Hid (Below w.heap.size w w):=h_ (Below.refl _ _)
 have HR:=h_ h
 clear h
 go_enter Tryz.func182,Tryz.ntmps182
 go_wp2_with fail
 refine(span_May.calls 1 mo lo hi false _ hmay).mono ?_
 rintro e w1 ⟨rfl,hb⟩
 have kD:=hid_mv (show w1.heap[w.heap.size]? =some (.cells #[.slice HA l.length hc,.slice none 0 0] 39 (0,0))from bb (bb (bb (bb (blk_new' _ _ _ (by simp)) (one _ _)) (one _ _)) (one _ _)) hb)
 have kI:=hid_mv (show w1.heap[w.heap.size+1]? =some (.cells #[.int .i64 1] 3 (0,0))from bb (bb (bb (blk_new' _ _ _ (by simp)) (one _ _)) (one _ _)) hb)
 have kN:=hid_mv (show w1.heap[w.heap.size+1+1]? =some (.cells #[.int .i64 mo,.string lo,.string hi] 312 (0,0))from bb (bb (blk_new' _ _ _ (by simp)) (one _ _)) hb)
 have kQ:=hid_mv (show w1.heap[w.heap.size+1+1+1]? =some (.cells #[.slice none 0 0,.slice none 0 0] 39 (0,0))from bb (blk_new' _ _ _ (by simp)) hb)
 have hz:=(hb).size
 skip
 obtain⟨KD,D0lt,D0ne,D0en⟩:=kD
 obtain⟨KI,I0lt,I0ne,I0en⟩:=kI
 obtain⟨KN,N0lt,N0ne,N0en⟩:=kN
 obtain⟨KQ,Q0lt,Q0ne,Q0en⟩:=kQ
 replace HB:=h_ (below_call (below_alloc (below_alloc (below_alloc (below_alloc HB.out _) _) _) _) hb)
 have hs0_:=HB.out.size
 clear hb
 obtain⟨D0,Df0,D1,Df1⟩:=cells2 KD.out
 obtain⟨Q0,Qf0,Q1,Qf1⟩:=cells2 KQ.out
 go_wp2
 refine bodyPost_ret (res_cell_tmp (cs:=#[.slice HA l.length hc,.slice none 0 0]) Tryz.results182 rfl (blk_put KQ.out 0 [.slice HA l.length hc,.slice none 0 0] (Nat.le_of_ble_eq_true rfl)) Tryz.underlying39 rfl (by kernel_rfl)) rfl ⟨rfl,?_⟩
 ·exact(below_puts HB.out (w.heap.size+1+1+1) (by omega) 0 [.slice HA l.length hc,.slice none 0 0])
def AskV (l:List Hd)(x:Hd)(w:World)(en:Ending)(w':World):Prop:=∃A n c l',en= .returned (.tuple #[.agg #[.slice A n c,.slice none 0 0],.int .i64 0])∧Rs tyHd 351 w' (.slice A n c) l'∧(l'=l∨l'=l++ [x])∧Below w.heap.size w w'
theorem lock_ask_ok (HA:Option Addr)(hn hc:Nat)(l:List Hd)(mo:Int)(lo hi:ByteArray)(w:World)(h:Rs tyHd 351 w (.slice HA hn hc) l)(hl:l.length≤100000)(hm:mayB mo lo hi=true):
  Calls Tryz.prog 182 #[.agg #[.slice HA hn hc,.slice none 0 0],.int .i64 1,.agg #[.int .i64 mo,.string lo,.string hi],.int .u64 5] w (AskV l ⟨mo,lo,hi⟩ w):=by
 have hmay:span_May.f 1 mo lo hi=some true:=(SpanPure.may_eq 0 _ _ _).trans (congrArg some hm)
 obtain rfl:=h.len
 have HL:=h_ hl
 clear hm hl
 have HB:Hid (Below w.heap.size w w):=h_ (Below.refl _ _)
 have HR:=h_ h
 clear h
 go_enter Tryz.func182,Tryz.ntmps182
 go_wp2_with fail
 refine(span_May.calls 1 mo lo hi true _ hmay).mono ?_
 rintro e w1 ⟨rfl,hb⟩
 have kD:=hid_mv (show w1.heap[w.heap.size]? =some (.cells #[.slice HA l.length hc,.slice none 0 0] 39 (0,0))from bb (bb (bb (bb (blk_new' _ _ _ (by simp)) (one _ _)) (one _ _)) (one _ _)) hb)
 have kI:=hid_mv (show w1.heap[w.heap.size+1]? =some (.cells #[.int .i64 1] 3 (0,0))from bb (bb (bb (blk_new' _ _ _ (by simp)) (one _ _)) (one _ _)) hb)
 have kN:=hid_mv (show w1.heap[w.heap.size+1+1]? =some (.cells #[.int .i64 mo,.string lo,.string hi] 312 (0,0))from bb (bb (blk_new' _ _ _ (by simp)) (one _ _)) hb)
 have kQ:=hid_mv (show w1.heap[w.heap.size+1+1+1]? =some (.cells #[.slice none 0 0,.slice none 0 0] 39 (0,0))from bb (blk_new' _ _ _ (by simp)) hb)
 have hz:=(hb).size
 skip
 obtain⟨KD,D0lt,D0ne,D0en⟩:=kD
 obtain⟨KI,I0lt,I0ne,I0en⟩:=kI
 obtain⟨KN,N0lt,N0ne,N0en⟩:=kN
 obtain⟨KQ,Q0lt,Q0ne,Q0en⟩:=kQ
 replace HB:=h_ (below_call (below_alloc (below_alloc (below_alloc (below_alloc HB.out _) _) _) _) hb)
 have hs0_:=HB.out.size
 clear hb
 obtain⟨D0,Df0,D1,Df1⟩:=cells2 KD.out
 obtain⟨I0,If0⟩:=cells1 KI.out
 obtain⟨N0,Nf0,N1,Nf1,N2,Nf2⟩:=cells3 KN.out
 obtain⟨Q0,Qf0,Q1,Qf1⟩:=cells2 KQ.out
 go_wp2_with fail
 refine(lock_waits _ _ _ _).mono ?_
 rintro e w2 ⟨rfl,hb⟩
 clear D0 Df0 D1 Df1 I0 If0 N0 Nf0 N1 Nf1 N2 Nf2 Q0 Qf0 Q1 Qf1
 obtain⟨hz,KD,KI,KN,KQ,HB⟩:=m5 hb KD KI KN KQ HB
 obtain⟨D0,Df0,D1,Df1⟩:=cells2 KD.out
 obtain⟨I0,If0⟩:=cells1 KI.out
 obtain⟨N0,Nf0,N1,Nf1,N2,Nf2⟩:=cells3 KN.out
 obtain⟨Q0,Qf0,Q1,Qf1⟩:=cells2 KQ.out
 cases hz:decide ((0:Int)≤idx (covB mo lo hi) l 0)with
 |true=>
  go_wp2_with fail
  refine(has_lock_Ask1 _ l _ _ mo lo hi true _ (Rs.below HR.out HB.out) HL.out (bq KI.out 0) KN.out hz).mono ?_
  rintro e w3 ⟨rfl,hb⟩
  clear hz
  clear D0 Df0 D1 Df1 I0 If0 N0 Nf0 N1 Nf1 N2 Nf2 Q0 Qf0 Q1 Qf1
  obtain⟨hz,KD,KI,KN,KQ,HB⟩:=m5 hb KD KI KN KQ HB
  obtain⟨D0,Df0,D1,Df1⟩:=cells2 KD.out
  obtain⟨Q0,Qf0,Q1,Qf1⟩:=cells2 KQ.out
  go_wp2
  refine bodyPost_ret (res_cell_tmp (cs:=#[.slice HA l.length hc,.slice none 0 0]) Tryz.results182 rfl (blk_put KQ.out 0 [.slice HA l.length hc,.slice none 0 0] (Nat.le_of_ble_eq_true rfl)) Tryz.underlying39 rfl (by kernel_rfl)) rfl ⟨_,_,_,l,rfl,?_,.inl rfl,?_⟩
  ·exact(Rs.below HR.out (below_puts HB.out (w.heap.size+1+1+1) (by omega) 0 [.slice HA l.length hc,.slice none 0 0]))
  ·exact(below_puts HB.out (w.heap.size+1+1+1) (by omega) 0 [.slice HA l.length hc,.slice none 0 0])
 |false=>
  go_wp2_with fail
  refine(has_lock_Ask1 _ l _ _ mo lo hi false _ (Rs.below HR.out HB.out) HL.out (bq KI.out 0) KN.out hz).mono ?_
  rintro e w3 ⟨rfl,hb⟩
  clear hz
  clear D0 Df0 D1 Df1 I0 If0 N0 Nf0 N1 Nf1 N2 Nf2 Q0 Qf0 Q1 Qf1
  obtain⟨hz,KD,KI,KN,KQ,HB⟩:=m5 hb KD KI KN KQ HB
  obtain⟨D0,Df0,D1,Df1⟩:=cells2 KD.out
  obtain⟨I0,If0⟩:=cells1 KI.out
  obtain⟨N0,Nf0,N1,Nf1,N2,Nf2⟩:=cells3 KN.out
  go_wp2_with fail
  refine(lock_blockers HA l.length hc l mo lo hi _ (Rs.below HR.out HB.out) HL.out).mono ?_
  rintro e w4 ⟨rfl,hb⟩
  clear D0 Df0 D1 Df1 I0 If0 N0 Nf0 N1 Nf1 N2 Nf2
  obtain⟨hz,KD,KI,KN,KQ,HB⟩:=m5 hb KD KI KN KQ HB
  go_upto_region 9 with(fail)
  refine nm fun w5 hb=>?_
  obtain⟨hz,KD,KI,KN,KQ,HB⟩:=m5 hb KD KI KN KQ HB
  refine rl3 9 KD KI KN fun u1 hb=>?_
  obtain⟨hz,KD,KI,KN,KQ,HB⟩:=m5 hb KD KI KN KQ HB
  refine l_ 0 (.inr ⟨KD.out,KI.out,KN.out⟩) ?_
  refine lq 1 (fun _ k=>bq k.1 0) ⟨KD.out,KI.out,KN.out⟩ ?_
  refine lq 3 (fun _ k=>bq k.2.1 0) ⟨KD.out,KI.out,KN.out⟩ ?_
  refine ll 4 0 3 (fun _ k=>k.2.2) ⟨KD.out,KI.out,KN.out⟩ Tryz.underlying312 ?_
  refine l_ 5 (.inr ⟨KD.out,KI.out,KN.out⟩) ?_
  refine last_ready (rs:= [2,6]) (by kernel_rfl) (by simp) ?_
  refine AllL.cons rfl (fun K hK=>?_) ?_
  ·go_simp
   go_at_call 218
   refine(clone_Hd _ l _ (Rs.below HR.out HB.out) HL.out).mono ?_
   rintro e w6 ⟨v6,rfl,hown,hb⟩
   have HOWN:=h_ hown
   have HZB:=h_ hb
   clear hown
   have ZD:=KD
   have ZI:=KI
   have ZN:=KN
   have ZQ:=KQ
   have ZHB:=HB
   obtain⟨hz,KD,KI,KN,KQ,HB⟩:=m5 hb KD KI KN KQ HB
   refine b_ hK (.inr ⟨KD.out,KI.out,KN.out⟩) ?_
   refine ld 6 fun K hK=>?_
   go_simp
   refine na fun u2 hb KY=>?_
   obtain⟨hz,KD,KI,KN,KQ,HOWN,HZB,HB⟩:=m7 hb KD KI KN KQ HOWN HZB HB
   have Ylt:=blk_lt KY.out
   refine b_ hK (.inr ⟨KD.out,KI.out,KN.out⟩) ?_
   refine ld 7 fun K hK=>?_
   obtain⟨i0,hInf,hz0,hz1,hz2⟩:=info_parts infoHd
   refine step_append_lies _ (by rfl) _ _ 36 (by rfl) u1.heap.size 351 i0 _ 4 48 Tryz.underlying36 hInf hz0 hz1 hz2 rfl (by decide) v6 (l).length (tyHd.all l) rfl HOWN.out _ 1 1 (tyHd.enc ⟨mo,lo,hi⟩) rfl rfl (World.news_of_block KY.out) (tyHd.one _) (by decide) (by have:=HL.out;simp only[maxLen];omega) (by have:=HL.out;omega) HZB.out.size _ rfl ?_
   intro g cap w8 hown hgr _ _
   have hb:Below u1.heap.size u1 w8:=HZB.out.grown hgr HZB.out.size (own_base HOWN.out)
   have HR9:=h_ (Rs.of_own (T:=tyHd) (l:=l++ [⟨mo,lo,hi⟩]) (by rw[List.length_append,List.length_singleton,Ty.all_app,Ty.all_single];exact hown))
   clear hown hgr hInf hz0 hz1 hz2 HOWN HZB
   clear KD KI KN KQ KY HB
   have KD:=ZD
   clear ZD
   have KI:=ZI
   clear ZI
   have KN:=ZN
   clear ZN
   have KQ:=ZQ
   clear ZQ
   have HB:=ZHB
   clear ZHB
   obtain⟨hz,KD,KI,KN,KQ,HB⟩:=m5 hb KD KI KN KQ HB
   refine b_ hK (.inr ⟨KD.out,KI.out,KN.out⟩) ?_
   refine l_ 8 (.inr ⟨KD.out,KI.out,KN.out⟩) ?_
   refine ld 9 fun K hK=>?_
   obtain⟨D0,Df0,D1,Df1⟩:=cells2 KD.out
   go_simp
   clear D0 Df0 D1 Df1
   refine ns KD fun u3 ho kD=>?_
   obtain⟨hz,KI,KN,KQ,HR9,HB⟩:=o5 ho KI KN KQ HR9 HB
   replace KD:=kD
   clear kD
   refine b_ hK (.inl (by kernel_rfl)) ?_
   refine dl ?_
   go_upto_region 10 with(fail)
   refine nm fun w9 hb=>?_
   obtain⟨hz,KD,KI,KN,KQ,HR9,HB⟩:=m6 hb KD KI KN KQ HR9 HB
   obtain⟨D0,Df0,D1,Df1⟩:=cells2 KD.out
   obtain⟨Q0,Qf0,Q1,Qf1⟩:=cells2 KQ.out
   go_wp2
   refine bodyPost_ret (res_cell_tmp (cs:=#[.slice (some ⟨g,0,none⟩) (l.length+1) cap,.slice none 0 0]) Tryz.results182 rfl (blk_put KQ.out 0 [.slice (some ⟨g,0,none⟩) (l.length+1) cap,.slice none 0 0] (Nat.le_of_ble_eq_true rfl)) Tryz.underlying39 rfl (by kernel_rfl)) rfl ⟨_,_,_,l++ [⟨mo,lo,hi⟩],rfl,?_,.inr rfl,?_⟩
   ·exact(Rs.puts HR9.out KQ.out (by decide) 0 [.slice (some ⟨g,0,none⟩) (l.length+1) cap,.slice none 0 0])
   ·exact(below_puts HB.out (w.heap.size+1+1+1) (by omega) 0 [.slice (some ⟨g,0,none⟩) (l.length+1) cap,.slice none 0 0])
  refine AllL.cons rfl (fun K hK=>?_) AllL.nil
  go_simp
  refine na fun u4 hb KY=>?_
  obtain⟨hz,KD,KI,KN,KQ,HB⟩:=m5 hb KD KI KN KQ HB
  have Ylt:=blk_lt KY.out
  refine b_ hK (.inr ⟨KD.out,KI.out,KN.out⟩) ?_
  refine ld 2 fun K hK=>?_
  go_simp
  go_at_call 218
  refine(clone_Hd _ l _ (Rs.below HR.out HB.out) HL.out).mono ?_
  rintro e w6 ⟨v6,rfl,hown,hb⟩
  have HOWN:=h_ hown
  have HZB:=h_ hb
  clear hown
  have ZD:=KD
  have ZI:=KI
  have ZN:=KN
  have ZQ:=KQ
  have ZY:=KY
  have ZHB:=HB
  obtain⟨hz,KD,KI,KN,KQ,KY,HB⟩:=m6 hb KD KI KN KQ KY HB
  refine b_ hK (.inr ⟨KD.out,KI.out,KN.out⟩) ?_
  refine ld 7 fun K hK=>?_
  obtain⟨i0,hInf,hz0,hz1,hz2⟩:=info_parts infoHd
  refine step_append_lies _ (by rfl) _ _ 36 (by rfl) u4.heap.size 351 i0 _ 4 48 Tryz.underlying36 hInf hz0 hz1 hz2 rfl (by decide) v6 (l).length (tyHd.all l) rfl HOWN.out _ 1 1 (tyHd.enc ⟨mo,lo,hi⟩) rfl rfl (World.news_of_block KY.out) (tyHd.one _) (by decide) (by have:=HL.out;simp only[maxLen];omega) (by have:=HL.out;omega) HZB.out.size _ rfl ?_
  intro g cap w8 hown hgr _ _
  have hb:Below u4.heap.size u4 w8:=HZB.out.grown hgr HZB.out.size (own_base HOWN.out)
  have HR9:=h_ (Rs.of_own (T:=tyHd) (l:=l++ [⟨mo,lo,hi⟩]) (by rw[List.length_append,List.length_singleton,Ty.all_app,Ty.all_single];exact hown))
  clear hown hgr hInf hz0 hz1 hz2 HOWN HZB
  clear KD KI KN KQ KY HB
  have KD:=ZD
  clear ZD
  have KI:=ZI
  clear ZI
  have KN:=ZN
  clear ZN
  have KQ:=ZQ
  clear ZQ
  have KY:=ZY
  clear ZY
  have HB:=ZHB
  clear ZHB
  obtain⟨hz,KD,KI,KN,KQ,HB⟩:=m5 hb KD KI KN KQ HB
  refine b_ hK (.inr ⟨KD.out,KI.out,KN.out⟩) ?_
  refine l_ 8 (.inr ⟨KD.out,KI.out,KN.out⟩) ?_
  refine ld 9 fun K hK=>?_
  obtain⟨D0,Df0,D1,Df1⟩:=cells2 KD.out
  go_simp
  clear D0 Df0 D1 Df1
  refine ns KD fun u5 ho kD=>?_
  obtain⟨hz,KI,KN,KQ,HR9,HB⟩:=o5 ho KI KN KQ HR9 HB
  replace KD:=kD
  clear kD
  refine b_ hK (.inl (by kernel_rfl)) ?_
  refine dl ?_
  go_upto_region 10 with(fail)
  refine nm fun w9 hb=>?_
  obtain⟨hz,KD,KI,KN,KQ,HR9,HB⟩:=m6 hb KD KI KN KQ HR9 HB
  obtain⟨D0,Df0,D1,Df1⟩:=cells2 KD.out
  obtain⟨Q0,Qf0,Q1,Qf1⟩:=cells2 KQ.out
  go_wp2
  refine bodyPost_ret (res_cell_tmp (cs:=#[.slice (some ⟨g,0,none⟩) (l.length+1) cap,.slice none 0 0]) Tryz.results182 rfl (blk_put KQ.out 0 [.slice (some ⟨g,0,none⟩) (l.length+1) cap,.slice none 0 0] (Nat.le_of_ble_eq_true rfl)) Tryz.underlying39 rfl (by kernel_rfl)) rfl ⟨_,_,_,l++ [⟨mo,lo,hi⟩],rfl,?_,.inr rfl,?_⟩
  ·exact(Rs.puts HR9.out KQ.out (by decide) 0 [.slice (some ⟨g,0,none⟩) (l.length+1) cap,.slice none 0 0])
  ·exact(below_puts HB.out (w.heap.size+1+1+1) (by omega) 0 [.slice (some ⟨g,0,none⟩) (l.length+1) cap,.slice none 0 0])
end Go.Proofs.YtmgmdiekpmffbaaGreatDoor.Top
