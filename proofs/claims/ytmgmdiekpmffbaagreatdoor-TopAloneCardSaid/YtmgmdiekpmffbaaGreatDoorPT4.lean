/- Part of the proof of the statement TopAlone, as a card; what is proved, and on which condition, stands at the head of YtmgmdiekpmffbaaGreatDoorPT20 (texts Reader, Next, GivWire, Was, Enc, GivDoor, QWix0, QWix3, Long, MayReply, QWix1, QWix11) -/
import Derived.BigQuiet
import Derived.Laws.Closers25
import Derived.Test.YtmgmdiekpmffbaaGreatDoorProg
import Derived.Below
import Derived.Deep.Draws
import Derived.Deep.AppendLies
import Derived.Maps.AppendAt
import Derived.OwnWalk
import Derived.Laws.BytesArg
import Derived.Laws.MakeOwn
import Derived.Laws.OwnMore
import Derived.Deep.OwnRows
import Derived.Tactics
import Derived.Lib.ConvBytes
import Derived.Laws.Slices
import Derived.WalkKit
import Derived.KernelRfl
import Derived.RowKit3
import Derived.Deep.LoopGhost
import Derived.Deep.QuietTactic
import Derived.WideLaws
import Derived.Deep.DeepCutAuto
import Derived.Deep.CutBlock
import Derived.Deep.RegionHeld3
import Derived.Laws.Rows
import Derived.Lib.AppendStr
import Derived.ArgAppend
import Derived.Laws.IdiomCopy
import Derived.OrdersHeld
import Derived.Laws.BitsLemmas
import Derived.RowKit
import Derived.Lib.Hide
import Derived.RangeFuncRecord
import Derived.Test.YtmgmdiekpmffbaaGreatDoorPT0
import Derived.Test.YtmgmdiekpmffbaaGreatDoorPT1
import Derived.Test.YtmgmdiekpmffbaaGreatDoorPT2
import Derived.Test.YtmgmdiekpmffbaaGreatDoorPT3
set_option maxHeartbeats 64000000
set_option maxRecDepth 100000
set_option linter.unusedVariables false
set_option linter.unusedSimpArgs false
namespace Go.Proofs.YtmgmdiekpmffbaaGreatDoor.Reader
open Go Go.RowKit Go.Proofs.YtmgmdiekpmffbaaGreatDoor.DecM Go.Proofs.YtmgmdiekpmffbaaGreatDoor.Giv Go.Proofs.YtmgmdiekpmffbaaGreatDoor.Err Go.Proofs.YtmgmdiekpmffbaaGreatDoorW.PrintWords Go.Proofs.YtmgmdiekpmffbaaGreatDoorW.PrintLast
structure Only (b:Nat)(w w':World):Prop where
 os:w'.os=w.os
 tape:w'.tape=w.tape
 output:w'.output=w.output
 size:w.heap.size≤w'.heap.size
 block:∀k,k<w.heap.size→k≠b→w'.heap[k]? =w.heap[k]?
theorem Only.refl (b:Nat)(w:World):Only b w w:=⟨rfl,rfl,rfl,Nat.le_refl _,fun _ _ _=>rfl⟩
theorem Only.trans {b:Nat}{w w1 w2:World}(h:Only b w w1)(k:Only b w1 w2):Only b w w2:=
 ⟨k.os.trans h.os,k.tape.trans h.tape,k.output.trans h.output,Nat.le_trans h.size k.size,fun i hi hb=>(k.block i (Nat.lt_of_lt_of_le hi h.size) hb).trans (h.block i hi hb)⟩
theorem Only.of_below {b:Nat}{w w':World}(h:Below w.heap.size w w'):Only b w w':=⟨h.os,h.tape,h.output,h.size,fun k hk _=>h.block k hk⟩
theorem Only.below {b B:Nat}{w w':World}(h:Only b w w')(hb:B≤b)(hB:B≤w.heap.size):Below B w w':=⟨h.os,h.tape,h.output,h.size,fun k hk=>h.block k (by omega) (by omega)⟩
theorem Only.set {b:Nat}{w w1:World}(h:Only b w w1)(o:Nat)(u:Value):Only b w (w1.setCell ⟨b,o,none⟩ u):=
 ⟨h.os,h.tape,h.output,by simp[World.setCell];exact h.size,fun k hk hb=>(Below.heap_setCell w1 ⟨b,o,none⟩ u k hb).trans (h.block k hk hb)⟩
theorem Only.alloc {b:Nat}{w w1:World}(h:Only b w w1)(o:Obj):Only b w (w1.alloc o):=
 ⟨h.os,h.tape,h.output,by have:=h.size;simp;omega,fun k hk hb=>(Below.heap_alloc w1 o k (Nat.lt_of_lt_of_le hk h.size)).trans (h.block k hk hb)⟩
theorem Only.drew {b:Nat}{w w1:World}(h:Only b w w1):Only b w w1.drew:=⟨h.os,h.tape,h.output,h.size,h.block⟩
theorem Only.cell {b:Nat}{w w':World}(h:Only b w w'){p:Addr}(hp:p.block<w.heap.size)(hb:p.block≠b):w'.cell? p=w.cell? p:=World.cell?_of_block (w:=w) (h.block p.block hp hb)
theorem Only.frozen {b:Nat}{w w':World}(h:Only b w w'){p:Addr}(hp:p.block<w.heap.size)(hb:p.block≠b):w'.frozen? p=w.frozen? p:=World.frozen?_of_block (w:=w) (h.block p.block hp hb)
theorem Only.fresh {b t:Nat}{w w1 w2:World}(h:Only b w w1)(k:Only t w1 w2)(ht:w.heap.size≤t):Only b w w2:=
 ⟨k.os.trans h.os,k.tape.trans h.tape,k.output.trans h.output,Nat.le_trans h.size k.size,fun i hi hb=>(k.block i (Nat.lt_of_lt_of_le hi h.size) (by omega)).trans (h.block i hi hb)⟩
theorem cell_lt {w:World}{p:Addr}{v:Value}(h:w.cell? p=some v):p.block<w.heap.size:=by
 rcases Nat.lt_or_ge p.block w.heap.size with h'|h'
 ·exact h'
 ·simp [World.cell?,Array.getElem?_eq_none h'] at h
theorem set_same {w:World}{a:Addr}{u v:Value}(h:w.cell? a=some u):(w.setCell a v).cell? a=some v:=by
 apply World.cell?_setCell_same
 exact h
theorem set_other {w:World}{b o o':Nat}{v:Value}(h:o≠o'):(w.setCell ⟨b,o,none⟩ v).cell? ⟨b,o',none⟩=w.cell? ⟨b,o',none⟩:=by
 apply World.cell?_setCell_other
 exact fun e=>h (congrArg Addr.off e)
structure RdAt (w:World)(b:Nat)(s:ByteArray)(n:Int)(ev:Value):Prop where
 c0:w.cell? ⟨b,0,none⟩=some (.string s)
 c1:w.cell? ⟨b,1,none⟩=some (.int .i64 n)
 c2:w.cell? ⟨b,2,none⟩=some ev
 f:∀o,w.frozen? ⟨b,o,none⟩=false
theorem RdAt.below {w w':World}{b:Nat}{s:ByteArray}{n:Int}{ev:Value}(h:RdAt w b s n ev)(hb:Below w.heap.size w w'):RdAt w' b s n ev:=by
 have hl:b<w.heap.size:=cell_lt h.c0
 exact⟨(hb.cell hl).trans h.c0,(hb.cell hl).trans h.c1,(hb.cell hl).trans h.c2,fun o=>(hb.frozen (p:=⟨b,o,none⟩) hl).trans (h.f o)⟩
def ErrAt (w:World)(av:List Nat)(ev:Value):Bool→Prop
 |false=>ev= .nilIface
 |true=>∃(c:Nat) (k:Int),ev= .iface 218 (.pointer (some ⟨c,0,none⟩))∧c∉av∧c<w.heap.size∧1≤k∧w.cell? ⟨c,0,none⟩=some (.int .i64 k)∧w.cell? ⟨c,1,none⟩=some (.iface 223 (.agg #[]))
theorem ErrAt.only {w w':World}{b:Nat}{av:List Nat}{ev:Value}{bad:Bool}(h:ErrAt w av ev bad)(hm:b∈av)(hb:Only b w w'):ErrAt w' av ev bad:=by
 cases bad with
 |false=>exact h
 |true=>
  obtain⟨c,k,e,h1,h2,h3,h4,h5⟩:=h
  have hne:c≠b:=fun e=>h1 (e▸hm)
  exact⟨c,k,e,h1,Nat.lt_of_lt_of_le h2 hb.size,h3,(hb.cell (p:=⟨c,0,none⟩) h2 hne).trans h4,(hb.cell (p:=⟨c,1,none⟩) h2 hne).trans h5⟩
structure Rd (w:World)(b:Nat)(av:List Nat)(s:ByteArray)(n:Int)(bad:Bool):Prop where
 at':∃ev,RdAt w b s n ev∧ErrAt w av ev bad
 mem:b∈av
 lt:∀a∈av,a<w.heap.size
theorem Rd.below {w w':World}{b:Nat}{av:List Nat}{s:ByteArray}{n:Int}{bad:Bool}(h:Rd w b av s n bad)(hb:Below w.heap.size w w'):Rd w' b av s n bad:=by
 obtain⟨⟨ev,h1,h2⟩,h3,h4⟩:=h
 exact⟨⟨ev,h1.below hb,h2.only h3 (.of_below hb)⟩,h3,fun a ha=>Nat.lt_of_lt_of_le (h4 a ha) hb.size⟩
theorem Rd.other {w w':World}{b t:Nat}{av:List Nat}{s:ByteArray}{n:Int}{bad:Bool}(h:Rd w b av s n bad)(ht:t∈av)(hne:t≠b)(hb:Only t w w'):Rd w' b av s n bad:=by
 obtain⟨⟨ev,h1,h2⟩,h3,h4⟩:=h
 have hl:b<w.heap.size:=cell_lt h1.c0
 exact⟨⟨ev,⟨(hb.cell (p:=⟨b,0,none⟩) hl hne.symm).trans h1.c0,(hb.cell (p:=⟨b,1,none⟩) hl hne.symm).trans h1.c1,(hb.cell (p:=⟨b,2,none⟩) hl hne.symm).trans h1.c2,fun o=>(hb.frozen (p:=⟨b,o,none⟩) hl hne.symm).trans (h1.f o)⟩,h2.only ht hb⟩,h3,fun a ha=>Nat.lt_of_lt_of_le (h4 a ha) hb.size⟩
theorem Rd.push {w:World}{b:Nat}{av:List Nat}{s:ByteArray}{n:Int}{bad:Bool}(h:Rd w b av s n bad)(o:Obj):Rd (w.alloc o) b (w.heap.size :: av) s n bad:=by
 have hz:(w.alloc o).heap.size=w.heap.size+1:=by simp
 obtain⟨⟨ev,h1,h2⟩,h3,h4⟩:=h.below ((Below.refl w.heap.size w).alloc (Nat.le_refl _) o)
 obtain⟨⟨ev0,g1,g2⟩,g3,g4⟩:=h
 have e:ev0=ev:=by
  have hl:b<w.heap.size:=cell_lt g1.c0
  have:=((Below.refl w.heap.size w).alloc (Nat.le_refl _) o).cell (p:=⟨b,2,none⟩) hl
  rw[h1.c2,g1.c2] at this
  exact(Option.some.inj this).symm
 subst e
 refine⟨⟨ev0,h1,?_⟩,List.mem_cons_of_mem _ h3,fun a ha=>?_⟩
 ·cases bad with
  |false=>exact h2
  |true=>
   obtain⟨c,k,e,k1,k2,k3,k4,k5⟩:=g2
   subst e
   obtain⟨c',k',e',j1,j2,j3,j4,j5⟩:=h2
   cases e'
   refine⟨c,k',rfl,?_,j2,j3,j4,j5⟩
   rw[List.mem_cons]
   rintro(h|h)
   ·omega
   ·exact j1 h
 ·rcases List.mem_cons.mp ha with h|h
  ·omega
  ·exact h4 a h
theorem Rd.set {w:World}{b:Nat}{av:List Nat}{s:ByteArray}{n:Int}{bad:Bool}(h:Rd w b av s n bad)(s1:ByteArray):Rd (w.setCell ⟨b,0,none⟩ (.string s1)) b av s1 n bad:=by
 obtain⟨⟨ev,h1,h2⟩,h3,h4⟩:=h
 refine⟨⟨ev,⟨set_same h1.c0,?_,?_,fun o=>?_⟩,h2.only h3 ((Only.refl b w).set 0 _)⟩,h3,fun a ha=>?_⟩
 ·rw [set_other (by decide)]
  exact h1.c1
 ·rw [set_other (by decide)]
  exact h1.c2
 ·rw [World.frozen?_setCell]
  exact h1.f o
 ·have:=h4 a ha
  simpa [World.setCell] using this
theorem took_calls (b:Nat)(av:List Nat)(s:ByteArray)(n:Int)(bad is:Bool)(w:World)(h:Rd w b av s n bad)(hn:0≤n∧n≤1000000):
  Calls Tryz.prog 113 #[.pointer (some ⟨b,0,none⟩),.bool is] w fun e w'=>e= .returned (.tuple #[])∧Rd w' b av s (n+1) (bad|| !is)∧Only b w w':=by
 obtain⟨⟨ev,h1,h2⟩,hmem,hlt⟩:=h
 have hl:b<w.heap.size:=cell_lt h1.c0
 have HM:=Lib.hid hmem
 have HLT:=Lib.hid hlt
 clear hmem hlt
 have c0:=h1.c0
 have c1:=h1.c1
 have c2:=h1.c2
 have f1:=h1.f 1
 have f2:=h1.f 2
 have hw:wrap64 (n+1)=n+1:=by
  unfold wrap64
  omega
 have HN:=Lib.hid hn
 clear hn
 have R1:RdAt (w.setCell ⟨b,1,none⟩ (.int .i64 (n+1))) b s (n+1) ev:=by
  refine⟨?_,set_same c1,?_,fun o=>?_⟩
  ·rw [set_other (by decide)]
   exact c0
  ·rw [set_other (by decide)]
   exact c2
  ·rw [World.frozen?_setCell]
   exact h1.f o
 have O1:Only b w (w.setCell ⟨b,1,none⟩ (.int .i64 (n+1))):=(Only.refl b w).set 1 _
 have HR:=Lib.hid R1
 have HO:=Lib.hid O1
 have HE:=Lib.hid h2
 have HLT1:Hid (∀a∈av,a<(w.setCell ⟨b,1,none⟩ (.int .i64 (n+1))).heap.size):=Lib.hid fun a ha=>by
  have:=HLT.out a ha
  simpa [World.setCell] using this
 clear R1 O1 h1
 cases bad with
 |true=>
  obtain⟨c,k,rfl,_⟩:=h2
  go_enter Tryz.func113,Tryz.ntmps113
  go_wp2
  go_end0
  exact⟨rfl,⟨⟨_,HR.out,HE.out.only HM.out HO.out⟩,HM.out,HLT1.out⟩,HO.out⟩
 |false=>
  cases h2
  cases is with
  |true=>
   go_enter Tryz.func113,Tryz.ntmps113
   go_wp2
   go_end0
   exact⟨rfl,⟨⟨_,HR.out,rfl⟩,HM.out,HLT1.out⟩,HO.out⟩
  |false=>
   go_enter Tryz.func113,Tryz.ntmps113
   go_wp2
   go_end0
   have R2:RdAt ((w.setCell ⟨b,1,none⟩ (.int .i64 (n+1))).setCell ⟨b,2,none⟩ (.iface 218 (.pointer (some ⟨w.heap.size,0,none⟩)))) b s (n+1) (.iface 218 (.pointer (some ⟨w.heap.size,0,none⟩))):=by
    refine⟨?_,?_,set_same HR.out.c2,fun o=>?_⟩
    ·rw [set_other (by decide)]
     exact HR.out.c0
    ·rw [set_other (by decide)]
     exact HR.out.c1
    ·rw [World.frozen?_setCell]
     exact HR.out.f o
   have O2:=HO.out.set 2 (.iface 218 (.pointer (some ⟨w.heap.size,0,none⟩)))
   have hz:((w.setCell ⟨b,1,none⟩ (.int .i64 (n+1))).setCell ⟨b,2,none⟩ (.iface 218 (.pointer (some ⟨w.heap.size,0,none⟩)))).heap.size=w.heap.size:=by simp
   refine⟨rfl,⟨⟨_,R2.below ((Below.refl _ _).alloc (Nat.le_refl _) _),⟨w.heap.size,n+1,rfl,fun h=>absurd (HLT.out _ h) (Nat.lt_irrefl _),by simp,by have:=HN.out;omega,?_,?_⟩⟩,HM.out,fun a ha=>by have:=HLT.out a ha;simp;omega⟩,O2.alloc _⟩
   ·rw [World.cell?_alloc_at _ _ _ _ (by simp)]
    rfl
   ·rw [World.cell?_alloc_at _ _ _ _ (by simp)]
    rfl
def numR (s:ByteArray)(bad:Bool)(most:Int):Int×ByteArray×Bool:=
 if bad=true∨¬(takeNum s).2.2=0∨(takeNum s).1>most then(0,s,true)else ((takeNum s).1,(takeNum s).2.1,false)
def textR (s:ByteArray)(bad:Bool)(most:Int):ByteArray×ByteArray×Bool:=
 if bad=true∨¬(takeText s most).2.2=0 then(ByteArray.empty,s,true)else ((takeText s most).1,(takeText s most).2.1,false)
theorem takeNum_nonneg (s:ByteArray):0≤(takeNum s).1:=by
 unfold takeNum
 simp only[]
 repeat' split
 all_goals first|exact Int.le_refl _|exact Int.natCast_nonneg _
theorem num_calls (b:Nat)(av:List Nat)(s:ByteArray)(n:Int)(bad:Bool)(most:Int)(w:World)(h:Rd w b av s n bad)(hn:0≤n∧n≤1000000)(hs:s.size≤9223372036854775807)(hm:0≤most∧most≤4611686018427387904):
  Calls Tryz.prog 62 #[.pointer (some ⟨b,0,none⟩),.int .u64 most] w fun e w'=>e= .returned (.int .i64 (numR s bad most).1)∧Rd w' b av (numR s bad most).2.1 (n+1) (numR s bad most).2.2∧Only b w w':=by
 have hv:=takeNum_nonneg s
 have HT:=Lib.hid fun w=>take_calls s w hs
 unfold Ends at HT
 unfold numR
 generalize takeNum s=t at *
 obtain⟨v,rest,er⟩:=t
 simp only[] at *
 have HH:=Lib.hid h
 have HN:=Lib.hid hn
 have hwr:wrap64 v=v∨most<v:=by
  unfold wrap64
  omega
 obtain⟨⟨ev,h1,h2⟩,hmem,hlt⟩:=h
 have c0:=h1.c0
 clear hmem hlt
 clear hn h1 h2 hs
 cases bad with
 |true=>
  by_cases he:er=0
  ·by_cases hle:v≤most
   ·subst he
    have cv:decide (v≤most)=true:=decide_eq_true (by omega)
    rw[if_pos (.inl rfl)]
    have HV:=Lib.hid hv
    clear hwr hm hv hle
    go_enter Tryz.func62,Tryz.ntmps62
    go_wp2_with (go_at_call 98;refine(HT.out _).mono ?_)
    rintro e w1 ⟨rfl,hb⟩
    have h3:=HH.out.below hb
    go_wp2_with (go_at_call 113;refine(took_calls b av s n true true _ h3 HN.out).mono ?_)
    rintro e w2 ⟨rfl,h4,o4⟩
    have H4:=Lib.hid h4
    obtain⟨⟨ev4,R4,E4⟩,hmem,hlt⟩:=h4
    clear hmem hlt
    obtain⟨c,k,rfl,_⟩:=E4
    have d2:=R4.c2
    clear R4
    go_wp2
    go_ret
    exact⟨rfl,H4.out,(Only.of_below hb).trans o4⟩
   ·subst he
    have cv:decide (v≤most)=false:=decide_eq_false (by omega)
    rw[if_pos (.inl rfl)]
    have HV:=Lib.hid hv
    clear hwr hm hv hle
    go_enter Tryz.func62,Tryz.ntmps62
    go_wp2_with (go_at_call 98;refine(HT.out _).mono ?_)
    rintro e w1 ⟨rfl,hb⟩
    have h3:=HH.out.below hb
    go_wp2_with (go_at_call 113;refine(took_calls b av s n true false _ h3 HN.out).mono ?_)
    rintro e w2 ⟨rfl,h4,o4⟩
    have H4:=Lib.hid h4
    obtain⟨⟨ev4,R4,E4⟩,hmem,hlt⟩:=h4
    clear hmem hlt
    obtain⟨c,k,rfl,_⟩:=E4
    have d2:=R4.c2
    clear R4
    go_wp2
    go_ret
    exact⟨rfl,H4.out,(Only.of_below hb).trans o4⟩
  ·have cb:(er==0)=false:=beq_eq_false_iff_ne.mpr he
   have HX:=Lib.hid he
   clear he
   rw[if_pos (.inl rfl)]
   have HV:=Lib.hid hv
   clear hwr hm hv
   go_enter Tryz.func62,Tryz.ntmps62
   go_wp2_with (go_at_call 98;refine(HT.out _).mono ?_)
   rintro e w1 ⟨rfl,hb⟩
   have h3:=HH.out.below hb
   go_wp2_with (go_at_call 113;refine(took_calls b av s n true false _ h3 HN.out).mono ?_)
   rintro e w2 ⟨rfl,h4,o4⟩
   have H4:=Lib.hid h4
   obtain⟨⟨ev4,R4,E4⟩,hmem,hlt⟩:=h4
   clear hmem hlt
   obtain⟨c,k,rfl,_⟩:=E4
   have d2:=R4.c2
   clear R4
   go_wp2
   go_ret
   exact⟨rfl,H4.out,(Only.of_below hb).trans o4⟩
 |false=>
  by_cases he:er=0
  ·by_cases hle:v≤most
   ·subst he
    have cv:decide (v≤most)=true:=decide_eq_true (by omega)
    have HWE:Hid (wrap64 v=v):=Lib.hid (by omega)
    rw[if_neg (by simp;omega)]
    have HV:=Lib.hid hv
    clear hwr hm hv hle
    go_enter Tryz.func62,Tryz.ntmps62
    go_wp2_with (go_at_call 98;refine(HT.out _).mono ?_)
    rintro e w1 ⟨rfl,hb⟩
    have h3:=HH.out.below hb
    go_wp2_with (go_at_call 113;refine(took_calls b av s n false true _ h3 HN.out).mono ?_)
    rintro e w2 ⟨rfl,h4,o4⟩
    have H4:=Lib.hid h4
    obtain⟨⟨ev4,R4,E4⟩,hmem,hlt⟩:=h4
    clear hmem hlt
    obtain rfl:ev4= .nilIface:=E4
    have d0:=R4.c0
    have d2:=R4.c2
    have g0:=R4.f 0
    clear R4
    go_wp2
    go_ret
    refine⟨?_,H4.out.set rest,((Only.of_below hb).trans o4).set 0 _⟩
    show Ending.returned (.int .i64 (wrap64 v))=_
    rw[HWE.out]
   ·subst he
    have cv:decide (v≤most)=false:=decide_eq_false (by omega)
    rw[if_pos (.inr (.inr (by omega)))]
    have HV:=Lib.hid hv
    clear hwr hm hv hle
    go_enter Tryz.func62,Tryz.ntmps62
    go_wp2_with (go_at_call 98;refine(HT.out _).mono ?_)
    rintro e w1 ⟨rfl,hb⟩
    have h3:=HH.out.below hb
    go_wp2_with (go_at_call 113;refine(took_calls b av s n false false _ h3 HN.out).mono ?_)
    rintro e w2 ⟨rfl,h4,o4⟩
    have H4:=Lib.hid h4
    obtain⟨⟨ev4,R4,E4⟩,hmem,hlt⟩:=h4
    clear hmem hlt
    obtain⟨c,k,rfl,_⟩:=E4
    have d2:=R4.c2
    clear R4
    go_wp2
    go_ret
    exact⟨rfl,H4.out,(Only.of_below hb).trans o4⟩
  ·have cb:(er==0)=false:=beq_eq_false_iff_ne.mpr he
   have HX:=Lib.hid he
   clear he
   rw[if_pos (.inr (.inl HX.out))]
   have HV:=Lib.hid hv
   clear hwr hm hv
   go_enter Tryz.func62,Tryz.ntmps62
   go_wp2_with (go_at_call 98;refine(HT.out _).mono ?_)
   rintro e w1 ⟨rfl,hb⟩
   have h3:=HH.out.below hb
   go_wp2_with (go_at_call 113;refine(took_calls b av s n false false _ h3 HN.out).mono ?_)
   rintro e w2 ⟨rfl,h4,o4⟩
   have H4:=Lib.hid h4
   obtain⟨⟨ev4,R4,E4⟩,hmem,hlt⟩:=h4
   clear hmem hlt
   obtain⟨c,k,rfl,_⟩:=E4
   have d2:=R4.c2
   clear R4
   go_wp2
   go_ret
   exact⟨rfl,H4.out,(Only.of_below hb).trans o4⟩
theorem text_calls (b:Nat)(av:List Nat)(s:ByteArray)(n:Int)(bad:Bool)(most:Int)(w:World)(h:Rd w b av s n bad)(hn:0≤n∧n≤1000000)(hs:s.size≤9223372036854775807)(hm:0≤most∧most≤4611686018427387904):
  Calls Tryz.prog 63 #[.pointer (some ⟨b,0,none⟩),.int .i64 most] w fun e w'=>e= .returned (.string (textR s bad most).1)∧Rd w' b av (textR s bad most).2.1 (n+1) (textR s bad most).2.2∧Only b w w':=by
 have HT:=Lib.hid fun w=>QDec.dec_TakeText.calls 1 s most (takeText s most).1 (takeText s most).2.1 (takeText s most).2.2 w (DecPure.text_some 0 s most hs (by omega))
 unfold textR
 generalize takeText s most=t at *
 obtain⟨v,rest,er⟩:=t
 simp only[] at *
 have HH:=Lib.hid h
 have HN:=Lib.hid hn
 obtain⟨⟨ev,h1,h2⟩,hmem,hlt⟩:=h
 have c0:=h1.c0
 clear hmem hlt
 clear hn h1 h2 hs hm
 cases bad with
 |true=>
  by_cases he:er=0
  ·subst he
   rw[if_pos (.inl rfl)]
   go_enter Tryz.func63,Tryz.ntmps63
   go_wp2_with (go_at_call 61;refine(HT.out _).mono ?_)
   rintro e w1 ⟨rfl,hb⟩
   have h3:=HH.out.below hb
   go_wp2_with (go_at_call 113;refine(took_calls b av s n true true _ h3 HN.out).mono ?_)
   rintro e w2 ⟨rfl,h4,o4⟩
   have H4:=Lib.hid h4
   obtain⟨⟨ev4,R4,E4⟩,hmem,hlt⟩:=h4
   clear hmem hlt
   obtain⟨c,k,rfl,_⟩:=E4
   have d2:=R4.c2
   clear R4
   go_wp2
   go_ret
   exact⟨rfl,H4.out,(Only.of_below hb).trans o4⟩
  ·have cb:(er==0)=false:=beq_eq_false_iff_ne.mpr he
   have HX:=Lib.hid he
   clear he
   rw[if_pos (.inl rfl)]
   go_enter Tryz.func63,Tryz.ntmps63
   go_wp2_with (go_at_call 61;refine(HT.out _).mono ?_)
   rintro e w1 ⟨rfl,hb⟩
   have h3:=HH.out.below hb
   go_wp2_with (go_at_call 113;refine(took_calls b av s n true false _ h3 HN.out).mono ?_)
   rintro e w2 ⟨rfl,h4,o4⟩
   have H4:=Lib.hid h4
   obtain⟨⟨ev4,R4,E4⟩,hmem,hlt⟩:=h4
   clear hmem hlt
   obtain⟨c,k,rfl,_⟩:=E4
   have d2:=R4.c2
   clear R4
   go_wp2
   go_ret
   exact⟨rfl,H4.out,(Only.of_below hb).trans o4⟩
 |false=>
  by_cases he:er=0
  ·subst he
   rw[if_neg (by simp)]
   go_enter Tryz.func63,Tryz.ntmps63
   go_wp2_with (go_at_call 61;refine(HT.out _).mono ?_)
   rintro e w1 ⟨rfl,hb⟩
   have h3:=HH.out.below hb
   go_wp2_with (go_at_call 113;refine(took_calls b av s n false true _ h3 HN.out).mono ?_)
   rintro e w2 ⟨rfl,h4,o4⟩
   have H4:=Lib.hid h4
   obtain⟨⟨ev4,R4,E4⟩,hmem,hlt⟩:=h4
   clear hmem hlt
   obtain rfl:ev4= .nilIface:=E4
   have d0:=R4.c0
   have d2:=R4.c2
   have g0:=R4.f 0
   clear R4
   go_wp2
   go_ret
   exact⟨rfl,H4.out.set rest,((Only.of_below hb).trans o4).set 0 _⟩
  ·have cb:(er==0)=false:=beq_eq_false_iff_ne.mpr he
   have HX:=Lib.hid he
   clear he
   rw[if_pos (.inr HX.out)]
   go_enter Tryz.func63,Tryz.ntmps63
   go_wp2_with (go_at_call 61;refine(HT.out _).mono ?_)
   rintro e w1 ⟨rfl,hb⟩
   have h3:=HH.out.below hb
   go_wp2_with (go_at_call 113;refine(took_calls b av s n false false _ h3 HN.out).mono ?_)
   rintro e w2 ⟨rfl,h4,o4⟩
   have H4:=Lib.hid h4
   obtain⟨⟨ev4,R4,E4⟩,hmem,hlt⟩:=h4
   clear hmem hlt
   obtain⟨c,k,rfl,_⟩:=E4
   have d2:=R4.c2
   clear R4
   go_wp2
   go_ret
   exact⟨rfl,H4.out,(Only.of_below hb).trans o4⟩
def Handle (w:World):Prop:=w.cell? ⟨0,0,none⟩=some (.iface 320 (.agg #[.pointer (some ⟨1,153,none⟩)]))
theorem Handle.below {w w':World}(h:Handle w)(hb:Below w.heap.size w w'):Handle w':=(hb.cell (p:=⟨0,0,none⟩) (cell_lt h)).trans h
theorem Handle.only {w w':World}{b:Nat}(h:Handle w)(hb:Only b w w')(h0:b≠0):Handle w':=(hb.cell (p:=⟨0,0,none⟩) (cell_lt h) (fun e=>h0 e.symm)).trans h
theorem as_only (e:Addr)(t:Nat)(w:World)(hg:Handle w)(ht:w.cell? ⟨t,0,none⟩=some (.pointer none))(hf:w.frozen? ⟨t,0,none⟩=false):
  Calls Tryz.prog 114 #[.iface 218 (.pointer (some e)),.iface 220 (.pointer (some ⟨t,0,none⟩))] w fun ev w'=>ev= .returned (.bool true)∧Only t w w'∧w'.cell? ⟨t,0,none⟩=some (.pointer (some e)):=by
 refine(as_hit e ⟨t,0,none⟩ (.pointer none) w hg ht hf).mono ?_
 rintro ev w' ⟨rfl,rfl⟩
 have hl:t<w.heap.size:=cell_lt ht
 refine⟨rfl,(((((Only.refl t w).alloc _).alloc _).alloc _).alloc _).set 0 _,set_same (u:= .pointer none) ?_⟩
 rw[World.cell?_alloc_lt _ _ _ (by simp;omega),World.cell?_alloc_lt _ _ _ (by simp;omega),World.cell?_alloc_lt _ _ _ (by simp;omega),World.cell?_alloc_lt _ _ _ hl]
 exact ht
theorem empty_iff (s:ByteArray):s.toList.isEmpty=decide (s.size=0):=by
 rw[←decide_eq_emptyBytes]
 exact decide_eq_decide.mpr ByteArray.size_eq_zero_iff.symm
theorem end_calls (b:Nat)(av:List Nat)(s:ByteArray)(n:Int)(bad:Bool)(w:World)(hg:Handle w)(hb0:b≠0)(h:Rd w b av s n bad)(hn:0≤n∧n≤1000000):
  Calls Tryz.prog 64 #[.pointer (some ⟨b,0,none⟩)] w fun e w'=>e= .returned (.int .i64 (if bad=true∨¬s.size=0 then 3 else 0))∧Only b w w':=by
 have HH:=Lib.hid h
 have HN:=Lib.hid hn
 have HG:=Lib.hid hg
 have HB:=Lib.hid hb0
 obtain⟨⟨ev,h1,h2⟩,hmem,hlt⟩:=h
 have c0:=h1.c0
 clear hmem hlt
 clear hn h1 h2 hg hb0
 by_cases hc:bad=true∨¬s.size=0
 ·rw [if_pos hc]
  go_enter Tryz.func64,Tryz.ntmps64
  go_wp2_with (go_at_call 113;refine(took_calls b av s n bad _ _ HH.out HN.out).mono ?_)
  rintro e w1 ⟨rfl,⟨⟨ev1,R1,E1⟩,hmem,hlt⟩,o4⟩
  clear hmem hlt
  rw[empty_iff] at E1
  have hl:b<w1.heap.size:=cell_lt R1.c0
  have b2:=(Below.refl w1.heap.size w1).alloc (Nat.le_refl _) (.cells #[.pointer none] 218)
  have R2:=R1.below b2
  have o2:Only b w (w1.alloc (.cells #[.pointer none] 218)):=o4.alloc _
  have HO:=Lib.hid o2
  have HS:=Lib.hid o4.size
  have d2:=R2.c2
  have hv:(bad|| !decide (s.size=0))=true:=by
   rcases hc with h|h
   ·rw [h]
    rfl
   ·rw [decide_eq_false h,Bool.not_false,Bool.or_true]
  rw[hv] at E1
  obtain⟨c,k,rfl,e1,e2,e3,e4,e5⟩:=E1
  have hg2:Handle (w1.alloc (.cells #[.pointer none] 218)):=HG.out.only o2 HB.out
  have HA:=Lib.hid (as_only ⟨c,0,none⟩ w1.heap.size _ hg2 (by simp) (by simp))
  have HD:=Lib.hid d2
  have e4':=(b2.cell (p:=⟨c,0,none⟩) e2).trans e4
  have e5':=(b2.cell (p:=⟨c,1,none⟩) e2).trans e5
  have HX:=Lib.hid (And.intro e2 (And.intro e3 (And.intro e4' e5')))
  have HL:=Lib.hid hl
  clear hg2 R1 R2 o2 o4 b2 e1 e2 e3 e4 e5 e4' e5' hl hv hc
  go_wp2_with (go_at_call 114;refine HA.out.mono ?_)
  rintro e w3 ⟨rfl,o3,t3⟩
  have g4:=(o3.cell (p:=⟨c,0,none⟩) (by have:=HX.out.1;simp;omega) (by have:=HX.out.1;simp;omega)).trans HX.out.2.2.1
  have g5:=(o3.cell (p:=⟨c,1,none⟩) (by have:=HX.out.1;simp;omega) (by have:=HX.out.1;simp;omega)).trans HX.out.2.2.2
  have g2:=(o3.cell (p:=⟨b,2,none⟩) (by have:=HL.out;simp;omega) (by have:=HL.out;simp;omega)).trans HD.out
  have hk:decide (0<k)=true:=decide_eq_true (by have:=HX.out.2.1;omega)
  have HO3:=Lib.hid o3
  clear o3
  go_wp2_with (go_at_call 88;refine(is_hit c _ g5).mono ?_)
  rintro e w4 ⟨rfl,rfl⟩
  go_wp2
  go_ret
  exact⟨rfl,HO.out.fresh HO3.out HS.out⟩
 ·rw [if_neg hc]
  have hb:bad=false:=by
   cases bad with
   |true=>exact absurd (.inl rfl) hc
   |false=>rfl
  have hv:(bad|| !decide (s.size=0))=false:=by
   rw[hb,decide_eq_true (Classical.not_not.mp fun h=>hc (.inr h))]
   rfl
  clear hc hb
  go_enter Tryz.func64,Tryz.ntmps64
  go_wp2_with (go_at_call 113;refine(took_calls b av s n bad _ _ HH.out HN.out).mono ?_)
  rintro e w1 ⟨rfl,⟨⟨ev1,R1,E1⟩,hmem,hlt⟩,o4⟩
  clear hmem hlt
  rw[empty_iff,hv] at E1
  obtain rfl:ev1= .nilIface:=E1
  have b2:=(Below.refl w1.heap.size w1).alloc (Nat.le_refl _) (.cells #[.pointer none] 218)
  have d2:=(R1.below b2).c2
  have HO:=Lib.hid (o4.alloc (.cells #[.pointer none] 218))
  clear R1 b2 o4 hv
  go_wp2_with (go_at_call 114;refine(as_nil _ _).mono ?_)
  rintro e w3 ⟨rfl,rfl⟩
  go_wp2
  go_ret
  exact⟨rfl,HO.out⟩
end Go.Proofs.YtmgmdiekpmffbaaGreatDoor.Reader
namespace Go.Proofs.YtmgmdiekpmffbaaGreatDoor.Reader
open Go Go.RowKit
def nx {α:Type}(x:ByteArray×Bool)(m:Int)(f:Int→ByteArray×Bool→α):α:=f (numR x.1 x.2 m).1 (numR x.1 x.2 m).2
def tx {α:Type}(x:ByteArray×Bool)(m:Int)(f:ByteArray→ByteArray×Bool→α):α:=f (textR x.1 x.2 m).1 (textR x.1 x.2 m).2
theorem nx_of {α:Type}{x:ByteArray×Bool}{m:Int}{v:Int×ByteArray×Bool}(f:Int→ByteArray×Bool→α)(h:numR x.1 x.2 m=v):nx x m f=f v.1 v.2:=by
 subst h
 rfl
theorem tx_of {α:Type}{x:ByteArray×Bool}{m:Int}{v:ByteArray×ByteArray×Bool}(f:ByteArray→ByteArray×Bool→α)(h:textR x.1 x.2 m=v):tx x m f=f v.1 v.2:=by
 subst h
 rfl
end Go.Proofs.YtmgmdiekpmffbaaGreatDoor.Reader
namespace Go.Proofs.YtmgmdiekpmffbaaGreatDoor.QWi
open Go Go.RowKit Go.Proofs.YtmgmdiekpmffbaaGreatDoor.Wire Go.Proofs.YtmgmdiekpmffbaaGreatDoorW.PrintWords Go.Proofs.YtmgmdiekpmffbaaGreatDoorW.PrintLast
def wire_nums.f (l:List Int):Option (ByteArray):=if l.length≤1048576∧l.all (fun x=>decide (0≤x)&&decide (x≤4611686018427387904))=true then some (numsS l)else none
theorem wire_nums.calls (A0:Option Addr)(c0:Nat)(l0:List Int)(r:ByteArray)(w:World)(hr0:Kd.C (Kd.int .i64) w A0 l0.length l0)(hc0:l0.length≤c0)(h:wire_nums.f l0=some r):
  Calls Tryz.prog 81 #[.slice A0 l0.length c0] w fun e w'=>e= .returned (.string r)∧Below w.heap.size w w':=by
 unfold wire_nums.f at h
 by_cases hs:l0.length≤1048576∧l0.all (fun x=>decide (0≤x)&&decide (x≤4611686018427387904))=true
 ·rw [if_pos hs] at h
  have hv:=nums_calls A0 c0 l0 w hr0 hc0 hs.1 (fun x hx=>by
   have:=List.all_eq_true.1 hs.2 x hx
   simpa using this)
  rw[Option.some.inj h] at hv
  exact hv
 ·rw [if_neg hs] at h
  cases h
def wire_texts.f (l:List ByteArray):Option (ByteArray):=if l.length≤1048576∧(glue (textP l)).length≤70368744177664 then some (textsW l)else none
theorem wire_texts.calls (A0:Option Addr)(c0:Nat)(l0:List ByteArray)(r:ByteArray)(w:World)(hr0:Kd.C Kd.string w A0 l0.length l0)(hc0:l0.length≤c0)(h:wire_texts.f l0=some r):
  Calls Tryz.prog 82 #[.slice A0 l0.length c0] w fun e w'=>e= .returned (.string r)∧Below w.heap.size w w':=by
 unfold wire_texts.f at h
 by_cases hs:l0.length≤1048576∧(glue (textP l0)).length≤70368744177664
 ·rw [if_pos hs] at h
  have hv:=texts_calls A0 c0 l0 w hr0 hc0 hs.1 hs.2
  rw[Option.some.inj h] at hv
  exact hv
 ·rw [if_neg hs] at h
  cases h
end Go.Proofs.YtmgmdiekpmffbaaGreatDoor.QWi
namespace Go.Proofs.YtmgmdiekpmffbaaGreatDoor.DecPure
open Go Go.Proofs.YtmgmdiekpmffbaaGreatDoor.DecM Go.Proofs.YtmgmdiekpmffbaaGreatDoor.Giv
theorem text_was (s:ByteArray)(most:Int)(h:(takeText s most).2.2=0):s=textS (takeText s most).1++(takeText s most).2.1∧((takeText s most).1.size:Int)≤most∧(takeText s most).1.size<two64:=by
 unfold takeText at h⊢
 by_cases h1:¬(takeNum s).2.2=0
 ·rw [if_pos h1] at h
  exact absurd h h1
 rw[if_neg h1] at h⊢
 by_cases h2:most<0∨(takeNum s).1>most
 ·rw [if_pos h2] at h
  cases h
 rw[if_neg h2] at h⊢
 by_cases h3:(takeNum s).1>(takeNum s).2.1.size
 ·rw [if_pos h3] at h
  cases h
 rw[if_neg h3]
 have h1':(takeNum s).2.2=0:=Decidable.not_not.mp h1
 obtain⟨n,e1,e2,e⟩:=take_was (s:=s) (v:=(takeNum s).1) (r:=(takeNum s).2.1) (by rw[←h1'])
 clear h h1 h1'
 generalize (takeNum s).2.1=r at *
 generalize (takeNum s).1=v at *
 subst e1
 simp only[Int.toNat_natCast]
 have hn:n≤r.size:=by omega
 have hsz:(r.extract 0 n).size=n:=by
  rw[ByteArray.size_extract]
  omega
 refine⟨?_,by rw[hsz];omega,by rw[hsz];exact e2⟩
 rw[e]
 unfold textS
 rw[hsz,ByteArray.append_assoc]
 congr 1
 apply bytes_ext
 rw[data_append,ext_upto,ext_from,List.take_append_drop]
end Go.Proofs.YtmgmdiekpmffbaaGreatDoor.DecPure
namespace Go.Proofs.YtmgmdiekpmffbaaGreatDoor.Enc
open Go Go.RowKit Go.Proofs.YtmgmdiekpmffbaaGreatDoor.DecM Go.Proofs.YtmgmdiekpmffbaaGreatDoor.Giv Go.Proofs.YtmgmdiekpmffbaaGreatDoor.Wire Go.Proofs.YtmgmdiekpmffbaaGreatDoor.Reader
theorem asc (a b c:ByteArray):a++b++c=a++(b++c):=by
 apply bytes_ext
 simp only[data_append,List.append_assoc]
theorem app_empty (a:ByteArray):a++(⟨#[]⟩:ByteArray)=a:=by
 apply bytes_ext
 simp only[data_append,List.append_nil]
theorem size_nil {s:ByteArray}(h:s.size=0):s=(⟨#[]⟩:ByteArray):=by
 apply bytes_ext
 have:=len_size s
 rw[h] at this
 exact List.eq_nil_of_length_eq_zero this
theorem nx_back {α:Type}(n:Int)(r:ByteArray)(m:Int)(f:Int→ByteArray×Bool→α)(hn:0≤n∧n≤m)(hm:m≤1073741824):nx (numS n.toNat++r,false) m f=f n (r,false):=by
 have e:=take_back n.toNat (by unfold two64;omega) r
 have en:((n.toNat:Nat):Int)=n:=by omega
 rw[en] at e
 refine nx_of f (?_:_=(n,r,false))
 show numR (numS n.toNat++r) false m=_
 unfold numR
 rw[e]
 exact if_neg (by simp;omega)
theorem tx_back {α:Type}(t r:ByteArray)(m:Int)(f:ByteArray→ByteArray×Bool→α)(ht:(t.size:Int)≤m)(hm:m≤1073741824):tx (textS t++r,false) m f=f t (r,false):=by
 have e:=DecPure.text_back t r m (by omega)
 rw[if_neg (by omega)] at e
 refine tx_of f (?_:_=(t,r,false))
 show textR (textS t++r) false m=_
 unfold textR
 rw[e]
 exact if_neg (by simp)
theorem nums_one (a:Int):numsS [a]=numS a.toNat:=by
 apply bytes_ext
 simp[numsS,numP,glue]
theorem nums_cons (a b:Int)(l:List Int):numsS (a :: b :: l)=numS a.toNat++numsS (b :: l):=by
 apply bytes_ext
 rw[data_append]
 simp[numsS,numP,glue]
theorem texts_one (t:ByteArray):textsW [t]=textS t:=by
 apply bytes_ext
 simp[textsW,textP,glue,textW,textS]
theorem texts_cons (t u:ByteArray)(l:List ByteArray):textsW (t :: u :: l)=textS t++textsW (u :: l):=by
 apply bytes_ext
 rw[data_append]
 simp[textsW,textP,glue,textW,textS]
theorem numS_le (d n:Nat)(h:n<10 ^ (d+1)):(numS n).size≤d+2:=by
 have h1:=numL_len d n h
 unfold numS
 rw[strOfNums_size,List.length_append]
 simp
 omega
theorem numS_ge (n:Nat):1≤(numS n).size:=by
 unfold numS
 rw[strOfNums_size,List.length_append]
 simp
theorem num_size (n:Int)(h:0≤n∧n≤1073741824):(numS n.toNat).size≤11:=numS_le 9 n.toNat (by omega)
theorem text_size (t:ByteArray)(h:t.size≤64):(textS t).size≤3+t.size:=by
 have:=numS_le 1 t.size (by omega)
 unfold textS
 rw[ByteArray.size_append]
 omega
theorem glue_len (l:List ByteArray)(d:Nat)(h:∀t∈l,t.size≤d):(glue l).length≤d*l.length:=by
 induction l with
 |nil=>exact Nat.zero_le _
 |cons t l ih=>
  have e:glue (t :: l)=t.data.toList++glue l:=rfl
  have h1:=h t (List.mem_cons_self ..)
  have h2:=ih fun u hu=>h u (List.mem_cons_of_mem _ hu)
  rw[e,List.length_append,List.length_cons,len_size,Nat.mul_succ]
  omega
theorem nums_some (l:List Int)(hl:l.length≤16)(h:∀x∈l,0≤x∧x≤1073741824):QWi.wire_nums.f l=some (numsS l):=by
 unfold QWi.wire_nums.f
 rw[if_pos ⟨by omega,List.all_eq_true.2 fun x hx=>by have:=h x hx;simp;omega⟩]
theorem texts_some (l:List ByteArray)(hl:l.length≤16)(h:∀t∈l,t.size≤64):QWi.wire_texts.f l=some (textsW l):=by
 unfold QWi.wire_texts.f
 have h1:=glue_len (textP l) 67 (fun t ht=>by
  obtain⟨u,hu,rfl⟩:=List.mem_map.1 ht
  have:=h u hu
  have h2:(textW u).size≤3+u.size:=text_size u this
  omega)
 have h2:(textP l).length=l.length:=List.length_map ..
 rw[h2] at h1
 rw[if_pos ⟨by omega,by omega⟩]
end Go.Proofs.YtmgmdiekpmffbaaGreatDoor.Enc
namespace Go.Proofs.YtmgmdiekpmffbaaGreatDoor.QWi
open Go Go.RowKit
def stanchionref01_Num.f (a0:Int):Option (ByteArray):=QDec.stanchionref01_Num.f a0
theorem stanchionref01_Num.calls (a0:Int)(r:ByteArray)(w:World)(h:stanchionref01_Num.f a0=some r):
  Calls Tryz.prog 84 #[.int .u64 a0] w fun e w'=>e= .returned (.string r)∧Below w.heap.size w w':=QDec.stanchionref01_Num.calls a0 r w h
def stanchionref01_Text.f (a0:ByteArray):Option (ByteArray):=QDec.stanchionref01_Text.f a0
theorem stanchionref01_Text.calls (a0:ByteArray)(r:ByteArray)(w:World)(h:stanchionref01_Text.f a0=some r):
  Calls Tryz.prog 40 #[.string a0] w fun e w'=>e= .returned (.string r)∧Below w.heap.size w w':=QDec.stanchionref01_Text.calls a0 r w h
def stanchionref01_TakeNum.f (a0:ByteArray):Option (Int×ByteArray×Int):=QDec.stanchionref01_TakeNum.f a0
theorem stanchionref01_TakeNum.calls (a0:ByteArray)(r1:Int)(r2:ByteArray)(r3:Int)(w:World)(h:stanchionref01_TakeNum.f a0=some (r1,r2,r3)):
  Calls Tryz.prog 85 #[.string a0] w fun e w'=>e= .returned (.tuple #[.int .u64 r1,.string r2,.int .i64 r3])∧Below w.heap.size w w':=QDec.stanchionref01_TakeNum.calls a0 r1 r2 r3 w h
def stanchionref01_TakeText.f (a0:ByteArray)(a1:Int):Option (ByteArray×ByteArray×Int):=QDec.stanchionref01_TakeText.f 1 a0 a1
theorem stanchionref01_TakeText.calls (a0:ByteArray)(a1:Int)(r1:ByteArray)(r2:ByteArray)(r3:Int)(w:World)(h:stanchionref01_TakeText.f a0 a1=some (r1,r2,r3)):
  Calls Tryz.prog 41 #[.string a0,.int .i64 a1] w fun e w'=>e= .returned (.tuple #[.string r1,.string r2,.int .i64 r3])∧Below w.heap.size w w':=QDec.stanchionref01_TakeText.calls 1 a0 a1 r1 r2 r3 w h
end Go.Proofs.YtmgmdiekpmffbaaGreatDoor.QWi
namespace Go.Proofs.YtmgmdiekpmffbaaGreatDoor.QWi
open Go.RowKit Go.Proofs.YtmgmdiekpmffbaaGreatDoorW.PrintWords Go.Proofs.YtmgmdiekpmffbaaGreatDoorW.PrintLast Go.Proofs.YtmgmdiekpmffbaaGreatDoorW.PrintMore
attribute [local go_sem] max2_int min2_int max_two min_two max_three min_three max_four min_four
set_option linter.unusedVariables false
set_option linter.unusedSimpArgs false
def errW:Option Int→Value
 |none=> .nilIface
 |some c=> .iface 0 (.int .i64 c)
theorem errW_none:errW none= .nilIface:=rfl
theorem errW_some (c:Int):errW (some c)= .iface 0 (.int .i64 c):=rfl
theorem info123:(Tryz.prog.info? 123).map (fun i=>(i.zero,i.size,i.bytes))=some (some (.agg #[(.string ⟨#[]⟩),(.string ⟨#[]⟩)]),2,32):=by kernel_rfl
structure S123 where
 f0:ByteArray
 f1:ByteArray
def z123:S123:=⟨(⟨#[]⟩:ByteArray),(⟨#[]⟩:ByteArray)⟩
def k123:Kd S123:=Kd.iso (Kd.pair Kd.string Kd.string) (fun x:S123=>(x.f0,x.f1))
theorem k123_open {w:World}{x:S123}{cs:List Value}(h:k123.K w x cs):cs= [.string x.f0,.string x.f1]:=by
 obtain⟨_,_,rfl,rfl,rfl⟩:=h
 exact rfl
theorem k123_mk (w:World)(x:S123):k123.K w x [.string x.f0,.string x.f1]:=⟨[.string x.f0],[.string x.f1],rfl,rfl,rfl⟩
theorem k123_mkM (w:World)(base:Nat)(ok:Nat→Prop)(x:S123):k123.M w base ok x [.string x.f0,.string x.f1]:=⟨[.string x.f0],[.string x.f1],rfl,rfl,rfl⟩
def rd_T123 (xs:List S123)(i:Int):S123:=xs.getD i.toNat z123
theorem at_T123 {w:World}{A:Option Addr}{n:Nat}{xs:List S123}(h:Kd.C k123 w A n xs)(i:Int)(h0:0≤i)(h1:i<n):∃ad,A=some ad∧w.cell? (ad.add (i.toNat*2))=some (.string (rd_T123 xs i).f0)∧w.cell? ⟨(ad.add (i.toNat*2)).block,(ad.add (i.toNat*2)).off+1,none⟩=some (.string (rd_T123 xs i).f1):=by
 obtain⟨ad,c,e,_,hK,hc0⟩:=Kd.C_get h z123 i h0 h1
 have hc:∀j u,c[j]? =some u→w.cell? (ad.add (i.toNat*2+j))=some u:=hc0
 obtain rfl:=k123_open hK
 exact⟨ad,e,hc 0 _ rfl,by rw[←add_field _ _ 1 (by omega)];exact hc 1 _ rfl⟩
structure S65 where
 f0:Int
 f1:Int
 f2:Int
 f3:Int
 f4:ByteArray
 f5:Bool
 f6:(List S123)
 f7:Bool
def z65:S65:=⟨(0:Int),(0:Int),(0:Int),(0:Int),(⟨#[]⟩:ByteArray),false,([]:List S123),false⟩
end Go.Proofs.YtmgmdiekpmffbaaGreatDoor.QWi
namespace Go.Proofs.YtmgmdiekpmffbaaGreatDoor.QWi
open Go.RowKit Go.Proofs.YtmgmdiekpmffbaaGreatDoorW.PrintWords Go.Proofs.YtmgmdiekpmffbaaGreatDoorW.PrintLast Go.Proofs.YtmgmdiekpmffbaaGreatDoorW.PrintMore
attribute [local go_sem] max2_int min2_int max_two min_two max_three min_three max_four min_four
set_option linter.unusedVariables false
set_option linter.unusedSimpArgs false
def wire_flag.f (a0:Bool):Option (Int):=if a0=true then(some 1)else (some 0)
theorem wire_flag.calls (a0:Bool)(r:Int)(w:World)(h:wire_flag.f a0=some r):
  Calls Tryz.prog 83 #[.bool a0] w fun e w'=>e= .returned (.int .i64 r)∧Drawn0 w w':=by
 have H:(if a0=true then(some 1)else (some 0))=some r:=h
 clear h
 by_cases c2:a0=true
 ·subst c2
  have H1:(some 1)=some r:=by rw[if_pos rfl] at H;exact H
  clear H
  have H:=H1
  clear H1
  obtain rfl:=Option.some.inj H
  go_enter Tryz.func83,Tryz.ntmps83
  go_wp2
  go_ret
  exact⟨by first|rfl|(simp;done)|(simp[*];done),by repeat (first|exact Drawn0.refl _|apply Drawn0.step)⟩
 ·replace c2:=Bool.eq_false_iff.mpr c2
  subst c2
  have H1:(some 0)=some r:=by rw[if_neg (show¬(false=true)by decide)] at H;exact H
  clear H
  have H:=H1
  clear H1
  obtain rfl:=Option.some.inj H
  go_enter Tryz.func83,Tryz.ntmps83
  go_wp2
  go_ret
  exact⟨by first|rfl|(simp;done)|(simp[*];done),by repeat (first|exact Drawn0.refl _|apply Drawn0.step)⟩
def table_Right.l0:Nat→List (S123)→Int→Option (Bool)
 |0,_,_=>none
 |k+1,x0,x3=>if x3<(x0.length:Int)then (if 0≤(wrap64 (x3 - 1))then (if(wrap64 (x3 - 1))<(x0.length:Int)then (if 0≤x3 then(if((Op.bytesLess (((rd_T123 x0 (wrap64 (x3 - 1))).f0).toList) (((rd_T123 x0 x3).f0).toList))=true)then (table_Right.l0 k x0 (wrap64 (x3+1)))else (some false))else (none))else (none))else (none))else (some true)
def table_Right.f (k:Nat)(l0:List (S123)):Option (Bool):=table_Right.l0 k l0 1
theorem table_Right.calls (k:Nat)(A0:Option Addr)(c0:Nat)(l0:List (S123))(r:Bool)(w:World)(hr0:Kd.C k123 w A0 l0.length l0)(hc0:l0.length≤c0)(h:table_Right.f k l0=some r):
  Calls Tryz.prog 138 #[.slice A0 l0.length c0] w fun e w'=>e= .returned (.bool r)∧Drawn0 w w':=by
 have HR0:=Aside0.mk hr0
 have HC0:=Aside0.mk hc0
 clear hr0 hc0
 have H:(table_Right.l0 k l0 1)=some r:=h
 clear h
 have H':=Aside0.mk H
 clear H
 go_enter Tryz.func138,Tryz.ntmps138
 go_wp2
 repeat (go_quiet (fail);try go_wp2)
 go_loopg [3] k (fun kq v3 w'=>∃(x3_1:Int),v3= .int .i64 x3_1∧Aside0 (table_Right.l0 kq l0 x3_1=some r)∧Aside0 (kq≤k)∧Drawn0 w w')
 case atStart=>exact⟨(1),(by first|rfl|(simp;done)|(simp[*];done)),H',⟨Nat.le_refl _⟩,by repeat (first|exact Drawn0.refl _|apply Drawn0.step)⟩
 case round=>
  clear H'
  try clear c1
  obtain⟨x3_1,rfl,HA,HK1,⟨m1,rfl⟩⟩:=hrel
  cases gk with
  |zero=>exact absurd HA.out (by simp[table_Right.l0])
  |succ k1=>
   have H:=HA.out
   clear HA
   simp only[table_Right.l0] at H
   by_cases c2:x3_1<(l0.length:Int)
   ·rw [if_pos c2] at H
    have c2b0:decide (x3_1<(l0.length:Int))=true:=decide_eq_true c2
    clear c2
    obtain⟨ji3,hji3⟩:∃j_:Int,(wrap64 (x3_1 - 1))=j_:=⟨_,rfl⟩
    replace H:(if 0≤(ji3)then (if(ji3)<(l0.length:Int)then (if 0≤x3_1 then(if((Op.bytesLess (((rd_T123 l0 (ji3)).f0).toList) (((rd_T123 l0 x3_1).f0).toList))=true)then (table_Right.l0 k1 l0 (wrap64 (x3_1+1)))else (some false))else (none))else (none))else (none))=some r:=by first|(rw[hji3] at H;exact H)|(simp only[hji3] at H⊢;exact H)
    have hji3w:(IntKind.i64.wrap (x3_1 - 1))=ji3:=(i64_w _).trans hji3
    by_cases c4:0≤(ji3)
    ·rw [if_pos c4] at H
     have c4b0:decide (0≤(ji3))=true:=decide_eq_true c4
     clear c4
     by_cases c5:(ji3)<(l0.length:Int)
     ·rw [if_pos c5] at H
      have c5b0:decide ((ji3)<(l0.length:Int))=true:=decide_eq_true c5
      clear c5
      by_cases c6:0≤x3_1
      ·rw [if_pos c6] at H
       have c6b0:decide (0≤x3_1)=true:=decide_eq_true c6
       clear c6
       by_cases c7:((Op.bytesLess (((rd_T123 l0 (ji3)).f0).toList) (((rd_T123 l0 x3_1).f0).toList))=true)
       ·rw [if_pos c7] at H
        have c7b0:(Op.bytesLess (((rd_T123 l0 (ji3)).f0).toList) (((rd_T123 l0 x3_1).f0).toList))=true:=c7
        clear c7
        have H':=Aside0.mk H
        clear H
        have p101:0≤((ji3):Int):=of_decide_eq_true (by first|(with_reducible assumption)|assumption)
        have q101:(ji3)<(l0.length:Int):=of_decide_eq_true (by first|(with_reducible assumption)|assumption)
        obtain⟨ad101,e101,hx101_0,hx101_1⟩:=at_T123 HR0.out (ji3) p101 q101
        cases e101
        replace p101:=eq_true p101
        replace q101:=eq_true q101
        have p102:0≤(x3_1:Int):=of_decide_eq_true (by first|(with_reducible assumption)|assumption)
        have q102:x3_1<(l0.length:Int):=of_decide_eq_true (by first|(with_reducible assumption)|assumption)
        obtain⟨ad102,e102,hx102_0,hx102_1⟩:=at_T123 HR0.out x3_1 p102 q102
        obtain rfl:ad101=ad102:=(by injection e102)
        replace p102:=eq_true p102
        replace q102:=eq_true q102
        go_wp2
        repeat (go_quiet (fail);try go_wp2)
        go_roundg k1
        case measure=>have:=HK1.out;omega
        case rel=>exact⟨(wrap64 (x3_1+1)),(by first|rfl|(simp;done)|(simp[*];done)),H',⟨by have:=HK1.out;omega⟩,by repeat (first|exact Drawn0.refl _|apply Drawn0.step)⟩
       ·rw [if_neg c7] at H
        have c7b0:(Op.bytesLess (((rd_T123 l0 (ji3)).f0).toList) (((rd_T123 l0 x3_1).f0).toList))=false:=by simpa using c7
        clear c7
        obtain rfl:=Option.some.inj H
        have p101:0≤((ji3):Int):=of_decide_eq_true (by first|(with_reducible assumption)|assumption)
        have q101:(ji3)<(l0.length:Int):=of_decide_eq_true (by first|(with_reducible assumption)|assumption)
        obtain⟨ad101,e101,hx101_0,hx101_1⟩:=at_T123 HR0.out (ji3) p101 q101
        cases e101
        replace p101:=eq_true p101
        replace q101:=eq_true q101
        have p102:0≤(x3_1:Int):=of_decide_eq_true (by first|(with_reducible assumption)|assumption)
        have q102:x3_1<(l0.length:Int):=of_decide_eq_true (by first|(with_reducible assumption)|assumption)
        obtain⟨ad102,e102,hx102_0,hx102_1⟩:=at_T123 HR0.out x3_1 p102 q102
        obtain rfl:ad101=ad102:=(by injection e102)
        replace p102:=eq_true p102
        replace q102:=eq_true q102
        go_wp2
        repeat (go_quiet (fail);try go_wp2)
        go_ret
        exact⟨by first|rfl|(simp;done)|(simp only[←hji3] <;> (first|rfl|simp))|(simp[*];done),by repeat (first|exact Drawn0.refl _|apply Drawn0.step)⟩
      ·rw [if_neg c6] at H
       exact absurd H (by simp)
     ·rw [if_neg c5] at H
      exact absurd H (by simp)
    ·rw [if_neg c4] at H
     exact absurd H (by simp)
   ·rw [if_neg c2] at H
    have c2b0:decide (x3_1<(l0.length:Int))=false:=decide_eq_false c2
    clear c2
    obtain rfl:=Option.some.inj H
    go_wp2
    repeat (go_quiet (fail);try go_wp2)
    go_ret
    exact⟨by first|rfl|(simp;done)|(simp[*];done),by repeat (first|exact Drawn0.refl _|apply Drawn0.step)⟩
def wire_num.f (a0:Int):Option (Bool):=if a0≥0 then(some (decide (a0≤1073741824)))else (some false)
theorem wire_num.calls (a0:Int)(r:Bool)(w:World)(h:wire_num.f a0=some r):
  Calls Tryz.prog 115 #[.int .i64 a0] w fun e w'=>e= .returned (.bool r)∧Drawn0 w w':=by
 have H:(if a0≥0 then(some (decide (a0≤1073741824)))else (some false))=some r:=h
 clear h
 by_cases c2:a0≥0
 ·rw [if_pos c2] at H
  have c2b0:decide (0≤a0)=true:=decide_eq_true c2
  clear c2
  obtain rfl:=Option.some.inj H
  go_enter Tryz.func115,Tryz.ntmps115
  go_wp2
  go_ret
  exact⟨by first|rfl|(simp;done)|(simp[*];done),by repeat (first|exact Drawn0.refl _|apply Drawn0.step)⟩
 ·rw [if_neg c2] at H
  have c2b0:decide (0≤a0)=false:=decide_eq_false c2
  clear c2
  obtain rfl:=Option.some.inj H
  go_enter Tryz.func115,Tryz.ntmps115
  go_wp2
  go_ret
  exact⟨by first|rfl|(simp;done)|(simp[*];done),by repeat (first|exact Drawn0.refl _|apply Drawn0.step)⟩
end Go.Proofs.YtmgmdiekpmffbaaGreatDoor.QWi
namespace Go.Proofs.YtmgmdiekpmffbaaGreatDoor.QWi
open Go Go.RowKit Go.Proofs.YtmgmdiekpmffbaaGreatDoorW.PrintWords Go.Proofs.YtmgmdiekpmffbaaGreatDoorW.PrintLast Go.Proofs.YtmgmdiekpmffbaaGreatDoorW.PrintMore
def longP (x:S123):Bool:=decide (32<x.f0.size)||decide (64<x.f1.size)
theorem rd_pair (l:List S123)(i:Nat)(hi:i<l.length):rd_T123 l (i:Int)=l[i]:=by
 unfold rd_T123
 simp[List.getElem?_eq_getElem hi]
theorem long_yes (x:S123)(w:World)(h:longP x=true):Calls Tryz.prog 137 #[.agg #[.string x.f0,.string x.f1]] w fun e w'=>e= .returned (.bool true)∧Below w.heap.size w w':=by
 unfold longP at h
 obtain⟨a,b⟩:=x
 simp only at h⊢
 by_cases h1:(32:Int)<a.size
 ·clear h
  go_enter Tryz.func137,Tryz.ntmps137
  go_wp2
  go_ret
  exact⟨rfl,(Below.refl _ _).alloc (Nat.le_refl _) _⟩
 ·have h2:(64:Int)<b.size:=by simp at h;omega
  clear h
  go_enter Tryz.func137,Tryz.ntmps137
  go_wp2
  go_ret
  exact⟨rfl,(Below.refl _ _).alloc (Nat.le_refl _) _⟩
theorem long_no (x:S123)(w:World)(h:longP x=false):Calls Tryz.prog 137 #[.agg #[.string x.f0,.string x.f1]] w fun e w'=>e= .returned (.bool false)∧Below w.heap.size w w':=by
 unfold longP at h
 obtain⟨a,b⟩:=x
 simp only at h⊢
 have h1:¬(32:Int)<a.size:=by simp at h;omega
 have h2:¬(64:Int)<b.size:=by simp at h;omega
 clear h
 go_enter Tryz.func137,Tryz.ntmps137
 go_wp2
 go_ret
 exact⟨rfl,(Below.refl _ _).alloc (Nat.le_refl _) _⟩
def Found (l:List S123)(w:World)(e:Ending)(w':World):Prop:=∃z:Int,e= .returned (.int .i64 z)∧ -1≤z∧z≤4611686018427387904∧decide (0≤z)=l.any longP∧Below w.heap.size w w'
theorem index_calls (A0:Option Addr)(c0:Nat)(l0:List S123)(w:World)(hr0:Kd.C k123 w A0 l0.length l0)(hc0:l0.length≤c0)(hl:l0.length≤1048576):
  Calls Tryz.prog 162 #[.slice A0 l0.length c0,.func (.func 137) #[] #[]] w (Found l0 w):=by
 have HF:Hid (∀(z:Int) (w':World),-1≤z→z≤4611686018427387904→decide (0≤z)=l0.any longP→Below w.heap.size w w'→Found l0 w (.returned (.int .i64 z)) w'):=Lib.hid fun z w' h1 h2 h3 h4=>⟨z,rfl,h1,h2,h3,h4⟩
 have HR:=Lib.hid hr0
 have HC:=Lib.hid hc0
 have HL:=Lib.hid hl
 have b0':Aside0 (Below w.heap.size w w):=⟨Below.refl _ _⟩
 clear hr0 hc0 hl
 go_enter Tryz.func162,Tryz.ntmps162
 go_wp2
 go_loopg [8] l0.length (fun kq v8 w'=>∃i:Nat,v8= .int .i64 i∧Aside0 (kq+i=l0.length)∧Aside0 (∀j (h:j<l0.length),j<i→longP l0[j]=false)∧Aside0 (Below w.heap.size w w'))
 case atStart=>exact⟨0,rfl,⟨by omega⟩,⟨fun j _ h=>absurd h (Nat.not_lt_zero j)⟩,b0'⟩
 case round=>
  obtain⟨i,rfl,HK,HN,HW⟩:=hrel
  clear b0'
  by_cases hi:i<l0.length
  ·have c0b:decide ((i:Int)<(l0.length:Int))=true:=decide_eq_true (by omega)
   obtain⟨ad,e1,hx0,hx1⟩:=at_T123 (Kd.C_below HR.out HW.out) (i:Int) (by omega) (by omega)
   cases e1
   rw[rd_pair l0 i hi,Int.toNat_natCast] at hx0 hx1
   have hp:((0:Int)≤(i:Int))=True:=eq_true (by omega)
   have hq:((i:Int)<(l0.length:Int))=True:=eq_true (by omega)
   have hi40:(i:Int)≤1048576:=by have:=HL.out;omega
   by_cases hlg:longP l0[i]=true
   ·have HY:=Lib.hid fun w=>long_yes l0[i] w hlg
    have HZ:=Lib.hid (show decide ((0:Int)≤(i:Int))=l0.any longP by rw[decide_eq_true (by omega)];exact(List.any_eq_true.2 ⟨_,List.getElem_mem hi,hlg⟩).symm)
    clear hlg
    generalize l0[i]=x at hx0 hx1 HY
    go_wp2_with (go_at_call 137;refine(HY.out _).mono ?_)
    rintro e w3 ⟨rfl,b3⟩
    have HB3:=Lib.hid b3
    clear b3
    go_wp2
    go_ret
    exact HF.out _ _ (by omega) (by omega) HZ.out (HW.out.trans (HB3.out.mono HW.out.size))
   ·have hlg:=Bool.eq_false_iff.mpr hlg
    have HY:=Lib.hid fun w=>long_no l0[i] w hlg
    have HN':Aside0 (∀j (h:j<l0.length),j<i+1→longP l0[j]=false):=⟨fun j h hj=>by
     by_cases e:j=i
     ·subst e
      exact hlg
     ·exact HN.out j h (by omega)⟩
    clear hlg
    generalize l0[i]=x at hx0 hx1 HY
    go_wp2_with (go_at_call 137;refine(HY.out _).mono ?_)
    rintro e w3 ⟨rfl,b3⟩
    have b3':Aside0 (Below w.heap.size w w3):=⟨HW.out.trans (b3.mono HW.out.size)⟩
    clear b3
    go_wp2
    go_roundg (gk - 1)
    case measure=>have:=HK.out;omega
    case rel=>exact⟨i+1,by go_num,⟨by have:=HK.out;omega⟩,HN',b3'⟩
  ·have c0b:decide ((i:Int)<(l0.length:Int))=false:=decide_eq_false (by omega)
   have e:i=l0.length:=by have:=HK.out;omega
   have HZ:=Lib.hid (show decide ((0:Int)≤ -1)=l0.any longP by
    have h:l0.any longP=false:=by
     rw[List.any_eq_false]
     intro x hx
     obtain⟨j,hj,rfl⟩:=List.getElem_of_mem hx
     rw[HN.out j hj (by omega)]
     decide
    rw[h]
    rfl)
   clear e
   go_wp2
   go_ret
   exact HF.out _ _ (by omega) (by omega) HZ.out HW.out
theorem contains_yes (A0:Option Addr)(c0:Nat)(l0:List S123)(w:World)(hr0:Kd.C k123 w A0 l0.length l0)(hc0:l0.length≤c0)(hl:l0.length≤1048576)(hm:l0.any longP=true):
  Calls Tryz.prog 139 #[.slice A0 l0.length c0,.func (.func 137) #[] #[]] w fun e w'=>e= .returned (.bool true)∧Below w.heap.size w w':=by
 have HI:=Lib.hid (index_calls A0 c0 l0 w hr0 hc0 hl)
 have HM:=Lib.hid hm
 clear hr0 hc0 hl hm
 go_enter Tryz.func139,Tryz.ntmps139
 go_wp2_with fail
 refine HI.out.mono ?_
 rintro e w1 ⟨z,rfl,h1,h2,h3,h4⟩
 have HB:=Lib.hid h4
 have hz:(0:Int)≤z:=by
  rw[HM.out] at h3
  simpa using h3
 clear h3 h4
 go_wp2
 go_ret
 exact⟨rfl,HB.out⟩
theorem contains_no (A0:Option Addr)(c0:Nat)(l0:List S123)(w:World)(hr0:Kd.C k123 w A0 l0.length l0)(hc0:l0.length≤c0)(hl:l0.length≤1048576)(hm:l0.any longP=false):
  Calls Tryz.prog 139 #[.slice A0 l0.length c0,.func (.func 137) #[] #[]] w fun e w'=>e= .returned (.bool false)∧Below w.heap.size w w':=by
 have HI:=Lib.hid (index_calls A0 c0 l0 w hr0 hc0 hl)
 have HM:=Lib.hid hm
 clear hr0 hc0 hl hm
 go_enter Tryz.func139,Tryz.ntmps139
 go_wp2_with fail
 refine HI.out.mono ?_
 rintro e w1 ⟨z,rfl,h1,h2,h3,h4⟩
 have HB:=Lib.hid h4
 have hz:z<(0:Int):=by
  rw[HM.out] at h3
  simpa using h3
 have hzb:decide ((0:Int)≤z)=false:=decide_eq_false (by omega)
 clear h3 h4
 go_wp2
 go_ret
 exact⟨rfl,HB.out⟩
def numB (x:Int):Bool:=decide (0≤x)&&decide (x≤1073741824)
theorem num_f (x:Int):wire_num.f x=some (numB x):=by
 unfold wire_num.f numB
 by_cases h:x≥0
 ·rw [if_pos h,decide_eq_true (show 0≤x from h),Bool.true_and]
 ·rw [if_neg h,decide_eq_false (show¬0≤x from h),Bool.false_and]
theorem num_is (x:Int)(b:Bool)(h:numB x=b)(w:World):Calls Tryz.prog 115 #[.int .i64 x] w fun e w'=>e= .returned (.bool b)∧Below w.heap.size w w':=by
 refine(wire_num.calls x b w (by rw[num_f,h])).mono ?_
 rintro e w' ⟨rfl,nd,rfl⟩
 exact⟨rfl,⟨rfl,rfl,rfl,Nat.le_refl _,fun _ _=>rfl⟩⟩
theorem right_is (A0:Option Addr)(c0:Nat)(l0:List S123)(k:Nat)(b:Bool)(h:table_Right.f k l0=some b)(w:World)(hr0:Kd.C k123 w A0 l0.length l0)(hc0:l0.length≤c0):
  Calls Tryz.prog 138 #[.slice A0 l0.length c0] w fun e w'=>e= .returned (.bool b)∧Below w.heap.size w w':=by
 refine(table_Right.calls k A0 c0 l0 b w hr0 hc0 h).mono ?_
 rintro e w' ⟨rfl,nd,rfl⟩
 exact⟨rfl,⟨rfl,rfl,rfl,Nat.le_refl _,fun _ _=>rfl⟩⟩
theorem contains_is (A0:Option Addr)(c0:Nat)(l0:List S123)(b:Bool)(w:World)(hr0:Kd.C k123 w A0 l0.length l0)(hc0:l0.length≤c0)(hl:l0.length≤1048576)(hm:l0.any longP=b):
  Calls Tryz.prog 139 #[.slice A0 l0.length c0,.func (.func 137) #[] #[]] w fun e w'=>e= .returned (.bool b)∧Below w.heap.size w w':=by
 cases b with
 |true=>exact contains_yes A0 c0 l0 w hr0 hc0 hl hm
 |false=>exact contains_no A0 c0 l0 w hr0 hc0 hl hm
theorem cell_in {w:World}{b:Nat}{cs:Array Value}{T:TypeId}{fr:Nat×Nat}(hb:w.heap[b]? =some (.cells cs T fr))(j:Nat)(v:Value)(h:cs[j]? =some v):w.cell? ⟨b,j,none⟩=some v:=by
 rw[←h]
 simp[World.cell?,hb]
theorem may_9 (a0 a1 a2 a3:Int)(a4:ByteArray)(a5:Bool)(A6:Option Addr)(c6:Nat)(l6:List S123)(a7:Bool)(w:World)(hr:Kd.C k123 w A6 l6.length l6)(hc:l6.length≤c6)(q0:numB a0=true)(q1:numB a1=true)(q2:numB a2=true)(q3:(0:Int)≤a3)(q4:a3≤(16:Int))(q5:(a4.size:Int)≤64)(q6:(l6.length:Int)≤16)(q7:table_Right.f 20 l6=some true)(q8:l6.any longP=false):
  Calls Tryz.prog 80 #[.agg #[.int .i64 a0,.int .i64 a1,.int .i64 a2,.int .i64 a3,.string a4,.bool a5,.slice A6 l6.length c6,.bool a7]] w fun e w'=>e= .returned (.bool true)∧Below w.heap.size w w':=by
 have HR:=Lib.hid hr
 have HC:=Lib.hid hc
 have HB:=Lib.hid ((Below.refl w.heap.size w).alloc (Nat.le_refl _) (.cells #[.int .i64 a0,.int .i64 a1,.int .i64 a2,.int .i64 a3,.string a4,.bool a5,.slice A6 l6.length c6,.bool a7] 65))
 clear hr hc
 have N0:=Lib.hid (num_is a0 _ q0)
 have N1:=Lib.hid (num_is a1 _ q1)
 have N2:=Lib.hid (num_is a2 _ q2)
 have NR:=Lib.hid (right_is A6 c6 l6 20 _ q7)
 have NL:Hid (l6.length≤16):=Lib.hid (by omega)
 have NA:=Lib.hid q8
 clear q0 q1 q2 q7 q8
 go_enter Tryz.func80,Tryz.ntmps80
 have HK:Hid ((w.alloc (.cells #[.int .i64 a0,.int .i64 a1,.int .i64 a2,.int .i64 a3,.string a4,.bool a5,.slice A6 l6.length c6,.bool a7] 65)).heap[w.heap.size]? =some (.cells #[.int .i64 a0,.int .i64 a1,.int .i64 a2,.int .i64 a3,.string a4,.bool a5,.slice A6 l6.length c6,.bool a7] 65 (0,0))):=Lib.hid (World.alloc_heap_new w _)
 go_wp2_with fail
 refine(N0.out _).mono ?_
 rintro e v0 ⟨rfl,b0⟩
 have K0:=Lib.hid ((b0.block w.heap.size (Array.getElem?_eq_some_iff.1 HK.out).1).trans HK.out)
 have B0:=Lib.hid (HB.out.trans (b0.mono HB.out.size))
 have d0_0:=cell_in K0.out 0 _ rfl
 have d0_1:=cell_in K0.out 1 _ rfl
 have d0_2:=cell_in K0.out 2 _ rfl
 have d0_3:=cell_in K0.out 3 _ rfl
 have d0_4:=cell_in K0.out 4 _ rfl
 have d0_5:=cell_in K0.out 5 _ rfl
 have d0_6:=cell_in K0.out 6 _ rfl
 have d0_7:=cell_in K0.out 7 _ rfl
 clear b0
 go_wp2_with fail
 refine(N1.out _).mono ?_
 rintro e v1 ⟨rfl,b1⟩
 have K1:=Lib.hid ((b1.block w.heap.size (Array.getElem?_eq_some_iff.1 K0.out).1).trans K0.out)
 have B1:=Lib.hid (B0.out.trans (b1.mono B0.out.size))
 have d1_0:=cell_in K1.out 0 _ rfl
 have d1_1:=cell_in K1.out 1 _ rfl
 have d1_2:=cell_in K1.out 2 _ rfl
 have d1_3:=cell_in K1.out 3 _ rfl
 have d1_4:=cell_in K1.out 4 _ rfl
 have d1_5:=cell_in K1.out 5 _ rfl
 have d1_6:=cell_in K1.out 6 _ rfl
 have d1_7:=cell_in K1.out 7 _ rfl
 clear b1 d0_0 d0_1 d0_2 d0_3 d0_4 d0_5 d0_6 d0_7
 go_wp2_with fail
 refine(N2.out _).mono ?_
 rintro e v2 ⟨rfl,b2⟩
 have K2:=Lib.hid ((b2.block w.heap.size (Array.getElem?_eq_some_iff.1 K1.out).1).trans K1.out)
 have B2:=Lib.hid (B1.out.trans (b2.mono B1.out.size))
 have d2_0:=cell_in K2.out 0 _ rfl
 have d2_1:=cell_in K2.out 1 _ rfl
 have d2_2:=cell_in K2.out 2 _ rfl
 have d2_3:=cell_in K2.out 3 _ rfl
 have d2_4:=cell_in K2.out 4 _ rfl
 have d2_5:=cell_in K2.out 5 _ rfl
 have d2_6:=cell_in K2.out 6 _ rfl
 have d2_7:=cell_in K2.out 7 _ rfl
 clear b2 d1_0 d1_1 d1_2 d1_3 d1_4 d1_5 d1_6 d1_7
 go_wp2_with fail
 refine(NR.out _ (Kd.C_below HR.out B2.out) HC.out).mono ?_
 rintro e v3 ⟨rfl,b3⟩
 have K3:=Lib.hid ((b3.block w.heap.size (Array.getElem?_eq_some_iff.1 K2.out).1).trans K2.out)
 have B3:=Lib.hid (B2.out.trans (b3.mono B2.out.size))
 have d3_0:=cell_in K3.out 0 _ rfl
 have d3_1:=cell_in K3.out 1 _ rfl
 have d3_2:=cell_in K3.out 2 _ rfl
 have d3_3:=cell_in K3.out 3 _ rfl
 have d3_4:=cell_in K3.out 4 _ rfl
 have d3_5:=cell_in K3.out 5 _ rfl
 have d3_6:=cell_in K3.out 6 _ rfl
 have d3_7:=cell_in K3.out 7 _ rfl
 clear b3 d2_0 d2_1 d2_2 d2_3 d2_4 d2_5 d2_6 d2_7
 go_wp2_with fail
 refine(contains_is A6 c6 l6 _ _ (Kd.C_below HR.out B3.out) HC.out (by have:=NL.out;omega) NA.out).mono ?_
 rintro e v4 ⟨rfl,b4⟩
 have K4:=Lib.hid ((b4.block w.heap.size (Array.getElem?_eq_some_iff.1 K3.out).1).trans K3.out)
 have B4:=Lib.hid (B3.out.trans (b4.mono B3.out.size))
 have d4_0:=cell_in K4.out 0 _ rfl
 have d4_1:=cell_in K4.out 1 _ rfl
 have d4_2:=cell_in K4.out 2 _ rfl
 have d4_3:=cell_in K4.out 3 _ rfl
 have d4_4:=cell_in K4.out 4 _ rfl
 have d4_5:=cell_in K4.out 5 _ rfl
 have d4_6:=cell_in K4.out 6 _ rfl
 have d4_7:=cell_in K4.out 7 _ rfl
 clear b4 d3_0 d3_1 d3_2 d3_3 d3_4 d3_5 d3_6 d3_7
 go_wp2
 go_ret
 exact⟨rfl,B4.out⟩
def wire_mayReply.f (a0 a1 a2 a3:Int)(a4:ByteArray)(_a5:Bool)(l6:List S123)(_a7:Bool):Option (Bool):=
 if numB a0=false then some false else if numB a1=false then some false else if numB a2=false then some false else if a3<0 then some false else if 16<a3 then some false else if 64<(a4.size:Int)then some false
 else if 16<(l6.length:Int)then some false else if table_Right.f 20 l6=some false then some false else if table_Right.f 20 l6=some true then(if l6.any longP=true then some false else some true)else none
theorem mayReply_is {a0 a1 a2 a3:Int}{a4:ByteArray}{a5:Bool}{l6:List S123}{a7:Bool}(h:wire_mayReply.f a0 a1 a2 a3 a4 a5 l6 a7=some true):numB a0=true∧numB a1=true∧numB a2=true∧0≤a3∧a3≤16∧(a4.size:Int)≤64∧(l6.length:Int)≤16∧table_Right.f 20 l6=some true∧l6.any longP=false:=by
 unfold wire_mayReply.f at h
 grind (splits:=30)
theorem wire_mayReply.good (a0 a1 a2 a3:Int)(a4:ByteArray)(a5:Bool)(A6:Option Addr)(c6:Nat)(l6:List S123)(a7:Bool)(w:World)(hr:Kd.C k123 w A6 l6.length l6)(hc:l6.length≤c6)(h:wire_mayReply.f a0 a1 a2 a3 a4 a5 l6 a7=some true):
  Calls Tryz.prog 80 #[.agg #[.int .i64 a0,.int .i64 a1,.int .i64 a2,.int .i64 a3,.string a4,.bool a5,.slice A6 l6.length c6,.bool a7]] w fun e w'=>e= .returned (.bool true)∧Below w.heap.size w w':=by
 obtain⟨c0,c1,c2,c3,c4,c5,c6',c8,c9⟩:=mayReply_is h
 exact may_9 a0 a1 a2 a3 a4 a5 A6 c6 l6 a7 w hr hc c0 c1 c2 c3 c4 c5 c6' c8 c9
end Go.Proofs.YtmgmdiekpmffbaaGreatDoor.QWi
namespace Go.Proofs.YtmgmdiekpmffbaaGreatDoor.QWi
open Go.RowKit Go.Proofs.YtmgmdiekpmffbaaGreatDoorW.PrintWords Go.Proofs.YtmgmdiekpmffbaaGreatDoorW.PrintLast Go.Proofs.YtmgmdiekpmffbaaGreatDoorW.PrintMore
attribute [local go_sem] max2_int min2_int max_two min_two max_three min_three max_four min_four
set_option linter.unusedVariables false
set_option linter.unusedSimpArgs false
theorem eqA59 (d:Nat)(w:World)(x0 y0:Int)(x1 y1:ByteArray)(x2 y2:ByteArray)(x3 y3:ByteArray)(x4 y4:ByteArray)(x5 y5:Int):
  (Op.equalIn (d+2) 59 (.agg #[.int .i64 x0,.string x1,.string x2,.string x3,.string x4,.int .i64 x5]) (.agg #[.int .i64 y0,.string y1,.string y2,.string y3,.string y4,.int .i64 y5])).run Tryz.prog w= .ok (x0==y0&&(x1.toList==y1.toList&&(x2.toList==y2.toList&&(x3.toList==y3.toList&&(x4.toList==y4.toList&&(x5==y5)))))) w:=by
 refine eqA_of Tryz.underlying59 (by kernel_rfl) ?_
 refine eqf_cons (by rfl) (by go_simp;rfl) (by go_simp;rfl) (by go_simp) ?_
 refine eqf_cons (by rfl) (by go_simp;rfl) (by go_simp;rfl) (by go_simp) ?_
 refine eqf_cons (by rfl) (by go_simp;rfl) (by go_simp;rfl) (by go_simp) ?_
 refine eqf_cons (by rfl) (by go_simp;rfl) (by go_simp;rfl) (by go_simp) ?_
 refine eqf_cons (by rfl) (by go_simp;rfl) (by go_simp;rfl) (by go_simp) ?_
 exact eqf_last (by rfl) (by go_simp;rfl) (by go_simp;rfl) (by go_simp)
end Go.Proofs.YtmgmdiekpmffbaaGreatDoor.QWi
namespace Go.Proofs.YtmgmdiekpmffbaaGreatDoor.QWi
open Go.RowKit Go.Proofs.YtmgmdiekpmffbaaGreatDoorW.PrintWords Go.Proofs.YtmgmdiekpmffbaaGreatDoorW.PrintLast Go.Proofs.YtmgmdiekpmffbaaGreatDoorW.PrintMore
attribute [local go_sem] max2_int min2_int max_two min_two max_three min_three max_four min_four
set_option linter.unusedVariables false
set_option linter.unusedSimpArgs false
open Go
theorem q_one (w:World)(a:Obj):Below w.heap.size w (w.alloc a):=(Below.refl _ _).alloc (Nat.le_refl _) _
theorem q_two (w:World)(a b:Obj):Below w.heap.size w ((w.alloc a).alloc b):=((Below.refl _ _).alloc (Nat.le_refl _) _).alloc (by simp) _
def mayQ (a0 a1 a2 a3:Int)(t:ByteArray)(o:Int)(y v l h:ByteArray)(m:Int):Prop:=
 (1≤a0∧a0≤6)∧(0≤a1∧a1≤1073741824)∧(0≤a2∧a2≤1073741824)∧(0≤a3∧a3≤1073741824)∧t.size≤16∧
 ((a0=5∧t.size=0∧(1≤o∧o≤6)∧y.size≤32∧v.size≤64∧l.size≤32∧h.size≤32∧(0≤m∧m≤1073741824))∨
  (¬a0=5∧o=0∧y.size=0∧v.size=0∧l.size=0∧h.size=0∧m=0∧(t.size=0∨a0=4∨a0=6)))
instance (a0 a1 a2 a3:Int)(t:ByteArray)(o:Int)(y v l h:ByteArray)(m:Int):Decidable (mayQ a0 a1 a2 a3 t o y v l h m):=by
 unfold mayQ
 infer_instance
theorem q_nil (s:ByteArray):(s.toList= [])↔s.size=0:=by
 rw[←List.length_eq_zero_iff,Lib.toList_data,Array.length_toList]
 rfl
theorem wnum_calls (x:Int)(w:World):Calls Tryz.prog 115 #[.int .i64 x] w fun e w'=>e= .returned (.bool (decide (0≤x∧x≤1073741824)))∧w'=w:=by
 by_cases h0:0≤x <;> by_cases h1:x≤1073741824 <;> simp only[h0,h1,and_self,and_true,and_false,decide_true,decide_false]
 all_goals
  go_enter Tryz.func115,Tryz.ntmps115
  go_wp2
  go_ret
  exact⟨rfl,rfl⟩
theorem wire_mayReq (a0 a1 a2 a3:Int)(t:ByteArray)(o:Int)(y v l h:ByteArray)(m:Int)(w:World):Calls Tryz.prog 65 #[.agg #[.int .i64 a0,.int .i64 a1,.int .i64 a2,.int .i64 a3,.string t,.int .i64 o,.string y,.string v,.string l,.string h,.int .i64 m]] w fun e w'=>e= .returned (.bool (decide (mayQ a0 a1 a2 a3 t o y v l h m)))∧Below w.heap.size w w':=by
 go_enter Tryz.func65,Tryz.ntmps65
 go_wp2_with (go_at_call 115;refine(wnum_calls _ _).mono ?_;rintro e w1 ⟨rfl,rfl⟩)
 all_goals
  go_ret
  refine⟨?_,by first|exact q_one _ _|exact q_two _ _ _⟩
  show Ending.returned (Value.bool _)=_
  congr 2
  rw[Bool.eq_iff_iff,decide_eq_true_eq (p:=mayQ _ _ _ _ _ _ _ _ _ _ _)]
  unfold mayQ
  try simp only[q_nil,bne_iff_ne,bne_eq_false_iff_eq,beq_eq_false_iff_ne,beq_iff_eq,ne_eq] at *
  try simp only[decide_eq_true_eq,Bool.or_eq_true,Bool.and_eq_true,Bool.not_eq_true',decide_eq_false_iff_not,Bool.false_eq_true,Bool.true_eq_false,beq_iff_eq,List.isEmpty_iff,q_nil,false_iff,true_iff]
  omega
def wire_MayReq.f (_:Nat)(a0_0:Int)(a0_1:Int)(a0_2:Int)(a0_3:Int)(a0_4:ByteArray)(a0_5:Int)(a0_6:ByteArray)(a0_7:ByteArray)(a0_8:ByteArray)(a0_9:ByteArray)(a0_10:Int):Option Bool:=some (decide (mayQ a0_0 a0_1 a0_2 a0_3 a0_4 a0_5 a0_6 a0_7 a0_8 a0_9 a0_10))
theorem wire_MayReq.calls (k:Nat)(a0_0:Int)(a0_1:Int)(a0_2:Int)(a0_3:Int)(a0_4:ByteArray)(a0_5:Int)(a0_6:ByteArray)(a0_7:ByteArray)(a0_8:ByteArray)(a0_9:ByteArray)(a0_10:Int)(r:Bool)(w:World)(h:wire_MayReq.f k a0_0 a0_1 a0_2 a0_3 a0_4 a0_5 a0_6 a0_7 a0_8 a0_9 a0_10=some r):
  Calls Tryz.prog 65 #[.agg #[.int .i64 a0_0,.int .i64 a0_1,.int .i64 a0_2,.int .i64 a0_3,.string a0_4,.int .i64 a0_5,.string a0_6,.string a0_7,.string a0_8,.string a0_9,.int .i64 a0_10]] w fun e w'=>e= .returned (.bool r)∧Below w.heap.size w w':=by
 obtain rfl:=Option.some.inj h
 exact wire_mayReq a0_0 a0_1 a0_2 a0_3 a0_4 a0_5 a0_6 a0_7 a0_8 a0_9 a0_10 w
def span_Key.f (a0:Int)(a1:ByteArray):Option (Int×ByteArray×ByteArray):=if a1.size+1≤9223372036854775807 then(some (a0,a1,a1++(⟨#[0]⟩:ByteArray)))else (none)
theorem span_Key.calls (a0:Int)(a1:ByteArray)(r1:Int)(r2:ByteArray)(r3:ByteArray)(w:World)(h:span_Key.f a0 a1=some (r1,r2,r3)):
  Calls Tryz.prog 220 #[.int .i64 a0,.string a1] w fun e w'=>e= .returned (.agg #[.int .i64 r1,.string r2,.string r3])∧Below w.heap.size w w':=by
 have hu312:=Tryz.underlying312
 have HB:=Aside0.mk (Below.refl w.heap.size w)
 have H:(if a1.size+1≤9223372036854775807 then(some (a0,a1,a1++(⟨#[0]⟩:ByteArray)))else (none))=some (r1,r2,r3):=h
 clear h
 by_cases c3:a1.size+1≤9223372036854775807
 ·rw [if_pos c3] at H
  have c3b0:=eq_true c3
  have c3b1:decide (a1.size+1≤9223372036854775807)=true:=decide_eq_true c3
  try have c3b2:(9223372036854775807<a1.size+1)=False:=eq_false (Nat.not_lt.2 c3)
  simp only[Option.some.injEq,Prod.mk.injEq] at H
  obtain⟨rfl,rfl,rfl⟩:=H
  go_enter Tryz.func220,Tryz.ntmps220
  go_wp2_with (first|((with_reducible refine gate_dst (N:=4) rfl ?_);refine box_event ?hg (N:=4) ?hd (cs:=#[.int .i64 0,.string (⟨#[]⟩:ByteArray),.string (⟨#[]⟩:ByteArray)]) (t:=312) ?hr ?_;(case hd=>rfl);(case hg=>rfl);(case hr=>first|(go_simp;done)|(go_simp;rfl));intro gb227 hg w4 hbox hb;have n0_:=Aside0.mk (below_step (by repeat (first|(with_reducible first|exact HB.out|apply below_alloc|apply pw_below_drewN|apply below_drew1)|exact HB.out)) hb);have n1_:=Aside0.mk (hbox);have n2_:=Aside0.mk ((by rw[hg];exact(below_size (by repeat (first|(with_reducible first|exact HB.out|apply below_alloc|apply pw_below_drewN|apply below_drew1)|exact HB.out))):w.heap.size≤gb227));have n3_:=Aside0.mk ((by rw[hg];exact(below_size (by repeat (first|(with_reducible first|exact HB.out|apply below_alloc|apply pw_below_drewN|apply below_drew1)|exact HB.out))):w.heap.size≤gb227));clear HB;have HB:=n0_;have BK227:=n1_;have GW227:=n2_;have GE227:=n3_;clear n0_ n1_ n2_ n3_;clear hb hbox hg;have hcz5_0:w4.cell? ⟨gb227,0,none⟩=some (.int .i64 0):=(blk_cell BK227.out 0).trans rfl;have hcz5_1:w4.cell? ⟨gb227,1,none⟩=some (.string (⟨#[]⟩:ByteArray)):=(blk_cell BK227.out 1).trans rfl;have hcz5_2:w4.cell? ⟨gb227,2,none⟩=some (.string (⟨#[]⟩:ByteArray)):=(blk_cell BK227.out 2).trans rfl;have hfz5_0:=blk_frozen BK227.out 0;have hfz5_1:=blk_frozen BK227.out 1;have hfz5_2:=blk_frozen BK227.out 2))
  refine bodyPost_ret (results_cell_row rfl _ _ gb227 312 #[.int .i64 a0,.string a1,.string (a1++(⟨#[0]⟩:ByteArray))] (0,0) _ rfl (by(with_reducible repeat (first|refine blk_drewN ?_ _|refine blk_drew ?_|refine blk_alloc ?_ _));refine blk_put (cs:=#[.int .i64 a0,.string a1,.string (⟨#[]⟩:ByteArray)]) ?_ 2 _ rfl;(with_reducible repeat (first|refine blk_drewN ?_ _|refine blk_drew ?_|refine blk_alloc ?_ _));refine blk_put (cs:=#[.int .i64 a0,.string (⟨#[]⟩:ByteArray),.string (⟨#[]⟩:ByteArray)]) ?_ 1 _ rfl;(with_reducible repeat (first|refine blk_drewN ?_ _|refine blk_drew ?_|refine blk_alloc ?_ _));refine blk_put (cs:=#[.int .i64 0,.string (⟨#[]⟩:ByteArray),.string (⟨#[]⟩:ByteArray)]) ?_ 0 _ rfl;(with_reducible repeat (first|refine blk_drewN ?_ _|refine blk_drew ?_|refine blk_alloc ?_ _));exact BK227.out) Tryz.underlying312 rfl (by kernel_rfl)) rfl ?_
  exact⟨by first|rfl|(simp[errW_none,errW_some] <;> rfl)|(simp[*,errW_none,errW_some] <;> rfl),by repeat (first|(with_reducible first|exact HB.out|apply below_alloc|apply pw_below_drewN|apply below_drew1|refine below_set ?_ GE227.out)|exact HB.out)⟩
 ·rw [if_neg c3] at H
  exact absurd H (by simp)
end Go.Proofs.YtmgmdiekpmffbaaGreatDoor.QWi
