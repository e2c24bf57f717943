/- Part of the proof of the statement TopAlone, as a card; what is proved, and on which condition, stands at the head of YtmgmdiekpmffbaaGreatDoorPT20 (texts TopRow, TopAt, TopIdx, TopClone) -/
import Derived.Test.YtmgmdiekpmffbaaGreatDoorProg
import Derived.Maps.AppendAt
import Derived.Lib.SliceRun
import Derived.Lib.Hide
import Derived.WalkKit
import Derived.WalkSpells
import Derived.Outline
import Derived.KernelRfl
import Derived.Deep.QuietTactic
import Derived.BigQuiet
import Derived.Deep.LoopGhost
import Derived.Test.YtmgmdiekpmffbaaGreatDoorPT0
set_option maxHeartbeats 64000000
set_option maxRecDepth 100000
set_option linter.unusedVariables false
set_option linter.unusedSimpArgs false
namespace Go.Proofs.YtmgmdiekpmffbaaGreatDoor.Top
open Go Go.RowKit Go.Proofs.YtmgmdiekpmffbaaGreatDoorW.PrintWords
structure Only (b:Nat)(w w':World):Prop where
 os:w'.os=w.os
 tape:w'.tape=w.tape
 output:w'.output=w.output
 size:w.heap.size≤w'.heap.size
 block:∀k,k<w.heap.size→k≠b→w'.heap[k]? =w.heap[k]?
theorem Only.refl (b:Nat)(w:World):Only b w w:=⟨rfl,rfl,rfl,Nat.le_refl _,fun _ _ _=>rfl⟩
theorem Only.trans {b:Nat}{w w1 w2:World}(h:Only b w w1)(k:Only b w1 w2):Only b w w2:=
 ⟨k.os.trans h.os,k.tape.trans h.tape,k.output.trans h.output,Nat.le_trans h.size k.size,fun i hi hb=>(k.block i (Nat.lt_of_lt_of_le hi h.size) hb).trans (h.block i hi hb)⟩
theorem Only.of_below {b:Nat}{w w':World}(h:Below w.heap.size w w'):Only b w w':=⟨h.os,h.tape,h.output,h.size,fun k hk _=>h.block k hk⟩
theorem Only.below {b B:Nat}{w w':World}(h:Only b w w')(hb:B≤b)(hB:B≤w.heap.size):Below B w w':=⟨h.os,h.tape,h.output,h.size,fun k hk=>h.block k (by omega) (by omega)⟩
theorem Only.set {b:Nat}{w w1:World}(h:Only b w w1)(o:Nat)(u:Value):Only b w (w1.setCell ⟨b,o,none⟩ u):=
 ⟨h.os,h.tape,h.output,by simp[World.setCell];exact h.size,fun k hk hb=>(Below.heap_setCell w1 ⟨b,o,none⟩ u k hb).trans (h.block k hk hb)⟩
theorem Only.alloc {b:Nat}{w w1:World}(h:Only b w w1)(o:Obj):Only b w (w1.alloc o):=
 ⟨h.os,h.tape,h.output,by have:=h.size;simp;omega,fun k hk hb=>(Below.heap_alloc w1 o k (Nat.lt_of_lt_of_le hk h.size)).trans (h.block k hk hb)⟩
theorem Only.drew {b:Nat}{w w1:World}(h:Only b w w1):Only b w w1.drew:=⟨h.os,h.tape,h.output,h.size,h.block⟩
theorem Only.then {b:Nat}{w w1 w2:World}(h:Only b w w1)(k:Below w1.heap.size w1 w2):Only b w w2:=h.trans (.of_below k)
theorem Only.fresh {b t:Nat}{w w1 w2:World}(h:Only b w w1)(k:Only t w1 w2)(ht:w.heap.size≤t):Only b w w2:=
 ⟨k.os.trans h.os,k.tape.trans h.tape,k.output.trans h.output,Nat.le_trans h.size k.size,fun i hi hb=>(k.block i (Nat.lt_of_lt_of_le hi h.size) (by omega)).trans (h.block i hi hb)⟩
theorem Below.later {B t:Nat}{w w1 w2:World}(h:Below B w w1)(k:Only t w1 w2)(ht:B≤t)(hB:B≤w1.heap.size):Below B w w2:=h.trans (k.below ht hB)
structure Ty (α:Type) where
 sz:Nat
 enc:α→List Value
 len:∀x,(enc x).length=sz
 one:∀x,∀u∈enc x,u.oneCell'=true
 pos:0<sz
namespace Ty
variable {α:Type} (T:Ty α)
def all (l:List α):List Value:=(l.map T.enc).flatten
theorem all_cons (x:α)(l:List α):T.all (x :: l)=T.enc x++T.all l:=by simp[all]
theorem all_app (l m:List α):T.all (l++m)=T.all l++T.all m:=by simp[all]
theorem all_single (x:α):T.all [x]=T.enc x:=by simp[all]
theorem all_len (l:List α):(T.all l).length=l.length*T.sz:=by
 induction l with
 |nil=>simp [all]
 |cons x l ih=>rw [all_cons,List.length_append,ih,T.len,List.length_cons,Nat.succ_mul,Nat.add_comm]
theorem all_at:∀(l:List α) (i j:Nat) (h:i<l.length),j<T.sz→(T.all l)[i*T.sz+j]? =(T.enc l[i])[j]?
 |x :: l,0,j,_,hj=>by
  rw[all_cons,Nat.zero_mul,Nat.zero_add,List.getElem?_append_left (by rw[T.len];exact hj)]
  rfl
 |x :: l,i+1,j,h,hj=>by
  have hl:i<l.length:=by simpa using h
  have ih:=all_at l i j hl hj
  rw[all_cons,List.getElem?_append_right (by rw[T.len,Nat.succ_mul];omega),T.len]
  rw[show(i+1)*T.sz+j - T.sz=i*T.sz+j by rw[Nat.succ_mul];omega,ih]
  rfl
theorem all_one (l:List α):∀u∈T.all l,u.oneCell'=true:=by
 intro u hu
 unfold all at hu
 rw[List.mem_flatten] at hu
 obtain⟨c,hc,hu⟩:=hu
 obtain⟨x,_,rfl⟩:=List.mem_map.1 hc
 exact T.one x u hu
end Ty
section
variable {α:Type} {T:Ty α} {e:TypeId} {w w':World} {v:Value} {l:List α} {base:Nat}
def Rs (T:Ty α)(e:TypeId)(w:World)(v:Value)(l:List α):Prop:=
 (l= []∧v= .slice none 0 0)∨∃(b c:Nat) (cur:Array Value) (fr:Nat×Nat),v= .slice (some ⟨b,0,none⟩) l.length c∧l.length≤c∧w.heap[b]? =some (.cells cur e fr)∧∀(j:Nat) (u:Value),(T.all l)[j]? =some u→cur[j]? =some u
theorem Rs.nil (T:Ty α)(e:TypeId)(w:World):Rs T e w (.slice none 0 0) []:= .inl ⟨rfl,rfl⟩
theorem Rs.keep (h:Rs T e w v l)(hk:∀(b:Nat) (cur:Array Value) (fr:Nat×Nat),w.heap[b]? =some (.cells cur e fr)→w'.heap[b]? =w.heap[b]?):Rs T e w' v l:=by
 rcases h with h|⟨b,c,cur,fr,rfl,h1,h2,h3⟩
 ·exact .inl h
 ·exact .inr ⟨b,c,cur,fr,rfl,h1,(hk b cur fr h2).trans h2,h3⟩
theorem Rs.below (h:Rs T e w v l)(hb:Below w.heap.size w w'):Rs T e w' v l:=h.keep fun b _ _ hx=>hb.block b (blk_lt hx)
theorem Rs.only (h:Rs T e w v l){g:Nat}{cs:Array Value}{t:TypeId}{fr:Nat×Nat}(ho:Only g w w')(hg:w.heap[g]? =some (.cells cs t fr))(hne:e≠t):Rs T e w' v l:=
 h.keep fun b cur fr' hx=>ho.block b (blk_lt hx) (fun ee=>by
  subst ee
  rw[hg] at hx
  injection hx with hx
  injection hx with _ hx
  exact hne hx.symm)
theorem Rs.of_own (h:w.ownsRow base e T.sz v l.length (T.all l)):Rs T e w v l:=by
 rcases h.2 with⟨rfl,h0⟩|⟨g,cap,cur,rfl,_,h1,h2,_,_,h3⟩
 ·exact .inl ⟨List.eq_nil_of_length_eq_zero h0,rfl⟩
 ·refine .inr ⟨g,cap,cur,(0,0),rfl,h2,h1,fun j u hj=>?_⟩
  rw[←h3,List.getElem?_take] at hj
  split at hj
  ·rw [←hj,Array.getElem?_toList]
  ·cases hj
theorem Rs.slice (h:Rs T e w v l):∃A c,v= .slice A l.length c∧l.length≤c:=by
 rcases h with⟨rfl,rfl⟩|⟨b,c,cur,fr,rfl,h1,_⟩
 ·exact⟨none,0,rfl,Nat.le_refl _⟩
 ·exact⟨_,c,rfl,h1⟩
theorem Rs.at_ (h:Rs T e w v l)(i:Nat)(hi:i<l.length):∃b c,v= .slice (some ⟨b,0,none⟩) l.length c∧l.length≤c∧b<w.heap.size∧∀(j:Nat) (u:Value),(T.enc l[i])[j]? =some u→w.cell? ⟨b,i*T.sz+j,none⟩=some u:=by
 rcases h with⟨rfl,rfl⟩|⟨b,c,cur,fr,rfl,h1,h2,h3⟩
 ·simp at hi
 ·refine⟨b,c,rfl,h1,blk_lt h2,fun j u hj=>?_⟩
  rw[cell_of_row w b _ cur e fr h2]
  refine h3 _ _ ?_
  rw[T.all_at l i j hi (by have:=(List.getElem?_eq_some_iff.1 hj).1;rw[T.len] at this;exact this),hj]
theorem Rs.cells (h:Rs T e w v l)(hl:0<l.length):∃b c,v= .slice (some ⟨b,0,none⟩) l.length c∧l.length≤c∧b<w.heap.size∧∀(j:Nat) (u:Value),(T.all l)[j]? =some u→w.cell? ⟨b,j,none⟩=some u:=by
 rcases h with⟨rfl,rfl⟩|⟨b,c,cur,fr,rfl,h1,h2,h3⟩
 ·simp at hl
 ·exact⟨b,c,rfl,h1,blk_lt h2,fun j u hj=>by rw[cell_of_row w b _ cur e fr h2];exact h3 _ _ hj⟩
theorem add0 (b j:Nat):(⟨b,0,none⟩:Addr).add j=⟨b,j,none⟩:=by unfold Addr.add;split <;> simp_all
end
structure Fl where
 name:ByteArray
 safe:ByteArray
 wait:ByteArray
def tyFl:Ty Fl:=⟨3,fun x=> [.string x.name,.string x.safe,.string x.wait],fun _=>rfl,by intro x u hu;simp at hu;rcases hu with rfl|rfl|rfl <;> rfl,by decide⟩
structure Pr where
 key:ByteArray
 val:ByteArray
def tyPr:Ty Pr:=⟨2,fun x=> [.string x.key,.string x.val],fun _=>rfl,by intro x u hu;simp at hu;rcases hu with rfl|rfl <;> rfl,by decide⟩
structure Wr where
 key:ByteArray
 val:ByteArray
 del:Bool
def tyWr:Ty Wr:=⟨3,fun x=> [.string x.key,.string x.val,.bool x.del],fun _=>rfl,by intro x u hu;simp at hu;rcases hu with rfl|rfl|rfl <;> rfl,by decide⟩
structure Bf where
 rest:ByteArray
 bad:Bool
def tyBf:Ty Bf:=⟨2,fun x=> [.string x.rest,.bool x.bad],fun _=>rfl,by intro x u hu;simp at hu;rcases hu with rfl|rfl <;> rfl,by decide⟩
structure Al where
 due:Int
 id:Int
def tyAl:Ty Al:=⟨2,fun x=> [.int .u64 x.due,.int .i64 x.id],fun _=>rfl,by intro x u hu;simp at hu;rcases hu with rfl|rfl <;> rfl,by decide⟩
structure Sn where
 seq:Int
 busy:Bool
 last:ByteArray
 txn:Int
def tySn:Ty Sn:=⟨6,fun x=> [.int .i64 1,.int .i64 x.seq,.bool x.busy,.string x.last,.int .i64 x.txn,.int .i64 0],fun _=>rfl,by intro x u hu;simp at hu;rcases hu with rfl|rfl|rfl|rfl|rfl|rfl <;> rfl,by decide⟩
structure Hd where
 mode:Int
 lo:ByteArray
 hi:ByteArray
def tyHd:Ty Hd:=⟨4,fun x=> [.int .i64 1,.int .i64 x.mode,.string x.lo,.string x.hi],fun _=>rfl,by intro x u hu;simp at hu;rcases hu with rfl|rfl|rfl|rfl <;> rfl,by decide⟩
structure Tx where
 token:ByteArray
 A:Option Addr
 n:Nat
 c:Nat
def tyTx:Ty Tx:=⟨10,fun x=> [.int .i64 1,.string x.token,.slice x.A x.n x.c,.bool false,.int .i64 0,.string ⟨#[]⟩,.string ⟨#[]⟩,.string ⟨#[]⟩,.string ⟨#[]⟩,.int .i64 0],fun _=>rfl,by intro x u hu;simp at hu;rcases hu with rfl|rfl|rfl|rfl|rfl|rfl|rfl|rfl|rfl|rfl <;> rfl,by decide⟩
structure Ml where
 bytes:ByteArray
def tyMl:Ty Ml:=⟨2,fun x=> [.int .i64 0,.string x.bytes],fun _=>rfl,by intro x u hu;simp at hu;rcases hu with rfl|rfl <;> rfl,by decide⟩
end Go.Proofs.YtmgmdiekpmffbaaGreatDoor.Top
namespace Go.Proofs.YtmgmdiekpmffbaaGreatDoor.Top
open Go Go.RowKit Go.Proofs.YtmgmdiekpmffbaaGreatDoorW.PrintWords
def idx {α:Type}(p:α→Bool):List α→Int→Int
 | [],_=> -1
 |x :: l,i=>if p x then i else idx p l (i+1)
theorem idx_hit {α:Type}(p:α→Bool)(l:List α)(i:Nat)(hi:i<l.length)(hp:p l[i]=true):idx p (l.drop i) i=i:=by
 rw[List.drop_eq_getElem_cons hi,idx,if_pos hp]
theorem idx_next {α:Type}(p:α→Bool)(l:List α)(i:Nat)(hi:i<l.length)(hp:p l[i]=false):idx p (l.drop i) i=idx p (l.drop (i+1)) ((i+1:Nat):Int):=by
 rw[List.drop_eq_getElem_cons hi,idx,if_neg (by rw[hp];decide)]
 rfl
theorem idx_none {α:Type}(p:α→Bool):∀(l:List α) (i:Int),(∀x∈l,p x=false)→idx p l i= -1
 | [],_,_=>rfl
 |x :: l,i,h=>by
  rw[idx,if_neg (by rw[h x (List.mem_cons_self ..)];decide)]
  exact idx_none p l (i+1) fun y hy=>h y (List.mem_cons_of_mem _ hy)
theorem add_field' (ad:Addr)(m j:Nat)(hj:0<j):(⟨(ad.add m).block,(ad.add m).off+j,none⟩:Addr)=ad.add (m+j):=(add_field ad m j hj).symm
theorem at_Fl {e:TypeId}{w:World}{v:Value}{l:List Fl}(h:Rs tyFl e w v l):∃A c,v= .slice A l.length c∧l.length≤c∧∀i (hi:i<l.length),∃ad,A=some ad∧w.cell? (ad.add (i*3))=some (.string l[i].name)∧w.cell? ⟨(ad.add (i*3)).block,(ad.add (i*3)).off+1,none⟩=some (.string l[i].safe)∧w.cell? ⟨(ad.add (i*3)).block,(ad.add (i*3)).off+2,none⟩=some (.string l[i].wait):=by
 obtain⟨A,c,hv,hc⟩:=h.slice
 refine⟨A,c,hv,hc,fun i hi=>?_⟩
 obtain⟨b,c',hv',_,_,hcell⟩:=h.at_ i hi
 rw[hv] at hv'
 injection hv' with e1 _ _
 subst e1
 refine⟨_,rfl,?_,?_,?_⟩
 ·rw [add0]
  exact hcell 0 _ rfl
 ·rw [add0]
  exact hcell 1 _ rfl
 ·rw [add0]
  exact hcell 2 _ rfl
theorem at_Pr {e:TypeId}{w:World}{v:Value}{l:List Pr}(h:Rs tyPr e w v l):∃A c,v= .slice A l.length c∧l.length≤c∧∀i (hi:i<l.length),∃ad,A=some ad∧w.cell? (ad.add (i*2))=some (.string l[i].key)∧w.cell? ⟨(ad.add (i*2)).block,(ad.add (i*2)).off+1,none⟩=some (.string l[i].val):=by
 obtain⟨A,c,hv,hc⟩:=h.slice
 refine⟨A,c,hv,hc,fun i hi=>?_⟩
 obtain⟨b,c',hv',_,_,hcell⟩:=h.at_ i hi
 rw[hv] at hv'
 injection hv' with e1 _ _
 subst e1
 refine⟨_,rfl,?_,?_⟩
 ·rw [add0]
  exact hcell 0 _ rfl
 ·rw [add0]
  exact hcell 1 _ rfl
theorem at_Wr {e:TypeId}{w:World}{v:Value}{l:List Wr}(h:Rs tyWr e w v l):∃A c,v= .slice A l.length c∧l.length≤c∧∀i (hi:i<l.length),∃ad,A=some ad∧w.cell? (ad.add (i*3))=some (.string l[i].key)∧w.cell? ⟨(ad.add (i*3)).block,(ad.add (i*3)).off+1,none⟩=some (.string l[i].val)∧w.cell? ⟨(ad.add (i*3)).block,(ad.add (i*3)).off+2,none⟩=some (.bool l[i].del):=by
 obtain⟨A,c,hv,hc⟩:=h.slice
 refine⟨A,c,hv,hc,fun i hi=>?_⟩
 obtain⟨b,c',hv',_,_,hcell⟩:=h.at_ i hi
 rw[hv] at hv'
 injection hv' with e1 _ _
 subst e1
 refine⟨_,rfl,?_,?_,?_⟩
 ·rw [add0]
  exact hcell 0 _ rfl
 ·rw [add0]
  exact hcell 1 _ rfl
 ·rw [add0]
  exact hcell 2 _ rfl
theorem at_Sn {e:TypeId}{w:World}{v:Value}{l:List Sn}(h:Rs tySn e w v l):∃A c,v= .slice A l.length c∧l.length≤c∧∀i (hi:i<l.length),∃ad,A=some ad∧w.cell? (ad.add (i*6))=some (.int .i64 1)∧w.cell? ⟨(ad.add (i*6)).block,(ad.add (i*6)).off+1,none⟩=some (.int .i64 l[i].seq)∧w.cell? ⟨(ad.add (i*6)).block,(ad.add (i*6)).off+2,none⟩=some (.bool l[i].busy)∧w.cell? ⟨(ad.add (i*6)).block,(ad.add (i*6)).off+3,none⟩=some (.string l[i].last)∧w.cell? ⟨(ad.add (i*6)).block,(ad.add (i*6)).off+4,none⟩=some (.int .i64 l[i].txn)∧w.cell? ⟨(ad.add (i*6)).block,(ad.add (i*6)).off+5,none⟩=some (.int .i64 0):=by
 obtain⟨A,c,hv,hc⟩:=h.slice
 refine⟨A,c,hv,hc,fun i hi=>?_⟩
 obtain⟨b,c',hv',_,_,hcell⟩:=h.at_ i hi
 rw[hv] at hv'
 injection hv' with e1 _ _
 subst e1
 refine⟨_,rfl,?_,?_,?_,?_,?_,?_⟩
 ·rw [add0]
  exact hcell 0 _ rfl
 ·rw [add0]
  exact hcell 1 _ rfl
 ·rw [add0]
  exact hcell 2 _ rfl
 ·rw [add0]
  exact hcell 3 _ rfl
 ·rw [add0]
  exact hcell 4 _ rfl
 ·rw [add0]
  exact hcell 5 _ rfl
theorem at_Hd {e:TypeId}{w:World}{v:Value}{l:List Hd}(h:Rs tyHd e w v l):∃A c,v= .slice A l.length c∧l.length≤c∧∀i (hi:i<l.length),∃ad,A=some ad∧w.cell? (ad.add (i*4))=some (.int .i64 1)∧w.cell? ⟨(ad.add (i*4)).block,(ad.add (i*4)).off+1,none⟩=some (.int .i64 l[i].mode)∧w.cell? ⟨(ad.add (i*4)).block,(ad.add (i*4)).off+2,none⟩=some (.string l[i].lo)∧w.cell? ⟨(ad.add (i*4)).block,(ad.add (i*4)).off+3,none⟩=some (.string l[i].hi):=by
 obtain⟨A,c,hv,hc⟩:=h.slice
 refine⟨A,c,hv,hc,fun i hi=>?_⟩
 obtain⟨b,c',hv',_,_,hcell⟩:=h.at_ i hi
 rw[hv] at hv'
 injection hv' with e1 _ _
 subst e1
 refine⟨_,rfl,?_,?_,?_,?_⟩
 ·rw [add0]
  exact hcell 0 _ rfl
 ·rw [add0]
  exact hcell 1 _ rfl
 ·rw [add0]
  exact hcell 2 _ rfl
 ·rw [add0]
  exact hcell 3 _ rfl
theorem at_Tx {e:TypeId}{w:World}{v:Value}{l:List Tx}(h:Rs tyTx e w v l):∃A c,v= .slice A l.length c∧l.length≤c∧∀i (hi:i<l.length),∃ad,A=some ad∧w.cell? (ad.add (i*10))=some (.int .i64 1)∧w.cell? ⟨(ad.add (i*10)).block,(ad.add (i*10)).off+1,none⟩=some (.string l[i].token)∧w.cell? ⟨(ad.add (i*10)).block,(ad.add (i*10)).off+2,none⟩=some (.slice l[i].A l[i].n l[i].c)∧w.cell? ⟨(ad.add (i*10)).block,(ad.add (i*10)).off+3,none⟩=some (.bool false)∧w.cell? ⟨(ad.add (i*10)).block,(ad.add (i*10)).off+4,none⟩=some (.int .i64 0)∧w.cell? ⟨(ad.add (i*10)).block,(ad.add (i*10)).off+5,none⟩=some (.string ⟨#[]⟩)∧w.cell? ⟨(ad.add (i*10)).block,(ad.add (i*10)).off+6,none⟩=some (.string ⟨#[]⟩)∧w.cell? ⟨(ad.add (i*10)).block,(ad.add (i*10)).off+7,none⟩=some (.string ⟨#[]⟩)∧w.cell? ⟨(ad.add (i*10)).block,(ad.add (i*10)).off+8,none⟩=some (.string ⟨#[]⟩)∧w.cell? ⟨(ad.add (i*10)).block,(ad.add (i*10)).off+9,none⟩=some (.int .i64 0):=by
 obtain⟨A,c,hv,hc⟩:=h.slice
 refine⟨A,c,hv,hc,fun i hi=>?_⟩
 obtain⟨b,c',hv',_,_,hcell⟩:=h.at_ i hi
 rw[hv] at hv'
 injection hv' with e1 _ _
 subst e1
 refine⟨_,rfl,?_,?_,?_,?_,?_,?_,?_,?_,?_,?_⟩
 ·rw [add0]
  exact hcell 0 _ rfl
 ·rw [add0]
  exact hcell 1 _ rfl
 ·rw [add0]
  exact hcell 2 _ rfl
 ·rw [add0]
  exact hcell 3 _ rfl
 ·rw [add0]
  exact hcell 4 _ rfl
 ·rw [add0]
  exact hcell 5 _ rfl
 ·rw [add0]
  exact hcell 6 _ rfl
 ·rw [add0]
  exact hcell 7 _ rfl
 ·rw [add0]
  exact hcell 8 _ rfl
 ·rw [add0]
  exact hcell 9 _ rfl
theorem el_Fl {e:TypeId}{w:World}{b n c:Nat}{l:List Fl}(h:Rs tyFl e w (.slice (some ⟨b,0,none⟩) n c) l)(i:Nat)(x:Fl)(hi:l[i]? =some x):w.cell? ⟨b,i*3,none⟩=some (.string x.name)∧w.cell? ⟨b,i*3+1,none⟩=some (.string x.safe)∧w.cell? ⟨b,i*3+2,none⟩=some (.string x.wait):=by
 obtain⟨hl,hx⟩:=List.getElem?_eq_some_iff.1 hi
 obtain⟨b',c',hv',_,_,hcell⟩:=h.at_ i hl
 cases hv'
 rw[hx] at hcell
 exact⟨hcell 0 _ rfl,hcell 1 _ rfl,hcell 2 _ rfl⟩
theorem head_Fl {e:TypeId}{w:World}{v:Value}{l:List Fl}(h:Rs tyFl e w v l)(hl:0<l.length):∃b c,v= .slice (some ⟨b,0,none⟩) l.length c∧l.length≤c∧b<w.heap.size:=by
 obtain⟨b,c,h1,h2,h3,_⟩:=h.cells hl
 exact⟨b,c,h1,h2,h3⟩
theorem el_Pr {e:TypeId}{w:World}{b n c:Nat}{l:List Pr}(h:Rs tyPr e w (.slice (some ⟨b,0,none⟩) n c) l)(i:Nat)(x:Pr)(hi:l[i]? =some x):w.cell? ⟨b,i*2,none⟩=some (.string x.key)∧w.cell? ⟨b,i*2+1,none⟩=some (.string x.val):=by
 obtain⟨hl,hx⟩:=List.getElem?_eq_some_iff.1 hi
 obtain⟨b',c',hv',_,_,hcell⟩:=h.at_ i hl
 cases hv'
 rw[hx] at hcell
 exact⟨hcell 0 _ rfl,hcell 1 _ rfl⟩
theorem el0_Pr {e:TypeId}{w:World}{b n c:Nat}{l:List Pr}(h:Rs tyPr e w (.slice (some ⟨b,0,none⟩) n c) l)(x:Pr)(hi:l[0]? =some x):w.cell? ⟨b,0,none⟩=some (.string x.key)∧w.cell? ⟨b,1,none⟩=some (.string x.val):=by
 have h':=el_Pr h 0 x hi
 simpa only[Nat.zero_mul,Nat.zero_add] using h'
theorem head_Pr {e:TypeId}{w:World}{v:Value}{l:List Pr}(h:Rs tyPr e w v l)(hl:0<l.length):∃b c,v= .slice (some ⟨b,0,none⟩) l.length c∧l.length≤c∧b<w.heap.size:=by
 obtain⟨b,c,h1,h2,h3,_⟩:=h.cells hl
 exact⟨b,c,h1,h2,h3⟩
theorem el_Bf {e:TypeId}{w:World}{b n c:Nat}{l:List Bf}(h:Rs tyBf e w (.slice (some ⟨b,0,none⟩) n c) l)(i:Nat)(x:Bf)(hi:l[i]? =some x):w.cell? ⟨b,i*2,none⟩=some (.string x.rest)∧w.cell? ⟨b,i*2+1,none⟩=some (.bool x.bad):=by
 obtain⟨hl,hx⟩:=List.getElem?_eq_some_iff.1 hi
 obtain⟨b',c',hv',_,_,hcell⟩:=h.at_ i hl
 cases hv'
 rw[hx] at hcell
 exact⟨hcell 0 _ rfl,hcell 1 _ rfl⟩
theorem el0_Bf {e:TypeId}{w:World}{b n c:Nat}{l:List Bf}(h:Rs tyBf e w (.slice (some ⟨b,0,none⟩) n c) l)(x:Bf)(hi:l[0]? =some x):w.cell? ⟨b,0,none⟩=some (.string x.rest)∧w.cell? ⟨b,1,none⟩=some (.bool x.bad):=by
 have h':=el_Bf h 0 x hi
 simpa only[Nat.zero_mul,Nat.zero_add] using h'
theorem el_Al {e:TypeId}{w:World}{b n c:Nat}{l:List Al}(h:Rs tyAl e w (.slice (some ⟨b,0,none⟩) n c) l)(i:Nat)(x:Al)(hi:l[i]? =some x):w.cell? ⟨b,i*2,none⟩=some (.int .u64 x.due)∧w.cell? ⟨b,i*2+1,none⟩=some (.int .i64 x.id):=by
 obtain⟨hl,hx⟩:=List.getElem?_eq_some_iff.1 hi
 obtain⟨b',c',hv',_,_,hcell⟩:=h.at_ i hl
 cases hv'
 rw[hx] at hcell
 exact⟨hcell 0 _ rfl,hcell 1 _ rfl⟩
theorem el0_Al {e:TypeId}{w:World}{b n c:Nat}{l:List Al}(h:Rs tyAl e w (.slice (some ⟨b,0,none⟩) n c) l)(x:Al)(hi:l[0]? =some x):w.cell? ⟨b,0,none⟩=some (.int .u64 x.due)∧w.cell? ⟨b,1,none⟩=some (.int .i64 x.id):=by
 have h':=el_Al h 0 x hi
 simpa only[Nat.zero_mul,Nat.zero_add] using h'
theorem head_Al {e:TypeId}{w:World}{v:Value}{l:List Al}(h:Rs tyAl e w v l)(hl:0<l.length):∃b c,v= .slice (some ⟨b,0,none⟩) l.length c∧l.length≤c∧b<w.heap.size:=by
 obtain⟨b,c,h1,h2,h3,_⟩:=h.cells hl
 exact⟨b,c,h1,h2,h3⟩
theorem el_Sn {e:TypeId}{w:World}{b n c:Nat}{l:List Sn}(h:Rs tySn e w (.slice (some ⟨b,0,none⟩) n c) l)(i:Nat)(x:Sn)(hi:l[i]? =some x):w.cell? ⟨b,i*6,none⟩=some (.int .i64 1)∧w.cell? ⟨b,i*6+1,none⟩=some (.int .i64 x.seq)∧w.cell? ⟨b,i*6+2,none⟩=some (.bool x.busy)∧w.cell? ⟨b,i*6+3,none⟩=some (.string x.last)∧w.cell? ⟨b,i*6+4,none⟩=some (.int .i64 x.txn)∧w.cell? ⟨b,i*6+5,none⟩=some (.int .i64 0):=by
 obtain⟨hl,hx⟩:=List.getElem?_eq_some_iff.1 hi
 obtain⟨b',c',hv',_,_,hcell⟩:=h.at_ i hl
 cases hv'
 rw[hx] at hcell
 exact⟨hcell 0 _ rfl,hcell 1 _ rfl,hcell 2 _ rfl,hcell 3 _ rfl,hcell 4 _ rfl,hcell 5 _ rfl⟩
theorem el0_Sn {e:TypeId}{w:World}{b n c:Nat}{l:List Sn}(h:Rs tySn e w (.slice (some ⟨b,0,none⟩) n c) l)(x:Sn)(hi:l[0]? =some x):w.cell? ⟨b,0,none⟩=some (.int .i64 1)∧w.cell? ⟨b,1,none⟩=some (.int .i64 x.seq)∧w.cell? ⟨b,2,none⟩=some (.bool x.busy)∧w.cell? ⟨b,3,none⟩=some (.string x.last)∧w.cell? ⟨b,4,none⟩=some (.int .i64 x.txn)∧w.cell? ⟨b,5,none⟩=some (.int .i64 0):=by
 have h':=el_Sn h 0 x hi
 simpa only[Nat.zero_mul,Nat.zero_add] using h'
theorem head_Sn {e:TypeId}{w:World}{v:Value}{l:List Sn}(h:Rs tySn e w v l)(hl:0<l.length):∃b c,v= .slice (some ⟨b,0,none⟩) l.length c∧l.length≤c∧b<w.heap.size:=by
 obtain⟨b,c,h1,h2,h3,_⟩:=h.cells hl
 exact⟨b,c,h1,h2,h3⟩
theorem el_Hd {e:TypeId}{w:World}{b n c:Nat}{l:List Hd}(h:Rs tyHd e w (.slice (some ⟨b,0,none⟩) n c) l)(i:Nat)(x:Hd)(hi:l[i]? =some x):w.cell? ⟨b,i*4,none⟩=some (.int .i64 1)∧w.cell? ⟨b,i*4+1,none⟩=some (.int .i64 x.mode)∧w.cell? ⟨b,i*4+2,none⟩=some (.string x.lo)∧w.cell? ⟨b,i*4+3,none⟩=some (.string x.hi):=by
 obtain⟨hl,hx⟩:=List.getElem?_eq_some_iff.1 hi
 obtain⟨b',c',hv',_,_,hcell⟩:=h.at_ i hl
 cases hv'
 rw[hx] at hcell
 exact⟨hcell 0 _ rfl,hcell 1 _ rfl,hcell 2 _ rfl,hcell 3 _ rfl⟩
theorem el_Tx {e:TypeId}{w:World}{b n c:Nat}{l:List Tx}(h:Rs tyTx e w (.slice (some ⟨b,0,none⟩) n c) l)(i:Nat)(x:Tx)(hi:l[i]? =some x):w.cell? ⟨b,i*10,none⟩=some (.int .i64 1)∧w.cell? ⟨b,i*10+1,none⟩=some (.string x.token)∧w.cell? ⟨b,i*10+2,none⟩=some (.slice x.A x.n x.c)∧w.cell? ⟨b,i*10+3,none⟩=some (.bool false)∧w.cell? ⟨b,i*10+4,none⟩=some (.int .i64 0)∧w.cell? ⟨b,i*10+5,none⟩=some (.string ⟨#[]⟩)∧w.cell? ⟨b,i*10+6,none⟩=some (.string ⟨#[]⟩)∧w.cell? ⟨b,i*10+7,none⟩=some (.string ⟨#[]⟩)∧w.cell? ⟨b,i*10+8,none⟩=some (.string ⟨#[]⟩)∧w.cell? ⟨b,i*10+9,none⟩=some (.int .i64 0):=by
 obtain⟨hl,hx⟩:=List.getElem?_eq_some_iff.1 hi
 obtain⟨b',c',hv',_,_,hcell⟩:=h.at_ i hl
 cases hv'
 rw[hx] at hcell
 exact⟨hcell 0 _ rfl,hcell 1 _ rfl,hcell 2 _ rfl,hcell 3 _ rfl,hcell 4 _ rfl,hcell 5 _ rfl,hcell 6 _ rfl,hcell 7 _ rfl,hcell 8 _ rfl,hcell 9 _ rfl⟩
theorem el0_Tx {e:TypeId}{w:World}{b n c:Nat}{l:List Tx}(h:Rs tyTx e w (.slice (some ⟨b,0,none⟩) n c) l)(x:Tx)(hi:l[0]? =some x):w.cell? ⟨b,0,none⟩=some (.int .i64 1)∧w.cell? ⟨b,1,none⟩=some (.string x.token)∧w.cell? ⟨b,2,none⟩=some (.slice x.A x.n x.c)∧w.cell? ⟨b,3,none⟩=some (.bool false)∧w.cell? ⟨b,4,none⟩=some (.int .i64 0)∧w.cell? ⟨b,5,none⟩=some (.string ⟨#[]⟩)∧w.cell? ⟨b,6,none⟩=some (.string ⟨#[]⟩)∧w.cell? ⟨b,7,none⟩=some (.string ⟨#[]⟩)∧w.cell? ⟨b,8,none⟩=some (.string ⟨#[]⟩)∧w.cell? ⟨b,9,none⟩=some (.int .i64 0):=by
 have h':=el_Tx h 0 x hi
 simpa only[Nat.zero_mul,Nat.zero_add] using h'
theorem head_Tx {e:TypeId}{w:World}{v:Value}{l:List Tx}(h:Rs tyTx e w v l)(hl:0<l.length):∃b c,v= .slice (some ⟨b,0,none⟩) l.length c∧l.length≤c∧b<w.heap.size:=by
 obtain⟨b,c,h1,h2,h3,_⟩:=h.cells hl
 exact⟨b,c,h1,h2,h3⟩
theorem index_disk_at1 (v:Value)(l:List Fl)(p:Fl→Bool)(B0:Nat)(w:World)(h:Rs tyFl 129 w v l)(hl:l.length≤100000)
  (hC:∀x W,x∈l→Below w.heap.size w W→Calls Tryz.prog 147 #[.agg #[.string x.name,.string x.safe,.string x.wait],.pointer (some ⟨B0,0,none⟩)] W fun e w'=>e= .returned (.bool (p x))∧Below W.heap.size W w'):
  Calls Tryz.prog 146 #[v,.func (.func 147) #[] #[.pointer (some ⟨B0,0,none⟩)]] w fun e w'=>e= .returned (.int .i64 (idx p l 0))∧Below w.heap.size w w':=by
 obtain⟨A,c,rfl,hc,-⟩:=at_Fl h
 have HR:=Lib.hid h
 have HL:=Lib.hid hl
 have HC:=Lib.hid hC
 have b0':Aside0 (Below w.heap.size w w):=⟨Below.refl _ _⟩
 have HF:Hid (∀(z:Int) (w':World),idx p l 0=z→Below w.heap.size w w'→(Ending.returned (.int .i64 z)=Ending.returned (.int .i64 (idx p l 0))∧Below w.heap.size w w')):=Lib.hid fun z w' h1 h2=>⟨by rw[h1],h2⟩
 clear h hl hC
 go_enter Tryz.func146,Tryz.ntmps146
 go_wp2
 go_loopg [8] l.length (fun kq v8 w'=>∃i:Nat,v8= .int .i64 i∧Aside0 (kq+i=l.length)∧Aside0 (idx p l 0=idx p (l.drop i) i)∧Aside0 (Below w.heap.size w w'))
 case atStart=>exact⟨0,rfl,⟨by omega⟩,⟨rfl⟩,b0'⟩
 case round=>
  obtain⟨i,rfl,HK,HN,HW⟩:=hrel
  clear b0'
  by_cases hi:i<l.length
  ·have c0b:decide ((i:Int)<(l.length:Int))=true:=decide_eq_true (by omega)
   obtain⟨A',c',e1,_,hat⟩:=at_Fl (HR.out.below HW.out)
   cases e1
   obtain⟨ad,e2,hx0,hx1,hx2⟩:=hat i hi
   subst e2
   clear hat
   have hp:((0:Int)≤(i:Int))=True:=eq_true (by omega)
   have hq:((i:Int)<(l.length:Int))=True:=eq_true (by omega)
   have hi40:(i:Int)≤100000:=by have:=HL.out;omega
   have HY:=Lib.hid (HC.out l[i] wr (List.getElem_mem hi) HW.out)
   cases hlg:p l[i] with
   |true=>
    have HZ:=Lib.hid (HN.out.trans (idx_hit p l i hi hlg))
    rw[hlg] at HY
    clear hlg
    generalize l[i]=x at hx0 hx1 hx2 HY
    go_wp2_with (go_at_call 147;refine HY.out.mono ?_;rintro e w3 ⟨rfl,b3⟩)
    have HB3:=Lib.hid b3
    clear b3
    go_wp2
    go_ret
    exact HF.out _ _ HZ.out (HW.out.trans (HB3.out.mono HW.out.size))
   |false=>
    have HZ:Aside0 (idx p l 0=idx p (l.drop (i+1)) ((i+1:Nat):Int)):=⟨HN.out.trans (idx_next p l i hi hlg)⟩
    rw[hlg] at HY
    clear hlg
    generalize l[i]=x at hx0 hx1 hx2 HY
    go_wp2_with (go_at_call 147;refine HY.out.mono ?_;rintro e w3 ⟨rfl,b3⟩)
    have b3':Aside0 (Below w.heap.size w w3):=⟨HW.out.trans (b3.mono HW.out.size)⟩
    clear b3
    go_wp2
    go_roundg (gk - 1)
    case measure=>have:=HK.out;omega
    case rel=>exact⟨i+1,by go_num,⟨by have:=HK.out;omega⟩,HZ,b3'⟩
  ·have c0b:decide ((i:Int)<(l.length:Int))=false:=decide_eq_false (by omega)
   have HZ:Hid (idx p l 0= -1):=Lib.hid (by rw[HN.out,List.drop_of_length_le (by omega)];rfl)
   go_wp2
   go_ret
   exact HF.out _ _ HZ.out HW.out
theorem index_table_at1 (v:Value)(l:List Pr)(p:Pr→Bool)(B0:Nat)(w:World)(h:Rs tyPr 123 w v l)(hl:l.length≤100000)
  (hC:∀x W,x∈l→Below w.heap.size w W→Calls Tryz.prog 196 #[.agg #[.string x.key,.string x.val],.pointer (some ⟨B0,0,none⟩)] W fun e w'=>e= .returned (.bool (p x))∧Below W.heap.size W w'):
  Calls Tryz.prog 162 #[v,.func (.func 196) #[] #[.pointer (some ⟨B0,0,none⟩)]] w fun e w'=>e= .returned (.int .i64 (idx p l 0))∧Below w.heap.size w w':=by
 obtain⟨A,c,rfl,hc,-⟩:=at_Pr h
 have HR:=Lib.hid h
 have HL:=Lib.hid hl
 have HC:=Lib.hid hC
 have b0':Aside0 (Below w.heap.size w w):=⟨Below.refl _ _⟩
 have HF:Hid (∀(z:Int) (w':World),idx p l 0=z→Below w.heap.size w w'→(Ending.returned (.int .i64 z)=Ending.returned (.int .i64 (idx p l 0))∧Below w.heap.size w w')):=Lib.hid fun z w' h1 h2=>⟨by rw[h1],h2⟩
 clear h hl hC
 go_enter Tryz.func162,Tryz.ntmps162
 go_wp2
 go_loopg [8] l.length (fun kq v8 w'=>∃i:Nat,v8= .int .i64 i∧Aside0 (kq+i=l.length)∧Aside0 (idx p l 0=idx p (l.drop i) i)∧Aside0 (Below w.heap.size w w'))
 case atStart=>exact⟨0,rfl,⟨by omega⟩,⟨rfl⟩,b0'⟩
 case round=>
  obtain⟨i,rfl,HK,HN,HW⟩:=hrel
  clear b0'
  by_cases hi:i<l.length
  ·have c0b:decide ((i:Int)<(l.length:Int))=true:=decide_eq_true (by omega)
   obtain⟨A',c',e1,_,hat⟩:=at_Pr (HR.out.below HW.out)
   cases e1
   obtain⟨ad,e2,hx0,hx1⟩:=hat i hi
   subst e2
   clear hat
   have hp:((0:Int)≤(i:Int))=True:=eq_true (by omega)
   have hq:((i:Int)<(l.length:Int))=True:=eq_true (by omega)
   have hi40:(i:Int)≤100000:=by have:=HL.out;omega
   have HY:=Lib.hid (HC.out l[i] wr (List.getElem_mem hi) HW.out)
   cases hlg:p l[i] with
   |true=>
    have HZ:=Lib.hid (HN.out.trans (idx_hit p l i hi hlg))
    rw[hlg] at HY
    clear hlg
    generalize l[i]=x at hx0 hx1 HY
    go_wp2_with (go_at_call 196;refine HY.out.mono ?_;rintro e w3 ⟨rfl,b3⟩)
    have HB3:=Lib.hid b3
    clear b3
    go_wp2
    go_ret
    exact HF.out _ _ HZ.out (HW.out.trans (HB3.out.mono HW.out.size))
   |false=>
    have HZ:Aside0 (idx p l 0=idx p (l.drop (i+1)) ((i+1:Nat):Int)):=⟨HN.out.trans (idx_next p l i hi hlg)⟩
    rw[hlg] at HY
    clear hlg
    generalize l[i]=x at hx0 hx1 HY
    go_wp2_with (go_at_call 196;refine HY.out.mono ?_;rintro e w3 ⟨rfl,b3⟩)
    have b3':Aside0 (Below w.heap.size w w3):=⟨HW.out.trans (b3.mono HW.out.size)⟩
    clear b3
    go_wp2
    go_roundg (gk - 1)
    case measure=>have:=HK.out;omega
    case rel=>exact⟨i+1,by go_num,⟨by have:=HK.out;omega⟩,HZ,b3'⟩
  ·have c0b:decide ((i:Int)<(l.length:Int))=false:=decide_eq_false (by omega)
   have HZ:Hid (idx p l 0= -1):=Lib.hid (by rw[HN.out,List.drop_of_length_le (by omega)];rfl)
   go_wp2
   go_ret
   exact HF.out _ _ HZ.out HW.out
theorem index_table_Put1 (v:Value)(l:List Pr)(p:Pr→Bool)(B0:Nat)(w:World)(h:Rs tyPr 123 w v l)(hl:l.length≤100000)
  (hC:∀x W,x∈l→Below w.heap.size w W→Calls Tryz.prog 163 #[.agg #[.string x.key,.string x.val],.pointer (some ⟨B0,0,none⟩)] W fun e w'=>e= .returned (.bool (p x))∧Below W.heap.size W w'):
  Calls Tryz.prog 162 #[v,.func (.func 163) #[] #[.pointer (some ⟨B0,0,none⟩)]] w fun e w'=>e= .returned (.int .i64 (idx p l 0))∧Below w.heap.size w w':=by
 obtain⟨A,c,rfl,hc,-⟩:=at_Pr h
 have HR:=Lib.hid h
 have HL:=Lib.hid hl
 have HC:=Lib.hid hC
 have b0':Aside0 (Below w.heap.size w w):=⟨Below.refl _ _⟩
 have HF:Hid (∀(z:Int) (w':World),idx p l 0=z→Below w.heap.size w w'→(Ending.returned (.int .i64 z)=Ending.returned (.int .i64 (idx p l 0))∧Below w.heap.size w w')):=Lib.hid fun z w' h1 h2=>⟨by rw[h1],h2⟩
 clear h hl hC
 go_enter Tryz.func162,Tryz.ntmps162
 go_wp2
 go_loopg [8] l.length (fun kq v8 w'=>∃i:Nat,v8= .int .i64 i∧Aside0 (kq+i=l.length)∧Aside0 (idx p l 0=idx p (l.drop i) i)∧Aside0 (Below w.heap.size w w'))
 case atStart=>exact⟨0,rfl,⟨by omega⟩,⟨rfl⟩,b0'⟩
 case round=>
  obtain⟨i,rfl,HK,HN,HW⟩:=hrel
  clear b0'
  by_cases hi:i<l.length
  ·have c0b:decide ((i:Int)<(l.length:Int))=true:=decide_eq_true (by omega)
   obtain⟨A',c',e1,_,hat⟩:=at_Pr (HR.out.below HW.out)
   cases e1
   obtain⟨ad,e2,hx0,hx1⟩:=hat i hi
   subst e2
   clear hat
   have hp:((0:Int)≤(i:Int))=True:=eq_true (by omega)
   have hq:((i:Int)<(l.length:Int))=True:=eq_true (by omega)
   have hi40:(i:Int)≤100000:=by have:=HL.out;omega
   have HY:=Lib.hid (HC.out l[i] wr (List.getElem_mem hi) HW.out)
   cases hlg:p l[i] with
   |true=>
    have HZ:=Lib.hid (HN.out.trans (idx_hit p l i hi hlg))
    rw[hlg] at HY
    clear hlg
    generalize l[i]=x at hx0 hx1 HY
    go_wp2_with (go_at_call 163;refine HY.out.mono ?_;rintro e w3 ⟨rfl,b3⟩)
    have HB3:=Lib.hid b3
    clear b3
    go_wp2
    go_ret
    exact HF.out _ _ HZ.out (HW.out.trans (HB3.out.mono HW.out.size))
   |false=>
    have HZ:Aside0 (idx p l 0=idx p (l.drop (i+1)) ((i+1:Nat):Int)):=⟨HN.out.trans (idx_next p l i hi hlg)⟩
    rw[hlg] at HY
    clear hlg
    generalize l[i]=x at hx0 hx1 HY
    go_wp2_with (go_at_call 163;refine HY.out.mono ?_;rintro e w3 ⟨rfl,b3⟩)
    have b3':Aside0 (Below w.heap.size w w3):=⟨HW.out.trans (b3.mono HW.out.size)⟩
    clear b3
    go_wp2
    go_roundg (gk - 1)
    case measure=>have:=HK.out;omega
    case rel=>exact⟨i+1,by go_num,⟨by have:=HK.out;omega⟩,HZ,b3'⟩
  ·have c0b:decide ((i:Int)<(l.length:Int))=false:=decide_eq_false (by omega)
   have HZ:Hid (idx p l 0= -1):=Lib.hid (by rw[HN.out,List.drop_of_length_le (by omega)];rfl)
   go_wp2
   go_ret
   exact HF.out _ _ HZ.out HW.out
theorem index_session_at1 (v:Value)(l:List Sn)(p:Sn→Bool)(B0:Nat)(w:World)(h:Rs tySn 71 w v l)(hl:l.length≤100000)
  (hC:∀x W,x∈l→Below w.heap.size w W→Calls Tryz.prog 171 #[.agg #[.int .i64 1,.int .i64 x.seq,.bool x.busy,.string x.last,.int .i64 x.txn,.int .i64 0],.pointer (some ⟨B0,0,none⟩)] W fun e w'=>e= .returned (.bool (p x))∧Below W.heap.size W w'):
  Calls Tryz.prog 170 #[v,.func (.func 171) #[] #[.pointer (some ⟨B0,0,none⟩)]] w fun e w'=>e= .returned (.int .i64 (idx p l 0))∧Below w.heap.size w w':=by
 obtain⟨A,c,rfl,hc,-⟩:=at_Sn h
 have HR:=Lib.hid h
 have HL:=Lib.hid hl
 have HC:=Lib.hid hC
 have b0':Aside0 (Below w.heap.size w w):=⟨Below.refl _ _⟩
 have HF:Hid (∀(z:Int) (w':World),idx p l 0=z→Below w.heap.size w w'→(Ending.returned (.int .i64 z)=Ending.returned (.int .i64 (idx p l 0))∧Below w.heap.size w w')):=Lib.hid fun z w' h1 h2=>⟨by rw[h1],h2⟩
 clear h hl hC
 go_enter Tryz.func170,Tryz.ntmps170
 go_wp2
 go_loopg [8] l.length (fun kq v8 w'=>∃i:Nat,v8= .int .i64 i∧Aside0 (kq+i=l.length)∧Aside0 (idx p l 0=idx p (l.drop i) i)∧Aside0 (Below w.heap.size w w'))
 case atStart=>exact⟨0,rfl,⟨by omega⟩,⟨rfl⟩,b0'⟩
 case round=>
  obtain⟨i,rfl,HK,HN,HW⟩:=hrel
  clear b0'
  by_cases hi:i<l.length
  ·have c0b:decide ((i:Int)<(l.length:Int))=true:=decide_eq_true (by omega)
   obtain⟨A',c',e1,_,hat⟩:=at_Sn (HR.out.below HW.out)
   cases e1
   obtain⟨ad,e2,hx0,hx1,hx2,hx3,hx4,hx5⟩:=hat i hi
   subst e2
   clear hat
   have hp:((0:Int)≤(i:Int))=True:=eq_true (by omega)
   have hq:((i:Int)<(l.length:Int))=True:=eq_true (by omega)
   have hi40:(i:Int)≤100000:=by have:=HL.out;omega
   have HY:=Lib.hid (HC.out l[i] wr (List.getElem_mem hi) HW.out)
   cases hlg:p l[i] with
   |true=>
    have HZ:=Lib.hid (HN.out.trans (idx_hit p l i hi hlg))
    rw[hlg] at HY
    clear hlg
    generalize l[i]=x at hx0 hx1 hx2 hx3 hx4 hx5 HY
    go_wp2_with (go_at_call 171;refine HY.out.mono ?_;rintro e w3 ⟨rfl,b3⟩)
    have HB3:=Lib.hid b3
    clear b3
    go_wp2
    go_ret
    exact HF.out _ _ HZ.out (HW.out.trans (HB3.out.mono HW.out.size))
   |false=>
    have HZ:Aside0 (idx p l 0=idx p (l.drop (i+1)) ((i+1:Nat):Int)):=⟨HN.out.trans (idx_next p l i hi hlg)⟩
    rw[hlg] at HY
    clear hlg
    generalize l[i]=x at hx0 hx1 hx2 hx3 hx4 hx5 HY
    go_wp2_with (go_at_call 171;refine HY.out.mono ?_;rintro e w3 ⟨rfl,b3⟩)
    have b3':Aside0 (Below w.heap.size w w3):=⟨HW.out.trans (b3.mono HW.out.size)⟩
    clear b3
    go_wp2
    go_roundg (gk - 1)
    case measure=>have:=HK.out;omega
    case rel=>exact⟨i+1,by go_num,⟨by have:=HK.out;omega⟩,HZ,b3'⟩
  ·have c0b:decide ((i:Int)<(l.length:Int))=false:=decide_eq_false (by omega)
   have HZ:Hid (idx p l 0= -1):=Lib.hid (by rw[HN.out,List.drop_of_length_le (by omega)];rfl)
   go_wp2
   go_ret
   exact HF.out _ _ HZ.out HW.out
theorem index_session_Of1 (v:Value)(l:List Sn)(p:Sn→Bool)(B0:Nat)(w:World)(h:Rs tySn 71 w v l)(hl:l.length≤100000)
  (hC:∀x W,x∈l→Below w.heap.size w W→Calls Tryz.prog 188 #[.agg #[.int .i64 1,.int .i64 x.seq,.bool x.busy,.string x.last,.int .i64 x.txn,.int .i64 0],.pointer (some ⟨B0,0,none⟩)] W fun e w'=>e= .returned (.bool (p x))∧Below W.heap.size W w'):
  Calls Tryz.prog 170 #[v,.func (.func 188) #[] #[.pointer (some ⟨B0,0,none⟩)]] w fun e w'=>e= .returned (.int .i64 (idx p l 0))∧Below w.heap.size w w':=by
 obtain⟨A,c,rfl,hc,-⟩:=at_Sn h
 have HR:=Lib.hid h
 have HL:=Lib.hid hl
 have HC:=Lib.hid hC
 have b0':Aside0 (Below w.heap.size w w):=⟨Below.refl _ _⟩
 have HF:Hid (∀(z:Int) (w':World),idx p l 0=z→Below w.heap.size w w'→(Ending.returned (.int .i64 z)=Ending.returned (.int .i64 (idx p l 0))∧Below w.heap.size w w')):=Lib.hid fun z w' h1 h2=>⟨by rw[h1],h2⟩
 clear h hl hC
 go_enter Tryz.func170,Tryz.ntmps170
 go_wp2
 go_loopg [8] l.length (fun kq v8 w'=>∃i:Nat,v8= .int .i64 i∧Aside0 (kq+i=l.length)∧Aside0 (idx p l 0=idx p (l.drop i) i)∧Aside0 (Below w.heap.size w w'))
 case atStart=>exact⟨0,rfl,⟨by omega⟩,⟨rfl⟩,b0'⟩
 case round=>
  obtain⟨i,rfl,HK,HN,HW⟩:=hrel
  clear b0'
  by_cases hi:i<l.length
  ·have c0b:decide ((i:Int)<(l.length:Int))=true:=decide_eq_true (by omega)
   obtain⟨A',c',e1,_,hat⟩:=at_Sn (HR.out.below HW.out)
   cases e1
   obtain⟨ad,e2,hx0,hx1,hx2,hx3,hx4,hx5⟩:=hat i hi
   subst e2
   clear hat
   have hp:((0:Int)≤(i:Int))=True:=eq_true (by omega)
   have hq:((i:Int)<(l.length:Int))=True:=eq_true (by omega)
   have hi40:(i:Int)≤100000:=by have:=HL.out;omega
   have HY:=Lib.hid (HC.out l[i] wr (List.getElem_mem hi) HW.out)
   cases hlg:p l[i] with
   |true=>
    have HZ:=Lib.hid (HN.out.trans (idx_hit p l i hi hlg))
    rw[hlg] at HY
    clear hlg
    generalize l[i]=x at hx0 hx1 hx2 hx3 hx4 hx5 HY
    go_wp2_with (go_at_call 188;refine HY.out.mono ?_;rintro e w3 ⟨rfl,b3⟩)
    have HB3:=Lib.hid b3
    clear b3
    go_wp2
    go_ret
    exact HF.out _ _ HZ.out (HW.out.trans (HB3.out.mono HW.out.size))
   |false=>
    have HZ:Aside0 (idx p l 0=idx p (l.drop (i+1)) ((i+1:Nat):Int)):=⟨HN.out.trans (idx_next p l i hi hlg)⟩
    rw[hlg] at HY
    clear hlg
    generalize l[i]=x at hx0 hx1 hx2 hx3 hx4 hx5 HY
    go_wp2_with (go_at_call 188;refine HY.out.mono ?_;rintro e w3 ⟨rfl,b3⟩)
    have b3':Aside0 (Below w.heap.size w w3):=⟨HW.out.trans (b3.mono HW.out.size)⟩
    clear b3
    go_wp2
    go_roundg (gk - 1)
    case measure=>have:=HK.out;omega
    case rel=>exact⟨i+1,by go_num,⟨by have:=HK.out;omega⟩,HZ,b3'⟩
  ·have c0b:decide ((i:Int)<(l.length:Int))=false:=decide_eq_false (by omega)
   have HZ:Hid (idx p l 0= -1):=Lib.hid (by rw[HN.out,List.drop_of_length_le (by omega)];rfl)
   go_wp2
   go_ret
   exact HF.out _ _ HZ.out HW.out
theorem index_engine_at1 (v:Value)(l:List Tx)(p:Tx→Bool)(B0:Nat)(w:World)(h:Rs tyTx 237 w v l)(hl:l.length≤100000)
  (hC:∀x W,x∈l→Below w.heap.size w W→Calls Tryz.prog 206 #[.agg #[.int .i64 1,.string x.token,.slice x.A x.n x.c,.bool false,.int .i64 0,.string ⟨#[]⟩,.string ⟨#[]⟩,.string ⟨#[]⟩,.string ⟨#[]⟩,.int .i64 0],.pointer (some ⟨B0,0,none⟩)] W fun e w'=>e= .returned (.bool (p x))∧Below W.heap.size W w'):
  Calls Tryz.prog 178 #[v,.func (.func 206) #[] #[.pointer (some ⟨B0,0,none⟩)]] w fun e w'=>e= .returned (.int .i64 (idx p l 0))∧Below w.heap.size w w':=by
 obtain⟨A,c,rfl,hc,-⟩:=at_Tx h
 have HR:=Lib.hid h
 have HL:=Lib.hid hl
 have HC:=Lib.hid hC
 have b0':Aside0 (Below w.heap.size w w):=⟨Below.refl _ _⟩
 have HF:Hid (∀(z:Int) (w':World),idx p l 0=z→Below w.heap.size w w'→(Ending.returned (.int .i64 z)=Ending.returned (.int .i64 (idx p l 0))∧Below w.heap.size w w')):=Lib.hid fun z w' h1 h2=>⟨by rw[h1],h2⟩
 clear h hl hC
 go_enter Tryz.func178,Tryz.ntmps178
 go_wp2
 go_loopg [8] l.length (fun kq v8 w'=>∃i:Nat,v8= .int .i64 i∧Aside0 (kq+i=l.length)∧Aside0 (idx p l 0=idx p (l.drop i) i)∧Aside0 (Below w.heap.size w w'))
 case atStart=>exact⟨0,rfl,⟨by omega⟩,⟨rfl⟩,b0'⟩
 case round=>
  obtain⟨i,rfl,HK,HN,HW⟩:=hrel
  clear b0'
  by_cases hi:i<l.length
  ·have c0b:decide ((i:Int)<(l.length:Int))=true:=decide_eq_true (by omega)
   obtain⟨A',c',e1,_,hat⟩:=at_Tx (HR.out.below HW.out)
   cases e1
   obtain⟨ad,e2,hx0,hx1,hx2,hx3,hx4,hx5,hx6,hx7,hx8,hx9⟩:=hat i hi
   subst e2
   clear hat
   have hp:((0:Int)≤(i:Int))=True:=eq_true (by omega)
   have hq:((i:Int)<(l.length:Int))=True:=eq_true (by omega)
   have hi40:(i:Int)≤100000:=by have:=HL.out;omega
   have HY:=Lib.hid (HC.out l[i] wr (List.getElem_mem hi) HW.out)
   cases hlg:p l[i] with
   |true=>
    have HZ:=Lib.hid (HN.out.trans (idx_hit p l i hi hlg))
    rw[hlg] at HY
    clear hlg
    generalize l[i]=x at hx0 hx1 hx2 hx3 hx4 hx5 hx6 hx7 hx8 hx9 HY
    go_wp2_with (go_at_call 206;refine HY.out.mono ?_;rintro e w3 ⟨rfl,b3⟩)
    have HB3:=Lib.hid b3
    clear b3
    go_wp2
    go_ret
    exact HF.out _ _ HZ.out (HW.out.trans (HB3.out.mono HW.out.size))
   |false=>
    have HZ:Aside0 (idx p l 0=idx p (l.drop (i+1)) ((i+1:Nat):Int)):=⟨HN.out.trans (idx_next p l i hi hlg)⟩
    rw[hlg] at HY
    clear hlg
    generalize l[i]=x at hx0 hx1 hx2 hx3 hx4 hx5 hx6 hx7 hx8 hx9 HY
    go_wp2_with (go_at_call 206;refine HY.out.mono ?_;rintro e w3 ⟨rfl,b3⟩)
    have b3':Aside0 (Below w.heap.size w w3):=⟨HW.out.trans (b3.mono HW.out.size)⟩
    clear b3
    go_wp2
    go_roundg (gk - 1)
    case measure=>have:=HK.out;omega
    case rel=>exact⟨i+1,by go_num,⟨by have:=HK.out;omega⟩,HZ,b3'⟩
  ·have c0b:decide ((i:Int)<(l.length:Int))=false:=decide_eq_false (by omega)
   have HZ:Hid (idx p l 0= -1):=Lib.hid (by rw[HN.out,List.drop_of_length_le (by omega)];rfl)
   go_wp2
   go_ret
   exact HF.out _ _ HZ.out HW.out
theorem index_engine_work_goes1 (v:Value)(l:List Tx)(p:Tx→Bool)(B0:Nat)(w:World)(h:Rs tyTx 237 w v l)(hl:l.length≤100000)
  (hC:∀x W,x∈l→Below w.heap.size w W→Calls Tryz.prog 204 #[.agg #[.int .i64 1,.string x.token,.slice x.A x.n x.c,.bool false,.int .i64 0,.string ⟨#[]⟩,.string ⟨#[]⟩,.string ⟨#[]⟩,.string ⟨#[]⟩,.int .i64 0],.pointer (some ⟨B0,0,none⟩)] W fun e w'=>e= .returned (.bool (p x))∧Below W.heap.size W w'):
  Calls Tryz.prog 178 #[v,.func (.func 204) #[] #[.pointer (some ⟨B0,0,none⟩)]] w fun e w'=>e= .returned (.int .i64 (idx p l 0))∧Below w.heap.size w w':=by
 obtain⟨A,c,rfl,hc,-⟩:=at_Tx h
 have HR:=Lib.hid h
 have HL:=Lib.hid hl
 have HC:=Lib.hid hC
 have b0':Aside0 (Below w.heap.size w w):=⟨Below.refl _ _⟩
 have HF:Hid (∀(z:Int) (w':World),idx p l 0=z→Below w.heap.size w w'→(Ending.returned (.int .i64 z)=Ending.returned (.int .i64 (idx p l 0))∧Below w.heap.size w w')):=Lib.hid fun z w' h1 h2=>⟨by rw[h1],h2⟩
 clear h hl hC
 go_enter Tryz.func178,Tryz.ntmps178
 go_wp2
 go_loopg [8] l.length (fun kq v8 w'=>∃i:Nat,v8= .int .i64 i∧Aside0 (kq+i=l.length)∧Aside0 (idx p l 0=idx p (l.drop i) i)∧Aside0 (Below w.heap.size w w'))
 case atStart=>exact⟨0,rfl,⟨by omega⟩,⟨rfl⟩,b0'⟩
 case round=>
  obtain⟨i,rfl,HK,HN,HW⟩:=hrel
  clear b0'
  by_cases hi:i<l.length
  ·have c0b:decide ((i:Int)<(l.length:Int))=true:=decide_eq_true (by omega)
   obtain⟨A',c',e1,_,hat⟩:=at_Tx (HR.out.below HW.out)
   cases e1
   obtain⟨ad,e2,hx0,hx1,hx2,hx3,hx4,hx5,hx6,hx7,hx8,hx9⟩:=hat i hi
   subst e2
   clear hat
   have hp:((0:Int)≤(i:Int))=True:=eq_true (by omega)
   have hq:((i:Int)<(l.length:Int))=True:=eq_true (by omega)
   have hi40:(i:Int)≤100000:=by have:=HL.out;omega
   have HY:=Lib.hid (HC.out l[i] wr (List.getElem_mem hi) HW.out)
   cases hlg:p l[i] with
   |true=>
    have HZ:=Lib.hid (HN.out.trans (idx_hit p l i hi hlg))
    rw[hlg] at HY
    clear hlg
    generalize l[i]=x at hx0 hx1 hx2 hx3 hx4 hx5 hx6 hx7 hx8 hx9 HY
    go_wp2_with (go_at_call 204;refine HY.out.mono ?_;rintro e w3 ⟨rfl,b3⟩)
    have HB3:=Lib.hid b3
    clear b3
    go_wp2
    go_ret
    exact HF.out _ _ HZ.out (HW.out.trans (HB3.out.mono HW.out.size))
   |false=>
    have HZ:Aside0 (idx p l 0=idx p (l.drop (i+1)) ((i+1:Nat):Int)):=⟨HN.out.trans (idx_next p l i hi hlg)⟩
    rw[hlg] at HY
    clear hlg
    generalize l[i]=x at hx0 hx1 hx2 hx3 hx4 hx5 hx6 hx7 hx8 hx9 HY
    go_wp2_with (go_at_call 204;refine HY.out.mono ?_;rintro e w3 ⟨rfl,b3⟩)
    have b3':Aside0 (Below w.heap.size w w3):=⟨HW.out.trans (b3.mono HW.out.size)⟩
    clear b3
    go_wp2
    go_roundg (gk - 1)
    case measure=>have:=HK.out;omega
    case rel=>exact⟨i+1,by go_num,⟨by have:=HK.out;omega⟩,HZ,b3'⟩
  ·have c0b:decide ((i:Int)<(l.length:Int))=false:=decide_eq_false (by omega)
   have HZ:Hid (idx p l 0= -1):=Lib.hid (by rw[HN.out,List.drop_of_length_le (by omega)];rfl)
   go_wp2
   go_ret
   exact HF.out _ _ HZ.out HW.out
theorem index_lock_Ask1 (v:Value)(l:List Hd)(p:Hd→Bool)(B0 B1:Nat)(w:World)(h:Rs tyHd 351 w v l)(hl:l.length≤100000)
  (hC:∀x W,x∈l→Below w.heap.size w W→Calls Tryz.prog 212 #[.agg #[.int .i64 1,.int .i64 x.mode,.string x.lo,.string x.hi],.pointer (some ⟨B0,0,none⟩),.pointer (some ⟨B1,0,none⟩)] W fun e w'=>e= .returned (.bool (p x))∧Below W.heap.size W w'):
  Calls Tryz.prog 242 #[v,.func (.func 212) #[] #[.pointer (some ⟨B0,0,none⟩),.pointer (some ⟨B1,0,none⟩)]] w fun e w'=>e= .returned (.int .i64 (idx p l 0))∧Below w.heap.size w w':=by
 obtain⟨A,c,rfl,hc,-⟩:=at_Hd h
 have HR:=Lib.hid h
 have HL:=Lib.hid hl
 have HC:=Lib.hid hC
 have b0':Aside0 (Below w.heap.size w w):=⟨Below.refl _ _⟩
 have HF:Hid (∀(z:Int) (w':World),idx p l 0=z→Below w.heap.size w w'→(Ending.returned (.int .i64 z)=Ending.returned (.int .i64 (idx p l 0))∧Below w.heap.size w w')):=Lib.hid fun z w' h1 h2=>⟨by rw[h1],h2⟩
 clear h hl hC
 go_enter Tryz.func242,Tryz.ntmps242
 go_wp2
 go_loopg [8] l.length (fun kq v8 w'=>∃i:Nat,v8= .int .i64 i∧Aside0 (kq+i=l.length)∧Aside0 (idx p l 0=idx p (l.drop i) i)∧Aside0 (Below w.heap.size w w'))
 case atStart=>exact⟨0,rfl,⟨by omega⟩,⟨rfl⟩,b0'⟩
 case round=>
  obtain⟨i,rfl,HK,HN,HW⟩:=hrel
  clear b0'
  by_cases hi:i<l.length
  ·have c0b:decide ((i:Int)<(l.length:Int))=true:=decide_eq_true (by omega)
   obtain⟨A',c',e1,_,hat⟩:=at_Hd (HR.out.below HW.out)
   cases e1
   obtain⟨ad,e2,hx0,hx1,hx2,hx3⟩:=hat i hi
   subst e2
   clear hat
   have hp:((0:Int)≤(i:Int))=True:=eq_true (by omega)
   have hq:((i:Int)<(l.length:Int))=True:=eq_true (by omega)
   have hi40:(i:Int)≤100000:=by have:=HL.out;omega
   have HY:=Lib.hid (HC.out l[i] wr (List.getElem_mem hi) HW.out)
   cases hlg:p l[i] with
   |true=>
    have HZ:=Lib.hid (HN.out.trans (idx_hit p l i hi hlg))
    rw[hlg] at HY
    clear hlg
    generalize l[i]=x at hx0 hx1 hx2 hx3 HY
    go_wp2_with (go_at_call 212;refine HY.out.mono ?_;rintro e w3 ⟨rfl,b3⟩)
    have HB3:=Lib.hid b3
    clear b3
    go_wp2
    go_ret
    exact HF.out _ _ HZ.out (HW.out.trans (HB3.out.mono HW.out.size))
   |false=>
    have HZ:Aside0 (idx p l 0=idx p (l.drop (i+1)) ((i+1:Nat):Int)):=⟨HN.out.trans (idx_next p l i hi hlg)⟩
    rw[hlg] at HY
    clear hlg
    generalize l[i]=x at hx0 hx1 hx2 hx3 HY
    go_wp2_with (go_at_call 212;refine HY.out.mono ?_;rintro e w3 ⟨rfl,b3⟩)
    have b3':Aside0 (Below w.heap.size w w3):=⟨HW.out.trans (b3.mono HW.out.size)⟩
    clear b3
    go_wp2
    go_roundg (gk - 1)
    case measure=>have:=HK.out;omega
    case rel=>exact⟨i+1,by go_num,⟨by have:=HK.out;omega⟩,HZ,b3'⟩
  ·have c0b:decide ((i:Int)<(l.length:Int))=false:=decide_eq_false (by omega)
   have HZ:Hid (idx p l 0= -1):=Lib.hid (by rw[HN.out,List.drop_of_length_le (by omega)];rfl)
   go_wp2
   go_ret
   exact HF.out _ _ HZ.out HW.out
theorem index_lock_Free1 (v:Value)(l:List Hd)(p:Hd→Bool)(B0:Nat)(w:World)(h:Rs tyHd 351 w v l)(hl:l.length≤100000)
  (hC:∀x W,x∈l→Below w.heap.size w W→Calls Tryz.prog 235 #[.agg #[.int .i64 1,.int .i64 x.mode,.string x.lo,.string x.hi],.pointer (some ⟨B0,0,none⟩)] W fun e w'=>e= .returned (.bool (p x))∧Below W.heap.size W w'):
  Calls Tryz.prog 242 #[v,.func (.func 235) #[] #[.pointer (some ⟨B0,0,none⟩)]] w fun e w'=>e= .returned (.int .i64 (idx p l 0))∧Below w.heap.size w w':=by
 obtain⟨A,c,rfl,hc,-⟩:=at_Hd h
 have HR:=Lib.hid h
 have HL:=Lib.hid hl
 have HC:=Lib.hid hC
 have b0':Aside0 (Below w.heap.size w w):=⟨Below.refl _ _⟩
 have HF:Hid (∀(z:Int) (w':World),idx p l 0=z→Below w.heap.size w w'→(Ending.returned (.int .i64 z)=Ending.returned (.int .i64 (idx p l 0))∧Below w.heap.size w w')):=Lib.hid fun z w' h1 h2=>⟨by rw[h1],h2⟩
 clear h hl hC
 go_enter Tryz.func242,Tryz.ntmps242
 go_wp2
 go_loopg [8] l.length (fun kq v8 w'=>∃i:Nat,v8= .int .i64 i∧Aside0 (kq+i=l.length)∧Aside0 (idx p l 0=idx p (l.drop i) i)∧Aside0 (Below w.heap.size w w'))
 case atStart=>exact⟨0,rfl,⟨by omega⟩,⟨rfl⟩,b0'⟩
 case round=>
  obtain⟨i,rfl,HK,HN,HW⟩:=hrel
  clear b0'
  by_cases hi:i<l.length
  ·have c0b:decide ((i:Int)<(l.length:Int))=true:=decide_eq_true (by omega)
   obtain⟨A',c',e1,_,hat⟩:=at_Hd (HR.out.below HW.out)
   cases e1
   obtain⟨ad,e2,hx0,hx1,hx2,hx3⟩:=hat i hi
   subst e2
   clear hat
   have hp:((0:Int)≤(i:Int))=True:=eq_true (by omega)
   have hq:((i:Int)<(l.length:Int))=True:=eq_true (by omega)
   have hi40:(i:Int)≤100000:=by have:=HL.out;omega
   have HY:=Lib.hid (HC.out l[i] wr (List.getElem_mem hi) HW.out)
   cases hlg:p l[i] with
   |true=>
    have HZ:=Lib.hid (HN.out.trans (idx_hit p l i hi hlg))
    rw[hlg] at HY
    clear hlg
    generalize l[i]=x at hx0 hx1 hx2 hx3 HY
    go_wp2_with (go_at_call 235;refine HY.out.mono ?_;rintro e w3 ⟨rfl,b3⟩)
    have HB3:=Lib.hid b3
    clear b3
    go_wp2
    go_ret
    exact HF.out _ _ HZ.out (HW.out.trans (HB3.out.mono HW.out.size))
   |false=>
    have HZ:Aside0 (idx p l 0=idx p (l.drop (i+1)) ((i+1:Nat):Int)):=⟨HN.out.trans (idx_next p l i hi hlg)⟩
    rw[hlg] at HY
    clear hlg
    generalize l[i]=x at hx0 hx1 hx2 hx3 HY
    go_wp2_with (go_at_call 235;refine HY.out.mono ?_;rintro e w3 ⟨rfl,b3⟩)
    have b3':Aside0 (Below w.heap.size w w3):=⟨HW.out.trans (b3.mono HW.out.size)⟩
    clear b3
    go_wp2
    go_roundg (gk - 1)
    case measure=>have:=HK.out;omega
    case rel=>exact⟨i+1,by go_num,⟨by have:=HK.out;omega⟩,HZ,b3'⟩
  ·have c0b:decide ((i:Int)<(l.length:Int))=false:=decide_eq_false (by omega)
   have HZ:Hid (idx p l 0= -1):=Lib.hid (by rw[HN.out,List.drop_of_length_le (by omega)];rfl)
   go_wp2
   go_ret
   exact HF.out _ _ HZ.out HW.out
theorem index_batch_May1 (v:Value)(l:List Wr)(p:Wr→Bool)(w:World)(h:Rs tyWr 212 w v l)(hl:l.length≤100000)
  (hC:∀x W,x∈l→Below w.heap.size w W→Calls Tryz.prog 155 #[.agg #[.string x.key,.string x.val,.bool x.del]] W fun e w'=>e= .returned (.bool (p x))∧Below W.heap.size W w'):
  Calls Tryz.prog 194 #[v,.func (.func 155) #[] #[]] w fun e w'=>e= .returned (.int .i64 (idx p l 0))∧Below w.heap.size w w':=by
 obtain⟨A,c,rfl,hc,-⟩:=at_Wr h
 have HR:=Lib.hid h
 have HL:=Lib.hid hl
 have HC:=Lib.hid hC
 have b0':Aside0 (Below w.heap.size w w):=⟨Below.refl _ _⟩
 have HF:Hid (∀(z:Int) (w':World),idx p l 0=z→Below w.heap.size w w'→(Ending.returned (.int .i64 z)=Ending.returned (.int .i64 (idx p l 0))∧Below w.heap.size w w')):=Lib.hid fun z w' h1 h2=>⟨by rw[h1],h2⟩
 clear h hl hC
 go_enter Tryz.func194,Tryz.ntmps194
 go_wp2
 go_loopg [8] l.length (fun kq v8 w'=>∃i:Nat,v8= .int .i64 i∧Aside0 (kq+i=l.length)∧Aside0 (idx p l 0=idx p (l.drop i) i)∧Aside0 (Below w.heap.size w w'))
 case atStart=>exact⟨0,rfl,⟨by omega⟩,⟨rfl⟩,b0'⟩
 case round=>
  obtain⟨i,rfl,HK,HN,HW⟩:=hrel
  clear b0'
  by_cases hi:i<l.length
  ·have c0b:decide ((i:Int)<(l.length:Int))=true:=decide_eq_true (by omega)
   obtain⟨A',c',e1,_,hat⟩:=at_Wr (HR.out.below HW.out)
   cases e1
   obtain⟨ad,e2,hx0,hx1,hx2⟩:=hat i hi
   subst e2
   clear hat
   have hp:((0:Int)≤(i:Int))=True:=eq_true (by omega)
   have hq:((i:Int)<(l.length:Int))=True:=eq_true (by omega)
   have hi40:(i:Int)≤100000:=by have:=HL.out;omega
   have HY:=Lib.hid (HC.out l[i] wr (List.getElem_mem hi) HW.out)
   cases hlg:p l[i] with
   |true=>
    have HZ:=Lib.hid (HN.out.trans (idx_hit p l i hi hlg))
    rw[hlg] at HY
    clear hlg
    generalize l[i]=x at hx0 hx1 hx2 HY
    go_wp2_with (go_at_call 155;refine HY.out.mono ?_;rintro e w3 ⟨rfl,b3⟩)
    have HB3:=Lib.hid b3
    clear b3
    go_wp2
    go_ret
    exact HF.out _ _ HZ.out (HW.out.trans (HB3.out.mono HW.out.size))
   |false=>
    have HZ:Aside0 (idx p l 0=idx p (l.drop (i+1)) ((i+1:Nat):Int)):=⟨HN.out.trans (idx_next p l i hi hlg)⟩
    rw[hlg] at HY
    clear hlg
    generalize l[i]=x at hx0 hx1 hx2 HY
    go_wp2_with (go_at_call 155;refine HY.out.mono ?_;rintro e w3 ⟨rfl,b3⟩)
    have b3':Aside0 (Below w.heap.size w w3):=⟨HW.out.trans (b3.mono HW.out.size)⟩
    clear b3
    go_wp2
    go_roundg (gk - 1)
    case measure=>have:=HK.out;omega
    case rel=>exact⟨i+1,by go_num,⟨by have:=HK.out;omega⟩,HZ,b3'⟩
  ·have c0b:decide ((i:Int)<(l.length:Int))=false:=decide_eq_false (by omega)
   have HZ:Hid (idx p l 0= -1):=Lib.hid (by rw[HN.out,List.drop_of_length_le (by omega)];rfl)
   go_wp2
   go_ret
   exact HF.out _ _ HZ.out HW.out
def MadeV {α:Type}(T:Ty α)(e:TypeId)(l:List α)(w:World)(en:Ending)(w':World):Prop:=∃v,en= .returned v∧w'.ownsRow w.heap.size e T.sz v l.length (T.all l)∧Below w.heap.size w w'
theorem infoFl:(Tryz.prog.info? 129).map (fun i=>(i.zero,i.size,i.bytes))=some (some (.agg #[.string ByteArray.empty,.string ByteArray.empty,.string ByteArray.empty]),3,48):=by kernel_rfl
theorem clone_nil_Fl (w:World):Calls Tryz.prog 95 #[.slice none 0 0] w fun e w'=>e= .returned (.slice none 0 0)∧w'=w:=by
 have hnl:∀W:World,(binOp .eql 26 (.slice none 0 0) (.slice none 0 0)).run Tryz.prog W= .ok (.bool true) W:=fun W=>Lib.run_eql_slice_nil W 26 129 _ _ _ _ _ Tryz.underlying26
 go_enter Tryz.func95,Tryz.ntmps95
 go_wp2
 go_ret
 exact⟨rfl,rfl⟩
theorem clone_Fl (v:Value)(l:List Fl)(w:World)(h:Rs tyFl 129 w v l)(hn:l.length≤100000):
  Calls Tryz.prog 95 #[v] w (MadeV tyFl 129 l w):=by
 rcases h with⟨rfl,rfl⟩|⟨b,c,cur,fr,rfl,hc,hblk,hcur⟩
 ·refine(clone_nil_Fl w).mono ?_
  rintro e w' ⟨rfl,rfl⟩
  exact⟨_,rfl,World.ownsRow_nil _ _ _ _,Below.refl _ _⟩
 have hb:b<w.heap.size:=blk_lt hblk
 have hcell:∀(j:Nat) (u:Value),(tyFl.all l)[j]? =some u→w.cell? ⟨b,j,none⟩=some u:=fun j u hj=>by rw[cell_of_row w b _ cur 129 fr hblk];exact hcur _ _ hj
 obtain⟨i0,hi,hz0,hz1,hz2⟩:=info_parts infoFl
 have HF:Hid (∀v w',w'.ownsRow w.heap.size 129 tyFl.sz v l.length (tyFl.all l)→Below w.heap.size w w'→MadeV tyFl 129 l w (.returned v) w'):=Lib.hid fun v w' h1 h2=>⟨v,rfl,h1,h2⟩
 have HC:=Lib.hid hcell
 have HB:=Lib.hid hb
 have HN:=Lib.hid hn
 clear hblk hcur hcell hb hn
 have hnl:∀W:World,(binOp .eql 26 (.slice (some ⟨b,0,none⟩) l.length c) (.slice none 0 0)).run Tryz.prog W= .ok (.bool false) W:=fun W=>Lib.run_eql_slice_nil W 26 129 _ _ _ _ _ Tryz.underlying26
 have HO:Hid ((w.alloc (.cells #[] 129)).ownsRow w.heap.size 129 3 (.slice (some ⟨w.heap.size,0,none⟩) 0 0) 0 []):=Lib.hid (World.ownsRow_made w #[] 0 (Nat.le_refl _) (Nat.zero_le _) rfl)
 go_enter Tryz.func95,Tryz.ntmps95
 go_wp2_with (at_builtin;refine wpList_append_own_at _ rfl _ _ 26 rfl w.heap.size 129 i0 _ 3 48 Tryz.underlying26 hi hz0 hz1 hz2 rfl (by decide) _ 0 [] rfl HO.out ⟨b,0,none⟩ l.length c (tyFl.all l) rfl ?c1 ?c2 ?c3 ?c4 ?c5 ?c6 ?_)
 case c1=>exact tyFl.all_len l
 case c2=>
  intro j u hj
  have h:=HC.out j u hj
  rw[add0]
  exact((Below.refl _ w).alloc (Nat.le_refl _) (.cells #[] 129)).cell (p:=⟨b,j,none⟩) HB.out▸h
 case c3=>exact tyFl.all_one l
 case c4=>have:=HN.out;unfold maxLen;omega
 case c5=>have:=HN.out;omega
 case c6=>simp
 intro v' w1 hown1 hg _ _
 have HO1:=Lib.hid hown1
 have HG:=Lib.hid hg
 clear hown1 hg
 go_wp2
 go_ret
 exact HF.out _ _ HO1.out (((Below.refl _ w).alloc (Nat.le_refl _) _).grown HG.out (by simp) (fun k hk=>by simp[Value.ownBlock] at hk;omega))
theorem infoPr:(Tryz.prog.info? 123).map (fun i=>(i.zero,i.size,i.bytes))=some (some (.agg #[.string ByteArray.empty,.string ByteArray.empty]),2,32):=by kernel_rfl
theorem clone_nil_Pr (w:World):Calls Tryz.prog 158 #[.slice none 0 0] w fun e w'=>e= .returned (.slice none 0 0)∧w'=w:=by
 have hnl:∀W:World,(binOp .eql 31 (.slice none 0 0) (.slice none 0 0)).run Tryz.prog W= .ok (.bool true) W:=fun W=>Lib.run_eql_slice_nil W 31 123 _ _ _ _ _ Tryz.underlying31
 go_enter Tryz.func158,Tryz.ntmps158
 go_wp2
 go_ret
 exact⟨rfl,rfl⟩
theorem clone_Pr (v:Value)(l:List Pr)(w:World)(h:Rs tyPr 123 w v l)(hn:l.length≤100000):
  Calls Tryz.prog 158 #[v] w (MadeV tyPr 123 l w):=by
 rcases h with⟨rfl,rfl⟩|⟨b,c,cur,fr,rfl,hc,hblk,hcur⟩
 ·refine(clone_nil_Pr w).mono ?_
  rintro e w' ⟨rfl,rfl⟩
  exact⟨_,rfl,World.ownsRow_nil _ _ _ _,Below.refl _ _⟩
 have hb:b<w.heap.size:=blk_lt hblk
 have hcell:∀(j:Nat) (u:Value),(tyPr.all l)[j]? =some u→w.cell? ⟨b,j,none⟩=some u:=fun j u hj=>by rw[cell_of_row w b _ cur 123 fr hblk];exact hcur _ _ hj
 obtain⟨i0,hi,hz0,hz1,hz2⟩:=info_parts infoPr
 have HF:Hid (∀v w',w'.ownsRow w.heap.size 123 tyPr.sz v l.length (tyPr.all l)→Below w.heap.size w w'→MadeV tyPr 123 l w (.returned v) w'):=Lib.hid fun v w' h1 h2=>⟨v,rfl,h1,h2⟩
 have HC:=Lib.hid hcell
 have HB:=Lib.hid hb
 have HN:=Lib.hid hn
 clear hblk hcur hcell hb hn
 have hnl:∀W:World,(binOp .eql 31 (.slice (some ⟨b,0,none⟩) l.length c) (.slice none 0 0)).run Tryz.prog W= .ok (.bool false) W:=fun W=>Lib.run_eql_slice_nil W 31 123 _ _ _ _ _ Tryz.underlying31
 have HO:Hid ((w.alloc (.cells #[] 123)).ownsRow w.heap.size 123 2 (.slice (some ⟨w.heap.size,0,none⟩) 0 0) 0 []):=Lib.hid (World.ownsRow_made w #[] 0 (Nat.le_refl _) (Nat.zero_le _) rfl)
 go_enter Tryz.func158,Tryz.ntmps158
 go_wp2_with (at_builtin;refine wpList_append_own_at _ rfl _ _ 31 rfl w.heap.size 123 i0 _ 2 32 Tryz.underlying31 hi hz0 hz1 hz2 rfl (by decide) _ 0 [] rfl HO.out ⟨b,0,none⟩ l.length c (tyPr.all l) rfl ?c1 ?c2 ?c3 ?c4 ?c5 ?c6 ?_)
 case c1=>exact tyPr.all_len l
 case c2=>
  intro j u hj
  have h:=HC.out j u hj
  rw[add0]
  exact((Below.refl _ w).alloc (Nat.le_refl _) (.cells #[] 123)).cell (p:=⟨b,j,none⟩) HB.out▸h
 case c3=>exact tyPr.all_one l
 case c4=>have:=HN.out;unfold maxLen;omega
 case c5=>have:=HN.out;omega
 case c6=>simp
 intro v' w1 hown1 hg _ _
 have HO1:=Lib.hid hown1
 have HG:=Lib.hid hg
 clear hown1 hg
 go_wp2
 go_ret
 exact HF.out _ _ HO1.out (((Below.refl _ w).alloc (Nat.le_refl _) _).grown HG.out (by simp) (fun k hk=>by simp[Value.ownBlock] at hk;omega))
theorem infoWr:(Tryz.prog.info? 212).map (fun i=>(i.zero,i.size,i.bytes))=some (some (.agg #[.string ByteArray.empty,.string ByteArray.empty,.bool false]),3,40):=by kernel_rfl
theorem clone_nil_Wr (w:World):Calls Tryz.prog 250 #[.slice none 0 0] w fun e w'=>e= .returned (.slice none 0 0)∧w'=w:=by
 have hnl:∀W:World,(binOp .eql 139 (.slice none 0 0) (.slice none 0 0)).run Tryz.prog W= .ok (.bool true) W:=fun W=>Lib.run_eql_slice_nil W 139 212 _ _ _ _ _ Tryz.underlying139
 go_enter Tryz.func250,Tryz.ntmps250
 go_wp2
 go_ret
 exact⟨rfl,rfl⟩
theorem clone_Wr (v:Value)(l:List Wr)(w:World)(h:Rs tyWr 212 w v l)(hn:l.length≤100000):
  Calls Tryz.prog 250 #[v] w (MadeV tyWr 212 l w):=by
 rcases h with⟨rfl,rfl⟩|⟨b,c,cur,fr,rfl,hc,hblk,hcur⟩
 ·refine(clone_nil_Wr w).mono ?_
  rintro e w' ⟨rfl,rfl⟩
  exact⟨_,rfl,World.ownsRow_nil _ _ _ _,Below.refl _ _⟩
 have hb:b<w.heap.size:=blk_lt hblk
 have hcell:∀(j:Nat) (u:Value),(tyWr.all l)[j]? =some u→w.cell? ⟨b,j,none⟩=some u:=fun j u hj=>by rw[cell_of_row w b _ cur 212 fr hblk];exact hcur _ _ hj
 obtain⟨i0,hi,hz0,hz1,hz2⟩:=info_parts infoWr
 have HF:Hid (∀v w',w'.ownsRow w.heap.size 212 tyWr.sz v l.length (tyWr.all l)→Below w.heap.size w w'→MadeV tyWr 212 l w (.returned v) w'):=Lib.hid fun v w' h1 h2=>⟨v,rfl,h1,h2⟩
 have HC:=Lib.hid hcell
 have HB:=Lib.hid hb
 have HN:=Lib.hid hn
 clear hblk hcur hcell hb hn
 have hnl:∀W:World,(binOp .eql 139 (.slice (some ⟨b,0,none⟩) l.length c) (.slice none 0 0)).run Tryz.prog W= .ok (.bool false) W:=fun W=>Lib.run_eql_slice_nil W 139 212 _ _ _ _ _ Tryz.underlying139
 have HO:Hid ((w.alloc (.cells #[] 212)).ownsRow w.heap.size 212 3 (.slice (some ⟨w.heap.size,0,none⟩) 0 0) 0 []):=Lib.hid (World.ownsRow_made w #[] 0 (Nat.le_refl _) (Nat.zero_le _) rfl)
 go_enter Tryz.func250,Tryz.ntmps250
 go_wp2_with (at_builtin;refine wpList_append_own_at _ rfl _ _ 139 rfl w.heap.size 212 i0 _ 3 40 Tryz.underlying139 hi hz0 hz1 hz2 rfl (by decide) _ 0 [] rfl HO.out ⟨b,0,none⟩ l.length c (tyWr.all l) rfl ?c1 ?c2 ?c3 ?c4 ?c5 ?c6 ?_)
 case c1=>exact tyWr.all_len l
 case c2=>
  intro j u hj
  have h:=HC.out j u hj
  rw[add0]
  exact((Below.refl _ w).alloc (Nat.le_refl _) (.cells #[] 212)).cell (p:=⟨b,j,none⟩) HB.out▸h
 case c3=>exact tyWr.all_one l
 case c4=>have:=HN.out;unfold maxLen;omega
 case c5=>have:=HN.out;omega
 case c6=>simp
 intro v' w1 hown1 hg _ _
 have HO1:=Lib.hid hown1
 have HG:=Lib.hid hg
 clear hown1 hg
 go_wp2
 go_ret
 exact HF.out _ _ HO1.out (((Below.refl _ w).alloc (Nat.le_refl _) _).grown HG.out (by simp) (fun k hk=>by simp[Value.ownBlock] at hk;omega))
theorem infoBf:(Tryz.prog.info? 83).map (fun i=>(i.zero,i.size,i.bytes))=some (some (.agg #[.string ByteArray.empty,.bool false]),2,24):=by kernel_rfl
theorem clone_nil_Bf (w:World):Calls Tryz.prog 16 #[.slice none 0 0] w fun e w'=>e= .returned (.slice none 0 0)∧w'=w:=by
 have hnl:∀W:World,(binOp .eql 48 (.slice none 0 0) (.slice none 0 0)).run Tryz.prog W= .ok (.bool true) W:=fun W=>Lib.run_eql_slice_nil W 48 83 _ _ _ _ _ Tryz.underlying48
 go_enter Tryz.func16,Tryz.ntmps16
 go_wp2
 go_ret
 exact⟨rfl,rfl⟩
theorem clone_Bf (v:Value)(l:List Bf)(w:World)(h:Rs tyBf 83 w v l)(hn:l.length≤100000):
  Calls Tryz.prog 16 #[v] w (MadeV tyBf 83 l w):=by
 rcases h with⟨rfl,rfl⟩|⟨b,c,cur,fr,rfl,hc,hblk,hcur⟩
 ·refine(clone_nil_Bf w).mono ?_
  rintro e w' ⟨rfl,rfl⟩
  exact⟨_,rfl,World.ownsRow_nil _ _ _ _,Below.refl _ _⟩
 have hb:b<w.heap.size:=blk_lt hblk
 have hcell:∀(j:Nat) (u:Value),(tyBf.all l)[j]? =some u→w.cell? ⟨b,j,none⟩=some u:=fun j u hj=>by rw[cell_of_row w b _ cur 83 fr hblk];exact hcur _ _ hj
 obtain⟨i0,hi,hz0,hz1,hz2⟩:=info_parts infoBf
 have HF:Hid (∀v w',w'.ownsRow w.heap.size 83 tyBf.sz v l.length (tyBf.all l)→Below w.heap.size w w'→MadeV tyBf 83 l w (.returned v) w'):=Lib.hid fun v w' h1 h2=>⟨v,rfl,h1,h2⟩
 have HC:=Lib.hid hcell
 have HB:=Lib.hid hb
 have HN:=Lib.hid hn
 clear hblk hcur hcell hb hn
 have hnl:∀W:World,(binOp .eql 48 (.slice (some ⟨b,0,none⟩) l.length c) (.slice none 0 0)).run Tryz.prog W= .ok (.bool false) W:=fun W=>Lib.run_eql_slice_nil W 48 83 _ _ _ _ _ Tryz.underlying48
 have HO:Hid ((w.alloc (.cells #[] 83)).ownsRow w.heap.size 83 2 (.slice (some ⟨w.heap.size,0,none⟩) 0 0) 0 []):=Lib.hid (World.ownsRow_made w #[] 0 (Nat.le_refl _) (Nat.zero_le _) rfl)
 go_enter Tryz.func16,Tryz.ntmps16
 go_wp2_with (at_builtin;refine wpList_append_own_at _ rfl _ _ 48 rfl w.heap.size 83 i0 _ 2 24 Tryz.underlying48 hi hz0 hz1 hz2 rfl (by decide) _ 0 [] rfl HO.out ⟨b,0,none⟩ l.length c (tyBf.all l) rfl ?c1 ?c2 ?c3 ?c4 ?c5 ?c6 ?_)
 case c1=>exact tyBf.all_len l
 case c2=>
  intro j u hj
  have h:=HC.out j u hj
  rw[add0]
  exact((Below.refl _ w).alloc (Nat.le_refl _) (.cells #[] 83)).cell (p:=⟨b,j,none⟩) HB.out▸h
 case c3=>exact tyBf.all_one l
 case c4=>have:=HN.out;unfold maxLen;omega
 case c5=>have:=HN.out;omega
 case c6=>simp
 intro v' w1 hown1 hg _ _
 have HO1:=Lib.hid hown1
 have HG:=Lib.hid hg
 clear hown1 hg
 go_wp2
 go_ret
 exact HF.out _ _ HO1.out (((Below.refl _ w).alloc (Nat.le_refl _) _).grown HG.out (by simp) (fun k hk=>by simp[Value.ownBlock] at hk;omega))
theorem infoAl:(Tryz.prog.info? 300).map (fun i=>(i.zero,i.size,i.bytes))=some (some (.agg #[.int .u64 0,.int .i64 0]),2,16):=by kernel_rfl
theorem clone_nil_Al (w:World):Calls Tryz.prog 201 #[.slice none 0 0] w fun e w'=>e= .returned (.slice none 0 0)∧w'=w:=by
 have hnl:∀W:World,(binOp .eql 45 (.slice none 0 0) (.slice none 0 0)).run Tryz.prog W= .ok (.bool true) W:=fun W=>Lib.run_eql_slice_nil W 45 300 _ _ _ _ _ Tryz.underlying45
 go_enter Tryz.func201,Tryz.ntmps201
 go_wp2
 go_ret
 exact⟨rfl,rfl⟩
theorem infoSn:(Tryz.prog.info? 71).map (fun i=>(i.zero,i.size,i.bytes))=some (some (.agg #[.int .i64 0,.int .i64 0,.bool false,.string ByteArray.empty,.int .i64 0,.int .i64 0]),6,56):=by kernel_rfl
theorem clone_nil_Sn (w:World):Calls Tryz.prog 116 #[.slice none 0 0] w fun e w'=>e= .returned (.slice none 0 0)∧w'=w:=by
 have hnl:∀W:World,(binOp .eql 44 (.slice none 0 0) (.slice none 0 0)).run Tryz.prog W= .ok (.bool true) W:=fun W=>Lib.run_eql_slice_nil W 44 71 _ _ _ _ _ Tryz.underlying44
 go_enter Tryz.func116,Tryz.ntmps116
 go_wp2
 go_ret
 exact⟨rfl,rfl⟩
theorem clone_Sn (v:Value)(l:List Sn)(w:World)(h:Rs tySn 71 w v l)(hn:l.length≤100000):
  Calls Tryz.prog 116 #[v] w (MadeV tySn 71 l w):=by
 rcases h with⟨rfl,rfl⟩|⟨b,c,cur,fr,rfl,hc,hblk,hcur⟩
 ·refine(clone_nil_Sn w).mono ?_
  rintro e w' ⟨rfl,rfl⟩
  exact⟨_,rfl,World.ownsRow_nil _ _ _ _,Below.refl _ _⟩
 have hb:b<w.heap.size:=blk_lt hblk
 have hcell:∀(j:Nat) (u:Value),(tySn.all l)[j]? =some u→w.cell? ⟨b,j,none⟩=some u:=fun j u hj=>by rw[cell_of_row w b _ cur 71 fr hblk];exact hcur _ _ hj
 obtain⟨i0,hi,hz0,hz1,hz2⟩:=info_parts infoSn
 have HF:Hid (∀v w',w'.ownsRow w.heap.size 71 tySn.sz v l.length (tySn.all l)→Below w.heap.size w w'→MadeV tySn 71 l w (.returned v) w'):=Lib.hid fun v w' h1 h2=>⟨v,rfl,h1,h2⟩
 have HC:=Lib.hid hcell
 have HB:=Lib.hid hb
 have HN:=Lib.hid hn
 clear hblk hcur hcell hb hn
 have hnl:∀W:World,(binOp .eql 44 (.slice (some ⟨b,0,none⟩) l.length c) (.slice none 0 0)).run Tryz.prog W= .ok (.bool false) W:=fun W=>Lib.run_eql_slice_nil W 44 71 _ _ _ _ _ Tryz.underlying44
 have HO:Hid ((w.alloc (.cells #[] 71)).ownsRow w.heap.size 71 6 (.slice (some ⟨w.heap.size,0,none⟩) 0 0) 0 []):=Lib.hid (World.ownsRow_made w #[] 0 (Nat.le_refl _) (Nat.zero_le _) rfl)
 go_enter Tryz.func116,Tryz.ntmps116
 go_wp2_with (at_builtin;refine wpList_append_own_at _ rfl _ _ 44 rfl w.heap.size 71 i0 _ 6 56 Tryz.underlying44 hi hz0 hz1 hz2 rfl (by decide) _ 0 [] rfl HO.out ⟨b,0,none⟩ l.length c (tySn.all l) rfl ?c1 ?c2 ?c3 ?c4 ?c5 ?c6 ?_)
 case c1=>exact tySn.all_len l
 case c2=>
  intro j u hj
  have h:=HC.out j u hj
  rw[add0]
  exact((Below.refl _ w).alloc (Nat.le_refl _) (.cells #[] 71)).cell (p:=⟨b,j,none⟩) HB.out▸h
 case c3=>exact tySn.all_one l
 case c4=>have:=HN.out;unfold maxLen;omega
 case c5=>have:=HN.out;omega
 case c6=>simp
 intro v' w1 hown1 hg _ _
 have HO1:=Lib.hid hown1
 have HG:=Lib.hid hg
 clear hown1 hg
 go_wp2
 go_ret
 exact HF.out _ _ HO1.out (((Below.refl _ w).alloc (Nat.le_refl _) _).grown HG.out (by simp) (fun k hk=>by simp[Value.ownBlock] at hk;omega))
theorem infoHd:(Tryz.prog.info? 351).map (fun i=>(i.zero,i.size,i.bytes))=some (some (.agg #[.int .i64 0,.int .i64 0,.string ByteArray.empty,.string ByteArray.empty]),4,48):=by kernel_rfl
theorem clone_nil_Hd (w:World):Calls Tryz.prog 218 #[.slice none 0 0] w fun e w'=>e= .returned (.slice none 0 0)∧w'=w:=by
 have hnl:∀W:World,(binOp .eql 36 (.slice none 0 0) (.slice none 0 0)).run Tryz.prog W= .ok (.bool true) W:=fun W=>Lib.run_eql_slice_nil W 36 351 _ _ _ _ _ Tryz.underlying36
 go_enter Tryz.func218,Tryz.ntmps218
 go_wp2
 go_ret
 exact⟨rfl,rfl⟩
theorem clone_Hd (v:Value)(l:List Hd)(w:World)(h:Rs tyHd 351 w v l)(hn:l.length≤100000):
  Calls Tryz.prog 218 #[v] w (MadeV tyHd 351 l w):=by
 rcases h with⟨rfl,rfl⟩|⟨b,c,cur,fr,rfl,hc,hblk,hcur⟩
 ·refine(clone_nil_Hd w).mono ?_
  rintro e w' ⟨rfl,rfl⟩
  exact⟨_,rfl,World.ownsRow_nil _ _ _ _,Below.refl _ _⟩
 have hb:b<w.heap.size:=blk_lt hblk
 have hcell:∀(j:Nat) (u:Value),(tyHd.all l)[j]? =some u→w.cell? ⟨b,j,none⟩=some u:=fun j u hj=>by rw[cell_of_row w b _ cur 351 fr hblk];exact hcur _ _ hj
 obtain⟨i0,hi,hz0,hz1,hz2⟩:=info_parts infoHd
 have HF:Hid (∀v w',w'.ownsRow w.heap.size 351 tyHd.sz v l.length (tyHd.all l)→Below w.heap.size w w'→MadeV tyHd 351 l w (.returned v) w'):=Lib.hid fun v w' h1 h2=>⟨v,rfl,h1,h2⟩
 have HC:=Lib.hid hcell
 have HB:=Lib.hid hb
 have HN:=Lib.hid hn
 clear hblk hcur hcell hb hn
 have hnl:∀W:World,(binOp .eql 36 (.slice (some ⟨b,0,none⟩) l.length c) (.slice none 0 0)).run Tryz.prog W= .ok (.bool false) W:=fun W=>Lib.run_eql_slice_nil W 36 351 _ _ _ _ _ Tryz.underlying36
 have HO:Hid ((w.alloc (.cells #[] 351)).ownsRow w.heap.size 351 4 (.slice (some ⟨w.heap.size,0,none⟩) 0 0) 0 []):=Lib.hid (World.ownsRow_made w #[] 0 (Nat.le_refl _) (Nat.zero_le _) rfl)
 go_enter Tryz.func218,Tryz.ntmps218
 go_wp2_with (at_builtin;refine wpList_append_own_at _ rfl _ _ 36 rfl w.heap.size 351 i0 _ 4 48 Tryz.underlying36 hi hz0 hz1 hz2 rfl (by decide) _ 0 [] rfl HO.out ⟨b,0,none⟩ l.length c (tyHd.all l) rfl ?c1 ?c2 ?c3 ?c4 ?c5 ?c6 ?_)
 case c1=>exact tyHd.all_len l
 case c2=>
  intro j u hj
  have h:=HC.out j u hj
  rw[add0]
  exact((Below.refl _ w).alloc (Nat.le_refl _) (.cells #[] 351)).cell (p:=⟨b,j,none⟩) HB.out▸h
 case c3=>exact tyHd.all_one l
 case c4=>have:=HN.out;unfold maxLen;omega
 case c5=>have:=HN.out;omega
 case c6=>simp
 intro v' w1 hown1 hg _ _
 have HO1:=Lib.hid hown1
 have HG:=Lib.hid hg
 clear hown1 hg
 go_wp2
 go_ret
 exact HF.out _ _ HO1.out (((Below.refl _ w).alloc (Nat.le_refl _) _).grown HG.out (by simp) (fun k hk=>by simp[Value.ownBlock] at hk;omega))
theorem infoTx:(Tryz.prog.info? 237).map (fun i=>(i.zero,i.size,i.bytes))=some (some (.agg #[.int .i64 0,.string ByteArray.empty,.slice none 0 0,.bool false,.int .i64 0,.string ByteArray.empty,.string ByteArray.empty,.string ByteArray.empty,.string ByteArray.empty,.int .i64 0]),10,136):=by kernel_rfl
theorem clone_nil_Tx (w:World):Calls Tryz.prog 176 #[.slice none 0 0] w fun e w'=>e= .returned (.slice none 0 0)∧w'=w:=by
 have hnl:∀W:World,(binOp .eql 40 (.slice none 0 0) (.slice none 0 0)).run Tryz.prog W= .ok (.bool true) W:=fun W=>Lib.run_eql_slice_nil W 40 237 _ _ _ _ _ Tryz.underlying40
 go_enter Tryz.func176,Tryz.ntmps176
 go_wp2
 go_ret
 exact⟨rfl,rfl⟩
theorem clone_Tx (v:Value)(l:List Tx)(w:World)(h:Rs tyTx 237 w v l)(hn:l.length≤100000):
  Calls Tryz.prog 176 #[v] w (MadeV tyTx 237 l w):=by
 rcases h with⟨rfl,rfl⟩|⟨b,c,cur,fr,rfl,hc,hblk,hcur⟩
 ·refine(clone_nil_Tx w).mono ?_
  rintro e w' ⟨rfl,rfl⟩
  exact⟨_,rfl,World.ownsRow_nil _ _ _ _,Below.refl _ _⟩
 have hb:b<w.heap.size:=blk_lt hblk
 have hcell:∀(j:Nat) (u:Value),(tyTx.all l)[j]? =some u→w.cell? ⟨b,j,none⟩=some u:=fun j u hj=>by rw[cell_of_row w b _ cur 237 fr hblk];exact hcur _ _ hj
 obtain⟨i0,hi,hz0,hz1,hz2⟩:=info_parts infoTx
 have HF:Hid (∀v w',w'.ownsRow w.heap.size 237 tyTx.sz v l.length (tyTx.all l)→Below w.heap.size w w'→MadeV tyTx 237 l w (.returned v) w'):=Lib.hid fun v w' h1 h2=>⟨v,rfl,h1,h2⟩
 have HC:=Lib.hid hcell
 have HB:=Lib.hid hb
 have HN:=Lib.hid hn
 clear hblk hcur hcell hb hn
 have hnl:∀W:World,(binOp .eql 40 (.slice (some ⟨b,0,none⟩) l.length c) (.slice none 0 0)).run Tryz.prog W= .ok (.bool false) W:=fun W=>Lib.run_eql_slice_nil W 40 237 _ _ _ _ _ Tryz.underlying40
 have HO:Hid ((w.alloc (.cells #[] 237)).ownsRow w.heap.size 237 10 (.slice (some ⟨w.heap.size,0,none⟩) 0 0) 0 []):=Lib.hid (World.ownsRow_made w #[] 0 (Nat.le_refl _) (Nat.zero_le _) rfl)
 go_enter Tryz.func176,Tryz.ntmps176
 go_wp2_with (at_builtin;refine wpList_append_own_at _ rfl _ _ 40 rfl w.heap.size 237 i0 _ 10 136 Tryz.underlying40 hi hz0 hz1 hz2 rfl (by decide) _ 0 [] rfl HO.out ⟨b,0,none⟩ l.length c (tyTx.all l) rfl ?c1 ?c2 ?c3 ?c4 ?c5 ?c6 ?_)
 case c1=>exact tyTx.all_len l
 case c2=>
  intro j u hj
  have h:=HC.out j u hj
  rw[add0]
  exact((Below.refl _ w).alloc (Nat.le_refl _) (.cells #[] 237)).cell (p:=⟨b,j,none⟩) HB.out▸h
 case c3=>exact tyTx.all_one l
 case c4=>have:=HN.out;unfold maxLen;omega
 case c5=>have:=HN.out;omega
 case c6=>simp
 intro v' w1 hown1 hg _ _
 have HO1:=Lib.hid hown1
 have HG:=Lib.hid hg
 clear hown1 hg
 go_wp2
 go_ret
 exact HF.out _ _ HO1.out (((Below.refl _ w).alloc (Nat.le_refl _) _).grown HG.out (by simp) (fun k hk=>by simp[Value.ownBlock] at hk;omega))
theorem clone_nil_Cl (w:World):Calls Tryz.prog 219 #[.slice none 0 0] w fun e w'=>e= .returned (.slice none 0 0)∧w'=w:=by
 have hnl:∀W:World,(binOp .eql 37 (.slice none 0 0) (.slice none 0 0)).run Tryz.prog W= .ok (.bool true) W:=fun W=>Lib.run_eql_slice_nil W 37 361 _ _ _ _ _ Tryz.underlying37
 go_enter Tryz.func219,Tryz.ntmps219
 go_wp2
 go_ret
 exact⟨rfl,rfl⟩
end Go.Proofs.YtmgmdiekpmffbaaGreatDoor.Top
