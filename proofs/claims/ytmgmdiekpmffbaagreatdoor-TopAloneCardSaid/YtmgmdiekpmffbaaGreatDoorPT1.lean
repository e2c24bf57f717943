/- Part of the proof of the statement TopAlone, as a card; what is proved, and on which condition, stands at the head of YtmgmdiekpmffbaaGreatDoorPT20 (texts WMore, SumMath, DecMath, Str, WTab, WFour, WFootNe, WAt, WEqStruct, WRepsOne, WInv, WInvWords, WGuard, DecFacts) -/
import Derived.WalkKit
import Derived.Laws.BytesArg
import Derived.Lib.Strings
import Derived.Laws.StructEq
import Derived.Test.YtmgmdiekpmffbaaGreatDoorPT0
set_option maxHeartbeats 64000000
set_option maxRecDepth 100000
set_option linter.unusedVariables false
set_option linter.unusedSimpArgs false
namespace Go.Proofs.YtmgmdiekpmffbaaGreatDoorW.PrintMore
open Go.RowKit Go.Proofs.YtmgmdiekpmffbaaGreatDoorW.PrintWords
namespace Kd
open Go.Proofs.YtmgmdiekpmffbaaGreatDoorW.PrintWords.Kd
end Kd
namespace Kd
open Go.Proofs.YtmgmdiekpmffbaaGreatDoorW.PrintWords.Kd
section
variable {α:Type} {d:Kd α} {e base g N:Nat} {ok:Nat→Prop} {W w1:World} {u v:Value} {xs:List α}
end
end Kd
theorem max2_int (k k':IntKind)(x y:Int):Builtin.max2 (.int k x) (.int k' y)=pure (.int k (if x<y then y else x)):=by simp only[Builtin.max2,gt_iff_lt]
theorem min2_int (k k':IntKind)(x y:Int):Builtin.min2 (.int k x) (.int k' y)=pure (.int k (if y<x then y else x)):=by simp only[Builtin.min2]
theorem max_two (ats:Array TypeId)(ty:TypeId)(a b:Value):Builtin.max_ ats ty #[a,b]=(Builtin.max2 a b >>= fun s=>pure s):=by simp only[Builtin.max_,List.foldlM_cons,List.foldlM_nil]
theorem min_two (ats:Array TypeId)(ty:TypeId)(a b:Value):Builtin.min_ ats ty #[a,b]=(Builtin.min2 a b >>= fun s=>pure s):=by simp only[Builtin.min_,List.foldlM_cons,List.foldlM_nil]
theorem max_three (ats:Array TypeId)(ty:TypeId)(a b c:Value):Builtin.max_ ats ty #[a,b,c]=(Builtin.max2 a b >>= fun s=>Builtin.max2 s c >>= fun s=>pure s):=by simp only[Builtin.max_,List.foldlM_cons,List.foldlM_nil]
theorem min_three (ats:Array TypeId)(ty:TypeId)(a b c:Value):Builtin.min_ ats ty #[a,b,c]=(Builtin.min2 a b >>= fun s=>Builtin.min2 s c >>= fun s=>pure s):=by simp only[Builtin.min_,List.foldlM_cons,List.foldlM_nil]
theorem max_four (ats:Array TypeId)(ty:TypeId)(a b c d:Value):Builtin.max_ ats ty #[a,b,c,d]=(Builtin.max2 a b >>= fun s=>Builtin.max2 s c >>= fun s=>Builtin.max2 s d >>= fun s=>pure s):=by simp only[Builtin.max_,List.foldlM_cons,List.foldlM_nil]
theorem min_four (ats:Array TypeId)(ty:TypeId)(a b c d:Value):Builtin.min_ ats ty #[a,b,c,d]=(Builtin.min2 a b >>= fun s=>Builtin.min2 s c >>= fun s=>Builtin.min2 s d >>= fun s=>pure s):=by simp only[Builtin.min_,List.foldlM_cons,List.foldlM_nil]
end Go.Proofs.YtmgmdiekpmffbaaGreatDoorW.PrintMore
namespace Go.Proofs.YtmgmdiekpmffbaaGreatDoorW.PrintWords
open Go.RowKit
section
variable {P:Program} {ops:Array Oper} {rest:List Oper} {o:Oper} {a:Act} {Q:Exit→Act→World→Prop} {W:World}
theorem gate_callee {f:FuncId}{as:Array Operand}{ts:Array TypeId}(_ho:o.op= .call { callee:= .value (.func f),args:=as,argTypes:=ts })(h:wpList P ops Q (o :: rest) a W):wpList P ops Q (o :: rest) a W:=h
theorem gate_builtin {b:Builtin}{xs:Array Operand}{ts:Array TypeId}(_ho:o.op= .call { callee:= .builtin b,args:=xs,argTypes:=ts })(h:wpList P ops Q (o :: rest) a W):wpList P ops Q (o :: rest) a W:=h
end
namespace Kd
section
variable {α:Type} {d:Kd α} {e base:Nat} {ok:Nat→Prop} {W w1:World} {v:Value} {xs:List α}
end
section
variable {α:Type} {d:Kd α} {e base g n cap:Nat} {ok oki okp:Nat→Prop} {W:World} {xs:List α} {i:Int} {c:List Value}
end
section
variable {α:Type} {d:Kd α} {e base b b' g N:Nat} {ok ok1:Nat→Prop} {W W2 w1:World} {u v:Value} {xs ys:List α} {S:Nat→Prop}
end
end Kd
end Go.Proofs.YtmgmdiekpmffbaaGreatDoorW.PrintWords
namespace Go.Proofs.YtmgmdiekpmffbaaGreatDoorW.PrintWords
open Go.RowKit
namespace Kd
def V {α:Type}(d:Kd α)(_e:Nat)(W:World)(_base:Nat)(ok:Nat→Prop)(v:Value)(xs:List α):Prop:=∃A c,v= .slice A xs.length c∧xs.length≤c∧F d W ok A xs.length xs
section
variable {α β:Type} {d:Kd α} {e base base' n m c g N' lo hi:Nat} {ok ok' S:Nat→Prop} {w W w1:World} {A:Option Addr} {ad:Addr} {u v v1:Value} {xs:List α}
end
end Kd
end Go.Proofs.YtmgmdiekpmffbaaGreatDoorW.PrintWords
namespace Go.Proofs.YtmgmdiekpmffbaaGreatDoor.SumM
open Go
def stepS (p:Nat×Nat)(c:UInt8):Nat×Nat:=((p.1+c.toNat) % 65521,(p.2+(p.1+c.toNat) % 65521) % 65521)
def sumL (p:Nat×Nat)(l:List UInt8):Nat×Nat:=l.foldl stepS p
def sumV (p:Nat×Nat):Nat:=65536*p.2+p.1
def ofS (s:ByteArray):Nat:=sumV (sumL (1,0) s.data.toList)
theorem sumL_nil (p:Nat×Nat):sumL p []=p:=rfl
theorem sumL_cons (p:Nat×Nat)(c:UInt8)(l:List UInt8):sumL p (c :: l)=sumL (stepS p c) l:=rfl
theorem sumL_append (p:Nat×Nat)(a b:List UInt8):sumL p (a++b)=sumL (sumL p a) b:=by simp[sumL,List.foldl_append]
theorem stepS_lt (p:Nat×Nat)(c:UInt8):(stepS p c).1<65521∧(stepS p c).2<65521:=⟨Nat.mod_lt _ (by omega),Nat.mod_lt _ (by omega)⟩
theorem sumL_lt (l:List UInt8):∀p:Nat×Nat,p.1<65521→p.2<65521→(sumL p l).1<65521∧(sumL p l).2<65521:=by
 induction l with
 |nil=>intro p h1 h2;exact⟨h1,h2⟩
 |cons c l ih=>
  intro p _ _
  rw[sumL_cons]
  exact ih _ (stepS_lt p c).1 (stepS_lt p c).2
theorem sum_lt (l:List UInt8):(sumL (1,0) l).1<65521∧(sumL (1,0) l).2<65521:=sumL_lt l (1,0) (by omega) (by omega)
theorem take_next (s:ByteArray)(k:Nat)(h:k<s.size):s.data.toList.take (k+1)=s.data.toList.take k++ [s[k]]:=by
 rw[List.take_succ_eq_append_getElem (by simpa using h)]
 rfl
end Go.Proofs.YtmgmdiekpmffbaaGreatDoor.SumM
namespace Go.Proofs.YtmgmdiekpmffbaaGreatDoor.DecM
open Go
def numL (n:Nat):List Int:=if n<10 then [48+(n:Int)] else numL (n / 10)++ [48+((n % 10:Nat):Int)]
termination_by n
theorem numL_small {n:Nat}(h:n<10):numL n= [48+(n:Int)]:=by
 rw[numL,if_pos h]
theorem numL_big {n:Nat}(h:¬n<10):numL n=numL (n / 10)++ [48+((n % 10:Nat):Int)]:=by
 rw[numL,if_neg h]
def numS (n:Nat):ByteArray:=strOfNums (numL n++ [59])
def two64:Nat:=18446744073709551616
theorem two64_eq:two64=18446744073709551616:=rfl
attribute [irreducible] two64
theorem set_drop (zs:List Int)(i:Nat)(c:Int)(h:i<zs.length):(zs.set i c).drop i=c :: zs.drop (i+1):=by
 rw[List.drop_eq_getElem_cons (by simpa using h)]
 simp[List.drop_set_of_lt]
theorem pow_step {u i:Nat}(h:u<10 ^ i)(h10:¬u<10):2≤i∧u / 10<10 ^ (i - 1):=by
 have h2:2≤i:=by
  rcases i with _|_|i
  ·simp at h;omega
  ·simp at h;omega
  ·omega
 refine⟨h2,?_⟩
 obtain⟨j,rfl⟩:∃j,i=j+1:=⟨i - 1,by omega⟩
 rw[Nat.pow_succ] at h
 simp only[Nat.add_sub_cancel]
 omega
theorem numL_len (d:Nat):∀n,n<10 ^ (d+1)→(numL n).length≤d+1:=by
 induction d with
 |zero=>
  intro n h
  rw[numL_small (by simpa using h)]
  simp
 |succ d ih=>
  intro n h
  by_cases h10:n<10
  ·rw [numL_small h10]
   simp
  ·rw [numL_big h10,List.length_append]
   have:=ih (n / 10) (by rw[Nat.pow_succ] at h;omega)
   simp
   omega
theorem numS_size (n:Nat)(h:n<18446744073709551616):(numS n).size≤21:=by
 unfold numS
 rw[strOfNums_size,List.length_append]
 have:=numL_len 19 n (by omega)
 simp
 omega
def isD (c:UInt8):Bool:=decide (48≤c.toNat)&&decide (c.toNat≤57)
theorem isD_iff (c:UInt8):isD c=true↔48≤c.toNat∧c.toNat≤57:=by simp[isD]
def vfrom (v:Nat)(l:List UInt8):Nat:=l.foldl (fun v c=>10*v+(c.toNat - 48)) v
def val (l:List UInt8):Nat:=vfrom 0 l
theorem vfrom_nil (v:Nat):vfrom v []=v:=rfl
theorem vfrom_cons (v:Nat)(c:UInt8)(l:List UInt8):vfrom v (c :: l)=vfrom (10*v+(c.toNat - 48)) l:=by
 simp only[vfrom,List.foldl_cons]
theorem vfrom_append (v:Nat)(a b:List UInt8):vfrom v (a++b)=vfrom (vfrom v a) b:=by simp[vfrom,List.foldl_append]
theorem vfrom_le (l:List UInt8):∀v,v≤vfrom v l:=by
 induction l with
 |nil=>intro v;exact Nat.le_refl _
 |cons c l ih=>
  intro v
  rw[vfrom_cons]
  have:=ih (10*v+(c.toNat - 48))
  omega
def nd (l:List UInt8):Nat:=(l.takeWhile isD).length
theorem nd_le (l:List UInt8):nd l≤l.length:=by
 unfold nd
 exact(List.takeWhile_prefix isD).length_le
theorem nd_take (l:List UInt8):l.take (nd l)=l.takeWhile isD:=by
 unfold nd
 exact(List.prefix_iff_eq_take.mp (List.takeWhile_prefix isD)).symm
theorem nd_digits (l:List UInt8)(c:UInt8)(h:c∈l.take (nd l)):isD c=true:=by
 rw[nd_take] at h
 exact(List.all_eq_true.mp (List.all_takeWhile (p:=isD) (l:=l))) c h
theorem nd_at (l:List UInt8)(i:Nat)(h:i<nd l):∃h2:i<l.length,isD l[i]=true:=by
 have h2:i<l.length:=Nat.lt_of_lt_of_le h (nd_le l)
 refine⟨h2,nd_digits l _ ?_⟩
 rw[List.mem_take_iff_getElem]
 exact⟨i,by omega,rfl⟩
theorem nd_stop (l:List UInt8)(h:nd l<l.length):isD l[nd l]=false:=by
 induction l with
 |nil=>simp at h
 |cons c l ih=>
  cases hc:isD c with
  |false=>
   have e:nd (c :: l)=0:=by simp[nd,hc]
   simp only[e,List.getElem_cons_zero,hc]
  |true=>
   have e:nd (c :: l)=nd l+1:=by simp[nd,hc]
   simp only[e,List.getElem_cons_succ]
   exact ih (by rw[e] at h;simpa using h)
def takeNum (s:ByteArray):Int×ByteArray×Int:=
 let l:=s.data.toList
 let n:=nd l
 if 20<n then(0,ByteArray.empty,3)
 else if(1<n∧l[0]? =some 48)∨¬val (l.take n)<two64∨(n<l.length∧(n=0∨¬l[n]? =some 59))then (0,ByteArray.empty,3)
 else if n=l.length then(0,ByteArray.empty,2)
 else((val (l.take n):Int),s.extract (n+1) s.size,0)
end Go.Proofs.YtmgmdiekpmffbaaGreatDoor.DecM
namespace Go.Proofs.YtmgmdiekpmffbaaGreatDoor
open Go
theorem bl_lt (a b:List UInt8):Op.bytesLess a b=decide (a<b):=by
 induction a generalizing b with
 |nil=>cases b <;> simp[Op.bytesLess]
 |cons x a ih=>
  cases b with
  |nil=>simp [Op.bytesLess]
  |cons y b=>
   have e:(x==y)=decide (x=y):=by
    by_cases h:x=y <;> simp[h]
   simp[Op.bytesLess,ih,List.cons_lt_cons_iff,e]
theorem bl_leq (a b:List UInt8):(Op.bytesLess a b||a==b)= !Op.bytesLess b a:=by
 rw[bl_lt,bl_lt]
 by_cases h:a=b
 ·subst h
  simp
 ·have e:(a==b)=false:=beq_eq_false_iff_ne.mpr h
  rw[e]
  by_cases h2:a<b
  ·have h3:¬b<a:=by grind
   simp[h2,h3]
  ·have h3:b<a:=by grind
   simp[h2,h3]
@[go_sem] theorem binOp_string_leq2 (t:TypeId) (a b:ByteArray):binOp .leq t (.string a) (.string b)=pure (.bool !(Op.bytesLess b.toList a.toList)):=by
 simp[binOp,Op.stringOp,bl_leq]
@[go_sem] theorem binOp_string_gtr2 (t:TypeId) (a b:ByteArray):binOp .gtr t (.string a) (.string b)=pure (.bool (Op.bytesLess b.toList a.toList)):=by
 simp[binOp,Op.stringOp,bl_leq]
@[go_sem] theorem binOp_string_geq2 (t:TypeId) (a b:ByteArray):binOp .geq t (.string a) (.string b)=pure (.bool !(Op.bytesLess a.toList b.toList)):=by
 simp[binOp,Op.stringOp]
end Go.Proofs.YtmgmdiekpmffbaaGreatDoor
namespace Go.Proofs.YtmgmdiekpmffbaaGreatDoorW.PrintLast
open Go.Proofs.YtmgmdiekpmffbaaGreatDoorW.PrintWords (Aside0)
def needsOf (md:Region.Mode)(o:Oper):List Nat:=(o.after.toList.filter (fun e=>Region.binds md e)).map (fun e=>e.on)
def clashOf (md:Region.Mode)(ops:Array Oper)(i:Nat)(oi:Oper):List Nat:=(List.range ops.size).filter fun j=> !(j==i)&&match ops[j]? with
 |some oj=> !(oj.after.any (fun e=>Region.binds md e&&e.on==i)||oi.apart ops oj)
 |none=>false
def rtab (md:Region.Mode)(ops:Array Oper):Bool×List (List Nat×List Nat):=(Region.noSelect ops,(List.range ops.size).map fun i=>match ops[i]? with
 |some o=>(needsOf md o,clashOf md ops i o)
 |none=>([],[]))
def readyAt (T:List (List Nat×List Nat))(l:List Bool)(i:Nat):Bool:= !l.getD i true&&match T[i]? with
 |some r=>r.1.all (fun j=>l.getD j false)
 |none=>false
def readyT (T:List (List Nat×List Nat))(l:List Bool):List Nat:=(List.range T.length).filter (readyAt T l)
def freeT (T:List (List Nat×List Nat))(l:List Bool)(i:Nat):Bool:=match T[i]? with
 |some r=>r.2.all (fun j=>l.getD j true)
 |none=>false
def closedT (T:List (List Nat×List Nat))(l:List Bool):Bool:=(List.range T.length).all fun j=> !l.getD j false||match T[j]? with
 |some r=>r.1.all (fun k=>l.getD k false)
 |none=>true
def reachT (T:List (List Nat×List Nat))(i:Nat):Nat→Nat→Bool
 |0,_=>false
 |fuel+1,d=>match T[d]? with
  |some r=>r.1.any fun j=>j==i||reachT T i fuel j
  |none=>false
def lastT (T:List (List Nat×List Nat))(l:List Bool)(ds:List Nat)(i:Nat):Bool:=ds.all fun d=>l.getD d true||reachT T i T.length d
section
variable {md:Region.Mode} {ops:Array Oper} {T:Bool×List (List Nat×List Nat)} {l l' li lj lk:Array Bool} {ds:List Nat} {i j k:Nat}
theorem gd (l:Array Bool)(j:Nat)(b:Bool):l.getD j b=l.toList.getD j b:=by simp[Array.getD_eq_getD_getElem?,List.getD_eq_getElem?_getD]
theorem needs_all (o:Oper)(p:Nat→Bool):o.after.all (fun e=> !Region.binds md e||p e.on)=(needsOf md o).all p:=by
 unfold needsOf
 rw[←Array.all_toList]
 induction o.after.toList with
 |nil=>rfl
 |cons e r ih=>
  rw[List.all_cons,ih,List.filter_cons]
  cases h:Region.binds md e <;> simp
theorem needs_any (o:Oper)(p:Nat→Bool):o.after.any (fun e=>Region.binds md e&&p e.on)=(needsOf md o).any p:=by
 unfold needsOf
 rw[←Array.any_toList]
 induction o.after.toList with
 |nil=>rfl
 |cons e r ih=>
  rw[List.any_cons,ih,List.filter_cons]
  cases h:Region.binds md e <;> simp
theorem rtab_length:(rtab md ops).2.length=ops.size:=by simp[rtab]
theorem rtab_some {o:Oper}(h:ops[i]? =some o):(rtab md ops).2[i]? =some (needsOf md o,clashOf md ops i o):=by
 have hi:=(Array.getElem?_eq_some_iff.1 h).1
 unfold rtab
 rw[List.getElem?_map,List.getElem?_range hi,Option.map_some,h]
theorem rtab_none (h:ops[i]? =none):(rtab md ops).2[i]? =none:=by
 have hi:ops.size≤i:=Array.getElem?_eq_none_iff.1 h
 exact List.getElem?_eq_none (by rw[rtab_length];exact hi)
theorem readyAt_eq:readyAt (rtab md ops).2 l.toList i=(!l.getD i true&&((ops[i]?).map (·.after.all fun e=> !Region.binds md e||l.getD e.on false)).getD false):=by
 unfold readyAt
 rw[gd]
 cases h:ops[i]? with
 |none=>rw [rtab_none h];rfl
 |some o=>
  rw[rtab_some h]
  simp only[Option.map_some,Option.getD_some]
  rw[←needs_all]
  simp only[gd]
theorem ready_eq:Region.ready md ops l=readyT (rtab md ops).2 l.toList:=by
 unfold Region.ready readyT
 rw[rtab_length]
 refine List.filter_congr (fun i _=>?_)
 rw[readyAt_eq]
theorem free_eq:Region.free md ops l i=freeT (rtab md ops).2 l.toList i:=by
 unfold Region.free freeT
 cases h:ops[i]? with
 |none=>rw [rtab_none h]
 |some oi=>
  rw[rtab_some h]
  simp only[clashOf]
  rw[List.all_filter]
  congr 1
  funext j
  rw[gd]
  cases hj:ops[j]? with
  |none=>cases(j==i) <;> cases(l.toList.getD j true) <;> simp
  |some oj=>
   cases(j==i) <;> cases(l.toList.getD j true) <;> cases(oj.after.any (fun e=>Region.binds md e&&e.on==i)||oi.apart ops oj) <;> simp_all
theorem closed_eq:Region.closedB md ops l=closedT (rtab md ops).2 l.toList:=by
 unfold Region.closedB closedT
 rw[rtab_length]
 congr 1
 funext j
 rw[gd]
 cases h:ops[j]? with
 |none=>rw [rtab_none h]
 |some o=>
  rw[rtab_some h]
  simp only
  rw[←needs_all]
  simp only[gd]
theorem reach_eq:∀(fuel d:Nat),Region.reachB md ops i fuel d=reachT (rtab md ops).2 i fuel d
 |0,_=>rfl
 |fuel+1,d=>by
  unfold Region.reachB reachT
  cases h:ops[d]? with
  |none=>rw [rtab_none h]
  |some o=>
   rw[rtab_some h]
   simp only
   rw[←needs_any]
   congr 1
   funext e
   rw[reach_eq fuel]
theorem last_eq:Region.lastB md ops l ds i=lastT (rtab md ops).2 l.toList ds i:=by
 unfold Region.lastB lastT
 rw[rtab_length]
 congr 1
 funext d
 rw[gd,reach_eq]
theorem readyAt_mem (h:readyAt T.2 l.toList i=true)(hT:rtab md ops=T):(Region.ready md ops l).contains i=true:=by
 subst hT
 rw[ready_eq]
 unfold readyT
 rw[List.contains_iff_mem,List.mem_filter,List.mem_range]
 refine⟨?_,h⟩
 unfold readyAt at h
 rw[Bool.and_eq_true] at h
 cases hq:(rtab md ops).2[i]? with
 |none=>rw [hq] at h;simp at h
 |some r=>exact(List.getElem?_eq_some_iff.1 hq).1
theorem set_of (h:(l.toList.set i true==l'.toList)=true):(l.setIfInBounds i true==l')=true:=by
 rw[beq_iff_eq] at h⊢
 apply Array.ext'
 rw[Array.toList_setIfInBounds]
 exact h
def anyT (T:Bool×List (List Nat×List Nat))(l l':List Bool)(i:Nat):Bool:=T.1&&freeT T.2 l i&&readyAt T.2 l i&&(l.set i true==l')
theorem any_of (hT:rtab md ops=T)(h:anyT T l.toList l'.toList i=true):anyB md ops l l' i=true:=by
 simp only[anyT,Bool.and_eq_true] at h
 obtain⟨⟨⟨h1,h2⟩,h3⟩,h4⟩:=h
 have h5:=readyAt_mem h3 hT
 have h6:=set_of h4
 subst hT
 simp only[anyB,Bool.and_eq_true]
 exact⟨⟨⟨h1,by rw[free_eq];exact h2⟩,h5⟩,h6⟩
def takeT (T:Bool×List (List Nat×List Nat))(ds:List Nat)(l l':List Bool)(i:Nat):Bool:=T.1&&freeT T.2 l i&&readyAt T.2 l i&&closedT T.2 l&&lastT T.2 l ds i&&(l.set i true==l')
theorem take_of (hT:rtab md ops=T)(h:takeT T ds l.toList l'.toList i=true):takeB md ops ds l l' i=true:=by
 simp only[takeT,Bool.and_eq_true] at h
 obtain⟨⟨⟨⟨⟨h1,h2⟩,h3⟩,h4⟩,h5⟩,h6⟩:=h
 have h7:=readyAt_mem h3 hT
 have h8:=set_of h6
 subst hT
 simp only[takeB,Bool.and_eq_true]
 exact⟨⟨⟨⟨⟨h1,by rw[free_eq];exact h2⟩,h7⟩,by rw[closed_eq];exact h4⟩,by rw[last_eq];exact h5⟩,h8⟩
theorem one_of (hT:rtab md ops=T)(h:(readyT T.2 l.toList== [i]&&l.toList.set i true==l'.toList)=true):readyB md ops l l' i=true:=by
 simp only[Bool.and_eq_true] at h
 obtain⟨h1,h2⟩:=h
 subst hT
 simp only[readyB,Bool.and_eq_true]
 exact⟨by rw[ready_eq];exact h1,set_of h2⟩
theorem done_of (hT:rtab md ops=T)(h:(readyT T.2 l.toList== [])=true):(Region.ready md ops l== [])=true:=by
 subst hT
 rw[ready_eq]
 exact h
def upM (B:List Nat)(d:Nat):List Nat→Nat
 | []=>0
 |n :: r=>(2 ^ n ||| (if n<d then B.getD n 0 else 0)) ||| upM B d r
def waitsOk (T:List (List Nat×List Nat))(B:List Nat):Bool:=(List.range T.length).all fun d=>match T[d]? with
 |some r=>(B.getD d 0 ||| upM B d r.1)==upM B d r.1
 |none=>false
theorem upM_bit {B:List Nat}{d i:Nat} :∀ {ns:List Nat},(upM B d ns).testBit i=true→∃n∈ns,n=i∨(n<d∧(B.getD n 0).testBit i=true)
 | [],h=>by simp[upM] at h
 |n :: r,h=>by
  unfold upM at h
  rw[Nat.testBit_or,Nat.testBit_or,Bool.or_eq_true,Bool.or_eq_true] at h
  rcases h with(h|h)|h
  ·rw [Nat.testBit_two_pow] at h
   exact⟨n,List.mem_cons_self,.inl (by simpa using h)⟩
  ·by_cases hn:n<d
   ·rw [if_pos hn] at h
    exact⟨n,List.mem_cons_self,.inr ⟨hn,h⟩⟩
   ·rw [if_neg hn] at h
    simp at h
  ·obtain⟨m,hm,h2⟩:=upM_bit h
   exact⟨m,List.mem_cons_of_mem _ hm,h2⟩
theorem reach_bit {T:List (List Nat×List Nat)}{B:List Nat}(hB:waitsOk T B=true):∀(fuel d:Nat),d<fuel→d<T.length→(B.getD d 0).testBit i=true→reachT T i fuel d=true
 |0,d,h,_,_=>by omega
 |fuel+1,d,h,hd,hb=>by
  have h1:=List.all_eq_true.1 hB d (List.mem_range.2 hd)
  cases hr:T[d]? with
  |none=>rw [hr] at h1;simp at h1
  |some r=>
   rw[hr] at h1
   simp only[beq_iff_eq] at h1
   have h2:(upM B d r.1).testBit i=true:=by rw[←h1,Nat.testBit_or,hb,Bool.true_or]
   obtain⟨n,hn,h3⟩:=upM_bit h2
   unfold reachT
   rw[hr]
   simp only
   rw[List.any_eq_true]
   refine⟨n,hn,?_⟩
   rcases h3 with rfl|⟨h4,h5⟩
   ·simp
   ·rw [reach_bit hB fuel n (by omega) (by omega) h5,Bool.or_true]
def lastW (T:List (List Nat×List Nat))(B:List Nat)(l:List Bool)(ds:List Nat)(i:Nat):Bool:=ds.all fun d=>l.getD d true||(decide (d<T.length)&&(B.getD d 0).testBit i)
def takeW (T:Bool×List (List Nat×List Nat))(B:List Nat)(ds:List Nat)(l l':List Bool)(i:Nat):Bool:=T.1&&freeT T.2 l i&&readyAt T.2 l i&&closedT T.2 l&&lastW T.2 B l ds i&&(l.set i true==l')
theorem take_ofW {B:List Nat}(hT:rtab md ops=T)(hB:waitsOk T.2 B=true)(h:takeW T B ds l.toList l'.toList i=true):takeB md ops ds l l' i=true:=by
 refine take_of hT ?_
 simp only[takeW,takeT,Bool.and_eq_true] at h⊢
 obtain⟨⟨⟨⟨⟨h1,h2⟩,h3⟩,h4⟩,h5⟩,h6⟩:=h
 refine⟨⟨⟨⟨⟨h1,h2⟩,h3⟩,h4⟩,?_⟩,h6⟩
 unfold lastW at h5
 unfold lastT
 rw[List.all_eq_true] at h5⊢
 intro d hd
 have h7:=h5 d hd
 rw[Bool.or_eq_true,Bool.and_eq_true,decide_eq_true_eq] at h7
 rcases h7 with h7|⟨h8,h9⟩
 ·rw [h7,Bool.true_or]
 ·rw [reach_bit hB _ d h8 h8 h9,Bool.or_true]
theorem with_tabW {P:Program}{Q:Exit→Act→World→Prop}{S:World→Prop}{n:Nat}{a:Act}{w:World}{B:List Nat}(hT:rtab md ops=T)(hB:waitsOk T.2 B=true)(h:Aside0 (rtab md ops=T)→Aside0 (waitsOk T.2 B=true)→wpAnyLast P md ops Q S ds n l a w):wpAnyLast P md ops Q S ds n l a w:=h ⟨hT⟩ ⟨hB⟩
end
def opsIn:Code→Nat→Option (Array Oper)
 | .region id ops _,k=>if id==k then some ops else none
 | .seq a b,k=>match opsIn a k with
  |some o=>some o
  |none=>opsIn b k
 | .cond _ a b,k=>match opsIn a k with
  |some o=>some o
  |none=>opsIn b k
 | .block _ c,k=>opsIn c k
 | .loop c,k=>opsIn c k
 | .scope c,k=>opsIn c k
 | .rangeFunc _ _ a b,k=>match opsIn a k with
  |some o=>some o
  |none=>opsIn b k
 |_,_=>none
def opsOf (f:Func)(k:Nat):Array Oper:=((f.body.bind fun c=>opsIn c k)).getD #[]
end Go.Proofs.YtmgmdiekpmffbaaGreatDoorW.PrintLast
namespace Go.Proofs.YtmgmdiekpmffbaaGreatDoorW.PrintLast
section
variable {P:Program} {ops:Array Oper} {Q:Exit→Act→World→Prop} {md:Region.Mode} {S:World→Prop} {ds:List Nat} {T:Bool×List (List Nat×List Nat)}
end
end Go.Proofs.YtmgmdiekpmffbaaGreatDoorW.PrintLast
namespace Go.Proofs.YtmgmdiekpmffbaaGreatDoorW.PrintWords
open Go.RowKit
namespace Kd
section
variable {α:Type} {d:Kd α} {W:World} {g n:Nat} {S ok:Nat→Prop} {A:Option Addr} {ad:Addr} {xs:List α}
end
end Kd
end Go.Proofs.YtmgmdiekpmffbaaGreatDoorW.PrintWords
namespace Go.Proofs.YtmgmdiekpmffbaaGreatDoorW.PrintWords
open Go.RowKit
section
variable {w w' u:World} {m B g:Nat} {o:Obj} {row:Option Nat} {S:Nat→Prop} {a:Addr} {v:Value}
end
namespace Kd
section
variable {α:Type} {d:Kd α} {e base n m:Nat} {ok:Nat→Prop} {w w':World} {v:Value} {A:Option Addr} {xs:List α}
end
end Kd
end Go.Proofs.YtmgmdiekpmffbaaGreatDoorW.PrintWords
namespace Go.Proofs.YtmgmdiekpmffbaaGreatDoorW.PrintWords
open Go.RowKit
section
variable {P:Program} {d:Nat} {xs ys:Array Value} {f:Field} {fs:List Field} {a b:Value} {r s:Bool} {w:World}
theorem eqf_last (hn:(f.name== "_")=false)(ha:(part f.type xs f.offset).run P w= .ok a w)(hb:(part f.type ys f.offset).run P w= .ok b w)(he:(Op.equalIn d f.type a b).run P w= .ok r w):(Op.eqFields d xs ys [f]).run P w= .ok r w:=by
 have hn':f.name≠ "_" :=by simpa using hn
 simp only[Op.eqFields,if_pos hn',Sem.run_bind,ha,hb,he,Result.andThen_ok]
 cases r <;> simp
theorem eqf_cons (hn:(f.name== "_")=false)(ha:(part f.type xs f.offset).run P w= .ok a w)(hb:(part f.type ys f.offset).run P w= .ok b w)(he:(Op.equalIn d f.type a b).run P w= .ok r w)(hr:(Op.eqFields d xs ys fs).run P w= .ok s w):(Op.eqFields d xs ys (f :: fs)).run P w= .ok (r&&s) w:=by
 have hn':f.name≠ "_" :=by simpa using hn
 rw[Op.eqFields]
 simp only[if_pos hn',Sem.run_bind,ha,hb,he,Result.andThen_ok]
 cases r
 ·simp
 ·simpa using hr
theorem eqA_of {t:TypeId}{fs:Array Field}(hu:P.underlying t=some (.struct fs))(hp:P.stoodInHeld t=false)(h:(Op.eqFields d xs ys fs.toList).run P w= .ok r w):(Op.equalIn (d+1) t (.agg xs) (.agg ys)).run P w= .ok r w:=by
 have hf:P.fieldsOf t=fs:=by simp[Program.fieldsOf,hu]
 rw[run_equalIn_struct (P:=P) w d t xs ys (by rw[hf];exact hu) hp,hf]
 exact h
end
end Go.Proofs.YtmgmdiekpmffbaaGreatDoorW.PrintWords
namespace Go.Proofs.YtmgmdiekpmffbaaGreatDoorW.PrintWords
theorem Reps.one {α:Type}{R:α→List Value→Prop}{ps:List α}{cs:List Value}{p:α}{v:Value}(hp:R p [v])(h:Reps R 1 ps cs):Reps R 1 (p :: ps) (v :: cs):=by
 refine⟨by simp[h.1],fun j q hq=>?_⟩
 cases j with
 |zero=>
  simp only[List.getElem?_cons_zero,Option.some.injEq] at hq
  subst hq
  simpa using hp
 |succ j=>
  simp only[List.getElem?_cons_succ] at hq
  have h1:=h.2 j q hq
  simpa [Nat.mul_one] using h1
end Go.Proofs.YtmgmdiekpmffbaaGreatDoorW.PrintWords
namespace Go.Proofs.YtmgmdiekpmffbaaGreatDoorW.PrintLast
section
variable {P:Program} {ops:Array Oper} {Q:Exit→Act→World→Prop} {md:Region.Mode} {T:Bool×List (List Nat×List Nat)} {B:List Nat} {O:List Nat} {b:Nat→Bool} {i j n:Nat}
end
end Go.Proofs.YtmgmdiekpmffbaaGreatDoorW.PrintLast
namespace Go.Proofs.YtmgmdiekpmffbaaGreatDoorW.PrintWords
open Go.RowKit
end Go.Proofs.YtmgmdiekpmffbaaGreatDoorW.PrintWords
namespace Go.Proofs.YtmgmdiekpmffbaaGreatDoorW.PrintLast
section
variable {ops:Array Oper} {a:Act} {o og:Oper} {g:Nat} {t:Tmp} {u:Bool}
end
end Go.Proofs.YtmgmdiekpmffbaaGreatDoorW.PrintLast
namespace Go.Proofs.YtmgmdiekpmffbaaGreatDoorW.PrintWords
open Go.RowKit
section
variable {P:Program} {ops:Array Oper} {rest:List Oper} {o:Oper} {a:Act} {Q:Exit→Act→World→Prop} {W:World}
theorem gate_guard (hw:Region.wanted o (yielded ops a.tmps)=true)(h:wpList P ops Q ({ o with guard:=none } :: rest) a W):wpList P ops Q (o :: rest) a W:=by
 have h1:Region.wanted { o with guard:=none } (yielded ops a.tmps)=true:=rfl
 unfold wpList at h⊢
 rw[if_pos h1] at h
 rw[if_pos hw]
 exact h
end
end Go.Proofs.YtmgmdiekpmffbaaGreatDoorW.PrintWords
namespace Go.Proofs.YtmgmdiekpmffbaaGreatDoor.DecM
open Go
def figL (n:Nat):List UInt8:=if n<10 then [UInt8.ofNat (48+n)] else figL (n / 10)++ [UInt8.ofNat (48+n % 10)]
termination_by n
theorem figL_small {n:Nat}(h:n<10):figL n= [UInt8.ofNat (48+n)]:=by
 rw[figL,if_pos h]
theorem figL_big {n:Nat}(h:¬n<10):figL n=figL (n / 10)++ [UInt8.ofNat (48+n % 10)]:=by
 rw[figL,if_neg h]
theorem numL_figL (n:Nat):(numL n).map (fun z=>UInt8.ofNat z.toNat)=figL n:=by
 induction n using Nat.strongRecOn with
 |_ n ih=>
  by_cases h:n<10
  ·rw [numL_small h,figL_small h]
   simp only[List.map_cons,List.map_nil]
   rw[show((48:Int)+(n:Int)).toNat=48+n by omega]
  ·rw [numL_big h,figL_big h,List.map_append,ih (n / 10) (by omega)]
   simp only[List.map_cons,List.map_nil]
   rw[show((48:Int)+((n % 10:Nat):Int)).toNat=48+n % 10 by omega]
theorem numS_data (n:Nat):(numS n).data.toList=figL n++ [59]:=by
 unfold numS
 rw[strOfNums_data,List.map_append,numL_figL]
 rfl
theorem ofNat_fig {k:Nat}(h:k<10):(UInt8.ofNat (48+k)).toNat=48+k:=by
 rw[UInt8.toNat_ofNat']
 omega
theorem figL_digit (n:Nat):∀c∈figL n,isD c=true:=by
 induction n using Nat.strongRecOn with
 |_ n ih=>
  intro c hc
  by_cases h:n<10
  ·rw [figL_small h,List.mem_singleton] at hc
   rw[hc,isD_iff,ofNat_fig h]
   omega
  ·rw [figL_big h,List.mem_append,List.mem_singleton] at hc
   rcases hc with hc|hc
   ·exact ih (n / 10) (by omega) c hc
   ·rw [hc,isD_iff,ofNat_fig (by omega)]
    omega
theorem val_snoc (l:List UInt8)(c:UInt8):val (l++ [c])=10*val l+(c.toNat - 48):=by
 unfold val
 rw[vfrom_append,vfrom_cons,vfrom_nil]
theorem figL_val (n:Nat):val (figL n)=n:=by
 induction n using Nat.strongRecOn with
 |_ n ih=>
  by_cases h:n<10
  ·rw [figL_small h]
   have:=val_snoc [] (UInt8.ofNat (48+n))
   rw[List.nil_append] at this
   rw[this,ofNat_fig h]
   show 10*vfrom 0 []+_=_
   rw[vfrom_nil]
   omega
  ·rw [figL_big h,val_snoc,ih (n / 10) (by omega),ofNat_fig (by omega)]
   omega
theorem figL_pos (n:Nat):1≤(figL n).length:=by
 by_cases h:n<10
 ·rw [figL_small h];simp
 ·rw [figL_big h];simp
theorem figL_len (n:Nat)(h:n<two64):(figL n).length≤20:=by
 rw[two64_eq] at h
 have e:(figL n).length=(numL n).length:=by rw[←numL_figL,List.length_map]
 rw[e]
 exact numL_len 19 n (by omega)
theorem fig_ne {k:Nat}(h:k<10)(h0:1≤k):UInt8.ofNat (48+k)≠48:=by
 intro e
 have:=congrArg UInt8.toNat e
 rw[ofNat_fig h] at this
 have e8:(48:UInt8).toNat=48:=rfl
 omega
theorem figL_head (n:Nat)(h:1≤n):(figL n)[0]? ≠some 48:=by
 induction n using Nat.strongRecOn with
 |_ n ih=>
  by_cases h10:n<10
  ·rw [figL_small h10]
   simp only[List.getElem?_cons_zero]
   intro e
   exact fig_ne h10 h (Option.some.inj e)
  ·rw [figL_big h10,List.getElem?_append_left (figL_pos _)]
   exact ih (n / 10) (by omega) (by omega)
theorem figL_one (n:Nat)(h:1<(figL n).length):1≤n:=by
 by_cases h10:n<10
 ·rw [figL_small h10] at h
  simp at h
 ·omega
theorem val_pos (l:List UInt8)(hd:∀c∈l,isD c=true)(hne:l≠ [])(h0:l[0]? ≠some 48):1≤val l:=by
 cases l with
 |nil=>exact absurd rfl hne
 |cons c l=>
  have hc:=(isD_iff c).mp (hd c List.mem_cons_self)
  have hne48:c.toNat≠48:=by
   intro e
   apply h0
   simp only[List.getElem?_cons_zero]
   congr 1
   exact UInt8.toNat_inj.mp e
  unfold val
  rw[vfrom_cons]
  have:=vfrom_le l (10*0+(c.toNat - 48))
  omega
theorem canon (n:Nat):∀l:List UInt8,l.length=n→(∀c∈l,isD c=true)→l≠ []→(1<l.length→l[0]? ≠some 48)→figL (val l)=l:=by
 induction n with
 |zero=>
  intro l hl _ hne _
  exact absurd (List.length_eq_zero_iff.mp hl) hne
 |succ n ih=>
  intro l hl hd hne h0
  obtain⟨a,c,rfl⟩:∃a c,l=a++ [c]:=⟨l.dropLast,l.getLast hne,(List.dropLast_concat_getLast hne).symm⟩
  have hc:=(isD_iff c).mp (hd c (by simp))
  have hcc:UInt8.ofNat (48+(c.toNat - 48))=c:=by
   rw[show 48+(c.toNat - 48)=c.toNat by omega]
   exact UInt8.ofNat_toNat
  rw[val_snoc]
  by_cases ha:a= []
  ·subst ha
   have e:10*val []+(c.toNat - 48)=c.toNat - 48:=by
    show 10*vfrom 0 []+_=_
    rw[vfrom_nil]
    omega
   rw[e,figL_small (by omega),hcc]
   rfl
  ·have hal:1≤a.length:=by
    cases a with
    |nil=>exact absurd rfl ha
    |cons x a=>simp
   have h0a:a[0]? ≠some 48:=by
    have:=h0 (by simp;omega)
    rwa [List.getElem?_append_left hal] at this
   have hda:∀x∈a,isD x=true:=fun x hx=>hd x (by simp[hx])
   have hp:=val_pos a hda ha h0a
   have e1:(10*val a+(c.toNat - 48)) / 10=val a:=by omega
   have e2:(10*val a+(c.toNat - 48)) % 10=c.toNat - 48:=by omega
   rw[figL_big (by omega),e1,e2,hcc,ih a (by simpa using hl) hda ha (fun _=>h0a)]
theorem takeWhile_all (a:List UInt8)(hd:∀c∈a,isD c=true)(b:List UInt8)(hb:b= []∨∃x y,b=x :: y∧isD x=false):nd (a++b)=a.length:=by
 unfold nd
 rw[List.takeWhile_append_of_pos hd]
 rcases hb with rfl|⟨x,y,rfl,hx⟩
 ·simp
 ·simp [hx]
theorem isD_semi:isD 59=false:=by decide
theorem bytes_ext {a b:ByteArray}(h:a.data.toList=b.data.toList):a=b:=ByteArray.ext (Array.ext' h)
theorem len_size (s:ByteArray):s.data.toList.length=s.size:=by
 rw[Array.length_toList]
 rfl
theorem ext_from (s:ByteArray)(a:Nat):(s.extract a s.size).data.toList=s.data.toList.drop a:=by
 rw[Lib.extract_data]
 exact List.take_of_length_le (by rw[List.length_drop,len_size];omega)
theorem ext_upto (s:ByteArray)(b:Nat):(s.extract 0 b).data.toList=s.data.toList.take b:=by
 rw[Lib.extract_data]
 simp
theorem data_append (a b:ByteArray):(a++b).data.toList=a.data.toList++b.data.toList:=by
 rw[ByteArray.data_append,Array.toList_append]
theorem take_back (v:Nat)(hv:v<two64)(m:ByteArray):takeNum (numS v++m)=((v:Int),m,0):=by
 have hl:(numS v++m).data.toList=figL v++59 :: m.data.toList:=by
  rw[data_append,numS_data]
  simp
 have hn:nd (figL v++59 :: m.data.toList)=(figL v).length:=takeWhile_all _ (figL_digit v) _ (.inr ⟨59,_,rfl,isD_semi⟩)
 have h1:=figL_pos v
 have h20:=figL_len v hv
 have hr:(numS v++m).extract ((figL v).length+1) (numS v++m).size=m:=by
  apply bytes_ext
  rw[ext_from,hl]
  have:figL v++59 :: m.data.toList=(figL v++ [59])++m.data.toList:=by simp
  rw[this,List.drop_append_of_le_length (by simp),List.drop_of_length_le (by simp)]
  rfl
 unfold takeNum
 simp only[hl,hn,hr]
 rw[List.take_left,figL_val,if_neg (by omega),if_neg,if_neg (by simp)]
 rintro(⟨h,h0⟩|h|⟨_,h|h⟩)
 ·rw [List.getElem?_append_left h1] at h0
  exact figL_head v (figL_one v h) h0
 ·exact h hv
 ·omega
 ·apply h
  rw[List.getElem?_append_right (Nat.le_refl _)]
  simp
theorem take_was {s:ByteArray}{v:Int}{r:ByteArray}(h:takeNum s=(v,r,0)):∃n:Nat,v=n∧n<two64∧s=numS n++r:=by
 unfold takeNum at h
 simp only[] at h
 by_cases h20:20<nd s.data.toList
 ·rw [if_pos h20] at h
  simp at h
 rw[if_neg h20] at h
 by_cases hb:(1<nd s.data.toList∧s.data.toList[0]? =some 48)∨¬val (s.data.toList.take (nd s.data.toList))<two64∨(nd s.data.toList<s.data.toList.length∧(nd s.data.toList=0∨¬s.data.toList[nd s.data.toList]? =some 59))
 ·rw [if_pos hb] at h
  simp at h
 rw[if_neg hb] at h
 by_cases hn:nd s.data.toList=s.data.toList.length
 ·rw [if_pos hn] at h
  simp at h
 rw[if_neg hn] at h
 simp only[not_or,not_and,Classical.not_not] at hb
 obtain⟨hz,hv,hs⟩:=hb
 have hle:=nd_le s.data.toList
 obtain⟨h0,h59⟩:=hs (by omega)
 simp only[Prod.mk.injEq,and_true] at h
 obtain⟨rfl,rfl⟩:=h
 refine⟨_,rfl,hv,?_⟩
 apply bytes_ext
 rw[data_append,numS_data,ext_from]
 have hc:=canon (nd s.data.toList) (s.data.toList.take (nd s.data.toList)) (by rw[List.length_take];omega) (fun c hc=>nd_digits _ c hc)
  (by
   intro e
   have:=congrArg List.length e
   rw[List.length_take,List.length_nil] at this
   omega)
  (by
   intro hl
   rw[List.length_take] at hl
   rw[List.getElem?_take_of_lt (by omega)]
   exact hz (by omega))
 rw[hc]
 have hlt:nd s.data.toList<s.data.toList.length:=by omega
 have e59:s.data.toList.drop (nd s.data.toList)=59 :: s.data.toList.drop (nd s.data.toList+1):=by
  rw[List.drop_eq_getElem_cons hlt]
  rw[List.getElem?_eq_getElem hlt] at h59
  rw[Option.some.inj h59]
 calc s.data.toList=s.data.toList.take (nd s.data.toList)++s.data.toList.drop (nd s.data.toList):=(List.take_append_drop _ _).symm
  _=_:=by rw[e59];simp
theorem take_first (s:ByteArray):0≤(takeNum s).1∧(takeNum s).1<two64∧(takeNum s).2.1.size≤s.size:=by
 have e64:=two64_eq
 have hz:(0:Int)<(two64:Int):=by omega
 have hE:ByteArray.empty.size=0:=rfl
 unfold takeNum
 simp only[]
 by_cases h20:20<nd s.data.toList
 ·rw [if_pos h20]
  exact⟨Int.le_refl _,hz,by rw[hE];omega⟩
 rw[if_neg h20]
 by_cases hb:(1<nd s.data.toList∧s.data.toList[0]? =some 48)∨¬val (s.data.toList.take (nd s.data.toList))<two64∨(nd s.data.toList<s.data.toList.length∧(nd s.data.toList=0∨¬s.data.toList[nd s.data.toList]? =some 59))
 ·rw [if_pos hb]
  exact⟨Int.le_refl _,hz,by rw[hE];omega⟩
 rw[if_neg hb]
 by_cases hn:nd s.data.toList=s.data.toList.length
 ·rw [if_pos hn]
  exact⟨Int.le_refl _,hz,by rw[hE];omega⟩
 rw[if_neg hn]
 simp only[not_or,not_and,Classical.not_not] at hb
 have:=hb.2.1
 refine⟨by omega,by omega,?_⟩
 rw[ByteArray.size_extract]
 omega
def takeText (s:ByteArray)(most:Int):ByteArray×ByteArray×Int:=
 if¬(takeNum s).2.2=0 then(ByteArray.empty,ByteArray.empty,(takeNum s).2.2)
 else if most<0∨(takeNum s).1>most then(ByteArray.empty,ByteArray.empty,4)
 else if(takeNum s).1>(takeNum s).2.1.size then(ByteArray.empty,ByteArray.empty,2)
 else((takeNum s).2.1.extract 0 (takeNum s).1.toNat,(takeNum s).2.1.extract (takeNum s).1.toNat (takeNum s).2.1.size,0)
end Go.Proofs.YtmgmdiekpmffbaaGreatDoor.DecM
