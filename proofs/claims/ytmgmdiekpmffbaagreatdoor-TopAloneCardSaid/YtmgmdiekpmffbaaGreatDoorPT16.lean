/- Part of the proof of the statement TopAlone, as a card; what is proved, and on which condition, stands at the head of YtmgmdiekpmffbaaGreatDoorPT20 (texts TopRepA, TopRef0, RefRep, TopRepB, TopRef1) -/
import Derived.Handy
import Derived.Test.YtmgmdiekpmffbaaGreatDoorPT1
import Derived.Test.YtmgmdiekpmffbaaGreatDoorPT4
import Derived.Test.YtmgmdiekpmffbaaGreatDoorPT7
import Derived.Test.YtmgmdiekpmffbaaGreatDoorPT9
import Derived.Test.YtmgmdiekpmffbaaGreatDoorPT10
import Derived.Test.YtmgmdiekpmffbaaGreatDoorPT11
import Derived.Test.YtmgmdiekpmffbaaGreatDoorPT13
import Derived.Test.YtmgmdiekpmffbaaGreatDoorPT15
set_option maxHeartbeats 64000000
set_option maxRecDepth 100000
set_option linter.unusedVariables false
set_option linter.unusedSimpArgs false
namespace Go.Proofs.YtmgmdiekpmffbaaGreatDoor.QWi
open Go Go.RowKit Go.Proofs.YtmgmdiekpmffbaaGreatDoor.Reader Go.Proofs.YtmgmdiekpmffbaaGreatDoorW.PrintWords
theorem w_back (i:Nat)(h:i<9223372036854775807)(h1:1≤i):wrap64 ((i:Int) - 1)=((i - 1:Nat):Int):=by
 unfold wrap64
 omega
theorem right_at (l:List S123)(hl:l.length≤16):∀(d i k:Nat),l.length+1 - i=d→1≤i→d<k→∃b,table_Right.l0 k l (i:Int)=some b:=by
 intro d
 induction d with
 |zero=>
  intro i k hd h1 hk
  obtain⟨k,rfl⟩:∃j,k=j+1:=⟨k - 1,by omega⟩
  rw[table_Right.l0,if_neg (by omega)]
  exact⟨_,rfl⟩
 |succ d ih=>
  intro i k hd h1 hk
  obtain⟨k,rfl⟩:∃j,k=j+1:=⟨k - 1,by omega⟩
  rw[table_Right.l0]
  by_cases hx:(i:Int)<(l.length:Int)
  ·rw [if_pos hx,w_back i (by omega) h1,w_nat i (by omega),if_pos (by omega),if_pos (by omega),if_pos (by omega)]
   split
   ·exact ih (i+1) k (by omega) (by omega) (by omega)
   ·exact⟨_,rfl⟩
  ·rw [if_neg hx]
   exact⟨_,rfl⟩
theorem mayReply_some (a0 a1 a2 a3:Int)(a4:ByteArray)(a5:Bool)(l:List S123)(a7:Bool):wire_mayReply.f a0 a1 a2 a3 a4 a5 l a7=some (mayB a0 a1 a2 a3 a4 a5 l a7):=by
 have h:∃b,wire_mayReply.f a0 a1 a2 a3 a4 a5 l a7=some b:=by
  unfold wire_mayReply.f
  by_cases c6:16<(l.length:Int)
  ·simp only[if_pos c6]
   repeat' split
   all_goals exact⟨_,rfl⟩
  ·obtain⟨b,hb⟩:∃b,table_Right.f 20 l=some b:=right_at l (by omega) _ 1 20 rfl (Nat.le_refl _) (by omega)
   rw[hb]
   cases b with
   |false=>
    repeat' split
    all_goals first|exact⟨_,rfl⟩|contradiction
   |true=>
    repeat' split
    all_goals first|exact⟨_,rfl⟩|contradiction
 obtain⟨b,hb⟩:=h
 unfold mayB
 rw[hb]
 rfl
end Go.Proofs.YtmgmdiekpmffbaaGreatDoor.QWi
namespace Go.Proofs.YtmgmdiekpmffbaaGreatDoor.Enc
open Go Go.RowKit Go.Proofs.YtmgmdiekpmffbaaGreatDoor.DecM Go.Proofs.YtmgmdiekpmffbaaGreatDoor.Giv Go.Proofs.YtmgmdiekpmffbaaGreatDoor.Wire Go.Proofs.YtmgmdiekpmffbaaGreatDoor.Reader Go.Proofs.YtmgmdiekpmffbaaGreatDoor.QWi Go.Proofs.YtmgmdiekpmffbaaGreatDoorW.PrintWords Go.Proofs.YtmgmdiekpmffbaaGreatDoorW.PrintLast
theorem reply_f (k:Nat)(p:S65)(hm:mayP p=true):wire_Reply.f k p.f0 p.f1 p.f2 p.f3 p.f4 p.f5 p.f6 p.f7=some (encP p,0):=if_pos hm
theorem drop_bt (s:ByteArray)(i:Nat)(h:i<s.size):∃u:UInt8,s.toList.drop i=u :: s.toList.drop (i+1)∧bt s (i:Int)=(u.toNat:Int):=by
 have hl:i<s.toList.length:=by rw[Lib.toList_data,len_size];exact h
 refine⟨s.toList[i],List.drop_eq_getElem_cons hl,?_⟩
 have h2:((i:Int)).toNat<s.size:=by simpa using h
 rw[←bt_at s (i:Int) h2]
 simp only[Int.toNat_natCast,Lib.toList_data,Array.getElem_toList]
 rfl
theorem drop_none (s:ByteArray)(i:Nat)(h:s.size≤i):s.toList.drop i= []:=by
 apply List.drop_eq_nil_of_le
 rw[Lib.toList_data,len_size]
 exact h
theorem wrap_next {i n:Nat}(h:i<n)(hn:n≤9223372036854775807):wrap64 ((i:Int)+1)=((i+1:Nat):Int):=by
 unfold wrap64
 omega
theorem less_from (a b:ByteArray)(ha:a.size≤9223372036854775807)(d:Nat):∀(k i:Nat),a.size - i=d→i≤a.size→i≤b.size→2*d+2≤k→
  stanchionref01_Less.l0 k a b (i:Int)=some (decide (a.toList.drop i<b.toList.drop i)):=by
 induction d with
 |zero=>
  intro k i hd hi hj hk
  obtain⟨k,rfl⟩:∃m,k=m+2:=⟨k - 2,by omega⟩
  simp only[stanchionref01_Less.l0,stanchionref01_Less.j1]
  rw[if_neg (by omega),if_neg (by decide),drop_none a i (by omega)]
  by_cases h:i<b.size
  ·obtain⟨u,hu,_⟩:=drop_bt b i h
   rw[hu]
   simp only[List.nil_lt_cons,decide_true]
   rw[decide_eq_true (by omega)]
  ·rw [drop_none b i (by omega)]
   simp only[List.not_lt_nil,decide_false]
   rw[decide_eq_false (by omega)]
 |succ d ih=>
  intro k i hd hi hj hk
  obtain⟨k,rfl⟩:∃m,k=m+2:=⟨k - 2,by omega⟩
  have hlt:i<a.size:=by omega
  obtain⟨u,hu,hbu⟩:=drop_bt a i hlt
  simp only[stanchionref01_Less.l0,stanchionref01_Less.j1]
  rw[if_pos (by omega)]
  by_cases h:i<b.size
  ·obtain⟨v,hv,hbv⟩:=drop_bt b i h
   rw[decide_eq_true (p:=(i:Int)<(b.size:Int)) (by omega),if_pos rfl,if_pos (by omega),if_pos (by omega),if_pos (by omega),hbu,hbv,hu,hv]
   by_cases e:u=v
   ·subst e
    rw[if_pos rfl,wrap_next hlt ha,ih k (i+1) (by omega) (by omega) (by omega) (by omega)]
    simp
   ·have e2:¬((u.toNat:Int)=(v.toNat:Int)):=by
     intro h
     exact e (UInt8.toNat_inj.mp (by omega))
    rw[if_neg e2]
    simp only[List.cons_lt_cons_iff,e,false_and,or_false,UInt8.lt_iff_toNat_lt]
    congr 2
    exact propext (by omega)
  ·rw [decide_eq_false (p:=(i:Int)<(b.size:Int)) (by omega),if_neg (by decide),drop_none b i (by omega)]
   simp only[List.not_lt_nil,decide_false]
   rw[decide_eq_false (by omega)]
theorem less_eq (k:Nat)(a b:ByteArray)(ha:a.size≤9223372036854775807)(hk:2*a.size+2≤k):stanchionref01_Less.f k a b=some (decide (a.toList<b.toList)):=by
 unfold stanchionref01_Less.f
 have:=less_from a b ha a.size k 0 (by omega) (by omega) (by omega) hk
 simpa using this
def rightFrom:List S123→Bool
 | []=>true
 | [_]=>true
 |p :: q :: l=>decide (p.f0.toList<q.f0.toList)&&rightFrom (q :: l)
theorem right_step (l:List S123)(i:Nat)(h1:1≤i)(hi:i<l.length):rightFrom (l.drop (i - 1))=(decide ((l[i - 1]'(by omega)).f0.toList<(l[i]).f0.toList)&&rightFrom (l.drop i)):=by
 have e1:l.drop (i - 1)=l[i - 1]'(by omega) :: l.drop i:=by
  have e:=List.drop_eq_getElem_cons (i:=i - 1) (l:=l) (by omega)
  rw[show i - 1+1=i by omega] at e
  exact e
 have e2:l.drop i=l[i] :: l.drop (i+1):=List.drop_eq_getElem_cons hi
 rw[e1,e2]
 rfl
theorem right_done (l:List S123)(i:Nat)(h1:1≤i)(hi:l.length≤i):rightFrom (l.drop (i - 1))=true:=by
 by_cases h:l.length≤i - 1
 ·rw [List.drop_eq_nil_of_le h]
  rfl
 ·have e:=List.drop_eq_getElem_cons (i:=i - 1) (l:=l) (by omega)
  rw[show i - 1+1=i by omega,List.drop_eq_nil_of_le hi] at e
  rw[e]
  rfl
theorem table_at (l:List S123)(hl:l.length≤9223372036854775807):∀(d i k:Nat),l.length - i=d→1≤i→d<k→table_Right.l0 k l (i:Int)=some (rightFrom (l.drop (i - 1))):=by
 intro d
 induction d with
 |zero=>
  intro i k hd h1 hk
  obtain⟨k,rfl⟩:∃j,k=j+1:=⟨k - 1,by omega⟩
  rw[table_Right.l0,if_neg (by omega),right_done l i h1 (by omega)]
 |succ d ih=>
  intro i k hd h1 hk
  obtain⟨k,rfl⟩:∃j,k=j+1:=⟨k - 1,by omega⟩
  have hi:i<l.length:=by omega
  have e:=ih (i+1) k (by omega) (by omega) (by omega)
  rw[show i+1 - 1=i by omega] at e
  rw[table_Right.l0,if_pos (by omega),w_back i (by omega) h1,w_nat i (by omega),if_pos (by omega),if_pos (by omega),if_pos (by omega),rd_at l (i - 1) (by omega),rd_at l i hi,bl_lt,right_step l i h1 hi,e]
  by_cases hlt:(l[i - 1]'(by omega)).f0.toList<(l[i]).f0.toList
  ·rw [decide_eq_true hlt,if_pos rfl,Bool.true_and]
  ·rw [decide_eq_false hlt,if_neg (by decide),Bool.false_and]
theorem table_is (k:Nat)(l:List S123)(hl:l.length≤9223372036854775807)(hk:l.length<k):table_Right.f k l=some (rightFrom l):=by
 unfold table_Right.f
 exact table_at l hl (l.length - 1) 1 k rfl (Nat.le_refl _) (by omega)
def keys:List S123→Nat
 | []=>0
 |p :: l=>p.f0.size+keys l
theorem keys_mem (l:List S123)(p:S123)(h:p∈l):p.f0.size≤keys l:=by
 induction l with
 |nil=>cases h
 |cons q l ih=>
  show _≤q.f0.size+keys l
  rcases List.mem_cons.1 h with rfl|h
  ·omega
  ·have:=ih h
   omega
theorem ref_at (l:List S123)(hl:l.length≤9223372036854775807)(hz:∀x∈l,x.f0.size≤9223372036854775807):∀(d i k:Nat),l.length - i=d→1≤i→d+2*keys l+3≤k→stanchionref05_Right.l0 k l (i:Int)=some (rightFrom (l.drop (i - 1))):=by
 intro d
 induction d with
 |zero=>
  intro i k hd h1 hk
  obtain⟨k,rfl⟩:∃j,k=j+1:=⟨k - 1,by omega⟩
  rw[stanchionref05_Right.l0,if_neg (by omega),right_done l i h1 (by omega)]
 |succ d ih=>
  intro i k hd h1 hk
  obtain⟨k,rfl⟩:∃j,k=j+1:=⟨k - 1,by omega⟩
  have hi:i<l.length:=by omega
  have e:=ih (i+1) k (by omega) (by omega) (by omega)
  rw[show i+1 - 1=i by omega] at e
  have hm:=List.getElem_mem (l:=l) (n:=i - 1) (by omega)
  have hq:=keys_mem l _ hm
  rw[stanchionref05_Right.l0,if_pos (by omega),w_back i (by omega) h1,w_nat i (by omega),if_pos (by omega),if_pos (by omega),if_pos (by omega),rd_at l (i - 1) (by omega),rd_at l i hi,less_eq k _ _ (hz _ hm) (by omega),bsp,right_step l i h1 hi,e]
  by_cases hlt:(l[i - 1]'(by omega)).f0.toList<(l[i]).f0.toList
  ·rw [decide_eq_true hlt,if_pos rfl,Bool.true_and]
  ·rw [decide_eq_false hlt,if_neg (by decide),Bool.false_and]
def mayR (a0 a1 a2 a3:Int)(a4:ByteArray)(l:List S123):Prop:=
 (0≤a0∧a0≤1073741824)∧(0≤a1∧a1≤1073741824)∧(0≤a2∧a2≤1073741824)∧(0≤a3∧a3≤16)∧a4.size≤64∧l.length≤16∧rightFrom l=true∧l.any longP=false
instance (a0 a1 a2 a3:Int)(a4:ByteArray)(l:List S123):Decidable (mayR a0 a1 a2 a3 a4 l):=by
 unfold mayR
 infer_instance
theorem numB_f {x:Int}(h:QWi.numB x=false):¬(0≤x∧x≤1073741824):=by
 unfold QWi.numB at h
 simp at h
 omega
theorem mayB_is (a0 a1 a2 a3:Int)(a4:ByteArray)(a5:Bool)(l:List S123)(a7:Bool):mayB a0 a1 a2 a3 a4 a5 l a7=decide (mayR a0 a1 a2 a3 a4 l):=by
 have e:=mayReply_some a0 a1 a2 a3 a4 a5 l a7
 generalize mayB a0 a1 a2 a3 a4 a5 l a7=b at e
 unfold wire_mayReply.f at e
 unfold mayR
 by_cases c0:QWi.numB a0=false
 ·rw [if_pos c0] at e
  rw[←Option.some.inj e]
  exact(decide_eq_false fun h=>numB_f c0 h.1).symm
 rw[if_neg c0] at e
 by_cases c1:QWi.numB a1=false
 ·rw [if_pos c1] at e
  rw[←Option.some.inj e]
  exact(decide_eq_false fun h=>numB_f c1 h.2.1).symm
 rw[if_neg c1] at e
 by_cases c2:QWi.numB a2=false
 ·rw [if_pos c2] at e
  rw[←Option.some.inj e]
  exact(decide_eq_false fun h=>numB_f c2 h.2.2.1).symm
 rw[if_neg c2] at e
 have d0:=numB_is (by simpa using c0)
 have d1:=numB_is (by simpa using c1)
 have d2:=numB_is (by simpa using c2)
 by_cases c3:a3<0
 ·rw [if_pos c3] at e
  rw[←Option.some.inj e]
  exact(decide_eq_false (by omega)).symm
 rw[if_neg c3] at e
 by_cases c4:16<a3
 ·rw [if_pos c4] at e
  rw[←Option.some.inj e]
  exact(decide_eq_false (by omega)).symm
 rw[if_neg c4] at e
 by_cases c5:64<(a4.size:Int)
 ·rw [if_pos c5] at e
  rw[←Option.some.inj e]
  exact(decide_eq_false (by omega)).symm
 rw[if_neg c5] at e
 by_cases c6:16<(l.length:Int)
 ·rw [if_pos c6] at e
  rw[←Option.some.inj e]
  exact(decide_eq_false (by omega)).symm
 rw[if_neg c6,table_is 20 l (by omega) (by omega)] at e
 by_cases hr:rightFrom l=true
 ·rw [hr,if_neg (by decide),if_pos rfl] at e
  by_cases ha:l.any longP=true
  ·rw [if_pos ha] at e
   rw[←Option.some.inj e]
   exact(decide_eq_false fun h=>by rw[ha] at h;cases h.2.2.2.2.2.2.2).symm
  ·rw [if_neg ha] at e
   rw[←Option.some.inj e]
   exact(decide_eq_true ⟨d0,d1,d2,⟨by omega,by omega⟩,by omega,by omega,hr,Bool.eq_false_iff.mpr ha⟩).symm
 ·rw [Bool.eq_false_iff.mpr hr,if_pos rfl] at e
  rw[←Option.some.inj e]
  exact(decide_eq_false fun h=>hr h.2.2.2.2.2.2.1).symm
theorem ref_mayR (a0 a1 a2 a3:Int)(a4:ByteArray)(a5:Bool)(l:List S123)(a7:Bool)(h:mayR a0 a1 a2 a3 a4 l)(A:Option Addr)(c:Nat)(W:World)(hr:Kd.C k123 W A l.length l)(hc:l.length≤c):
  Calls Tryz.prog 44 #[.agg #[.int .i64 a0,.int .i64 a1,.int .i64 a2,.int .i64 a3,.string a4,.bool a5,.slice A l.length c,.bool a7]] W fun e w'=>Gives (.bool true) W e w':=by
 obtain⟨h0,h1,h2,h3,h4,h5,h6,h7⟩:=h
 have ha:∀x∈l,x.f0.size≤32∧x.f1.size≤64:=fun x hx=>by
  have hh:=List.any_eq_false.1 h7 x hx
  unfold longP at hh
  simp at hh
  omega
 refine(refmay_good a0 a1 a2 a3 a4 a5 A c l a7 W hr hc h0 h1 h2 h3 h4 h5 ha fun W' hW=>?_).mono fun e w' h=>⟨h.1,h.2⟩
 have hR:stanchionref05_Right.f (l.length - 1+2*keys l+3) l=some true:=by
  unfold stanchionref05_Right.f
  rw[←h6]
  exact ref_at l (by omega) (fun x hx=>by have:=ha x hx;omega) (l.length - 1) 1 _ rfl (Nat.le_refl _) (Nat.le_refl _)
 exact(stanchionref05_Right.calls _ A c l true W' hW hc hR).mono fun e w' h=>⟨h.1,h.2.below⟩
end Go.Proofs.YtmgmdiekpmffbaaGreatDoor.Enc
namespace Go.Proofs.YtmgmdiekpmffbaaGreatDoor.Top
open Go Go.RowKit Go.Proofs.YtmgmdiekpmffbaaGreatDoor.DecM Go.Proofs.YtmgmdiekpmffbaaGreatDoor.Giv Go.Proofs.YtmgmdiekpmffbaaGreatDoor.DecPure Go.Proofs.YtmgmdiekpmffbaaGreatDoor.QWi Go.Proofs.YtmgmdiekpmffbaaGreatDoorW.PrintWords
def tySt:Ty ByteArray:=⟨1,fun x=> [.string x],fun _=>rfl,by intro x u hu;simp at hu;rcases hu with rfl;rfl,by decide⟩
theorem infoSt:(Tryz.prog.info? 9).map (fun i=>(i.zero,i.size,i.bytes))=some (some (.string ByteArray.empty),1,16):=by kernel_rfl
theorem ref_new (room:Int)(w:World)(h0:0≤room):Calls Tryz.prog 5 #[.int .i64 room] w fun e w'=>e= .returned (.tuple #[.agg #[.slice none 0 0,.int .i64 (room),.int .i64 (-1),.bool false],.int .i64 0])∧Below w.heap.size w w':=by
 have c1:(room<0)=False:=eq_false (by omega)
 have c2:¬room<0:=by omega
 have HB:Hid (Below w.heap.size w w):=h_ (Below.refl _ _)
 go_enter Tryz.func5,Tryz.ntmps5
 go_wp2
 refine bodyPost_ret (res_cell_tmp (cs:=#[.slice none 0 0,.int .i64 (room),.int .i64 (-1),.bool false]) Tryz.results5 rfl (blk_new' _ _ _ (by simp)) Tryz.underlying28 rfl (by kernel_rfl)) rfl ⟨rfl,?_⟩
 ·exact(below_alloc HB.out _)
theorem ref_wrap (s:ByteArray)(w:World)(h:s.size≤2048):Calls Tryz.prog 21 #[.string s] w fun e w'=>e= .returned (.tuple #[.string (textS s),.int .i64 0])∧Below w.heap.size w w':=by
 have c1:((2048:Int)<(s.size:Int))=False:=eq_false (by omega)
 have c2:¬(2048:Int)<(s.size:Int):=by omega
 go_enter Tryz.func21,Tryz.ntmps21
 go_wp2_with fail
 refine(refText_calls s _ (by omega)).mono ?_
 rintro e w1 ⟨rfl,hb⟩
 go_wp2
 go_ret2
 exact⟨rfl,hb⟩
def WholeV (r:ByteArray)(w:World)(en:Ending)(w':World):Prop:=∃b c n,en= .returned (.tuple #[.slice (some ⟨b,0,none⟩) 1 c,.int .i64 n,.bool true])∧Rs tySt 9 w' (.slice (some ⟨b,0,none⟩) 1 c) [r]∧Below w.heap.size w w'
theorem ref_whole (r:ByteArray)(w:World)(h:r.size≤2048):Calls Tryz.prog 22 #[.string (textS r)] w (WholeV r w):=by
 have e1:=text_back r ByteArray.empty 2048 (by omega)
 rw[if_neg (by omega),ByteArray.append_empty] at e1
 have hz:=Fr.empty_wait
 have hsz:(textS r).size≤3000:=by
  have:=numS_size r.size (by omega)
  unfold textS
  rw[ByteArray.size_append]
  omega
 obtain⟨q1,q2,hq⟩:∃q1 q2,takeText ByteArray.empty 2048=(q1,q2,2):=⟨_,_,Prod.ext rfl (Prod.ext rfl hz)⟩
 have HC1:Hid (∀W:World,Calls Tryz.prog 41 #[.string (textS r),.int .i64 2048] W fun e w'=>e= .returned (.tuple #[.string r,.string ByteArray.empty,.int .i64 0])∧Below W.heap.size W w'):=h_ fun W=>by
  have h:=Fr.refTakeText_calls (textS r) 2048 W (by omega) (by decide)
  rw[e1] at h
  exact h
 have HC2:Hid (∀W:World,Calls Tryz.prog 41 #[.string ByteArray.empty,.int .i64 2048] W fun e w'=>e= .returned (.tuple #[.string q1,.string q2,.int .i64 2])∧Below W.heap.size W w'):=h_ fun W=>by
  have h:=Fr.refTakeText_calls ByteArray.empty 2048 W (by decide) (by decide)
  rw[hq] at h
  exact h
 have he:ByteArray.empty.size=0:=rfl
 generalize textS r=s at HC1 hsz⊢
 have hs1:∀u:World,(Instr.slice 9 (.string s) (some (.int .i64 0)) none none).run Tryz.prog u= .ok (.string s) u:=fun u=>by
  rw[run_slice_string_l u _ s Tryz.underlying9 .i64 0 (by omega) (by omega)]
  simp
 have hs2:∀u:World,(Instr.slice 9 (.string s) (some (.int .i64 (s.size:Int))) none none).run Tryz.prog u= .ok (.string ByteArray.empty) u:=fun u=>by
  rw[run_slice_string_l u _ s Tryz.underlying9 .i64 _ (by omega) (by omega)]
  simp
 have hw1:IntKind.i64.wrap (s.size:Int)=(s.size:Int):=by rw[IntKind.wrap_i64];omega
 clear e1 hz hq h
 have HB:Hid (Below w.heap.size w w):=h_ (Below.refl _ _)
 go_enter Tryz.func22,Tryz.ntmps22
 go_wp2
 refine wp_loop_rounds 2 ?_
 rw[rounds_succ]
 go_wp2_with fail
 refine(HC1.out _).mono ?_
 rintro e w1 ⟨rfl,hb⟩
 obtain⟨hz,HB⟩:=m1 hb HB
 go_wp2_with (at_builtin;refine print_append_cells (w0:=_) _ rfl _ _ 84 9 _ 1 16 rfl Tryz.underlying84 infoSt rfl (by decide) (by decide) (.slice none 0 0) 0 [] (tySt.enc r) rfl rfl rfl (tySt.one _) (World.ownsRow_nil _ _ _ _) (Below.refl _ _) (Nat.le_refl _) ?_ ?_)
 ·decide
 intro v_ w2 hown hb _ _
 obtain⟨q,cap,cur,rfl,_,_,_,_,_⟩:=own_form hown (Nat.succ_pos 0)
 have HL:=h_ (Rs.of_own (T:=tySt) (l:= [r]) hown)
 clear hown
 obtain⟨hz,HB⟩:=m1 hb HB
 go_wp2
 rw[rounds_succ]
 go_wp2_with fail
 refine(HC2.out _).mono ?_
 rintro e w3 ⟨rfl,hb⟩
 obtain⟨hz,HL,HB⟩:=m2 hb HL HB
 go_wp2
 go_ret3
 exact⟨_,_,_,rfl,HL.out,HB.out⟩
theorem ref_find (K:Option Addr)(kc:Nat)(tok x:ByteArray)(w:World)(h:Rs tyPr 123 w (.slice K 1 kc) [⟨tok,x⟩]):Calls Tryz.prog 25 #[.slice K 1 kc,.string tok] w fun e w'=>e= .returned (.tuple #[.string x,.bool true])∧w'=w:=by
 obtain⟨b,c',hv,_,hbw⟩:=head_Pr h (by simp)
 cases hv
 obtain⟨x0,x1⟩:=el0_Pr h ⟨tok,x⟩ rfl
 have hq:(tok.toList==tok.toList)=true:=beq_self_eq_true _
 go_enter Tryz.func25,Tryz.ntmps25
 go_wp2
 refine wp_loop_rounds 1 ?_
 rw[rounds_succ]
 go_wp2
 go_ret2
 exact⟨rfl,rfl⟩
theorem ref_decided (Dv:Value)(K:Option Addr)(kc:Nat)(tok x:ByteArray)(w:World)(h:Rs tyPr 123 w (.slice K 1 kc) [⟨tok,x⟩]):Calls Tryz.prog 11 #[.agg #[Dv,.slice K 1 kc],.string tok] w fun e w'=>e= .returned (.tuple #[.string x,.bool true])∧Below w.heap.size w w':=by
 have HB:Hid (Below w.heap.size w w):=h_ (Below.refl _ _)
 have HK:=h_ h
 clear h
 go_enter Tryz.func11,Tryz.ntmps11
 go_wp2_with fail
 refine(ref_find K kc tok x _ (Rs.below HK.out (below_alloc HB.out _))).mono ?_
 rintro e w1 ⟨rfl,rfl⟩
 go_wp2
 go_ret2
 exact⟨rfl,(below_alloc HB.out _)⟩
theorem top_framed (a0 a1 a2 a3:Int)(t:ByteArray)(o:Int)(y v l h:ByteArray)(m:Int)(w:World)(hm:mayQ a0 a1 a2 a3 t o y v l h m):Calls Tryz.prog 8 #[.agg #[.int .i64 a0,.int .i64 a1,.int .i64 a2,.int .i64 a3,.string t,.int .i64 o,.string y,.string v,.string l,.string h,.int .i64 m]] w fun e w'=>e= .returned (.string (Wire.textW (Enc.encQ a0 a1 a2 a3 t o y v l h m)))∧Below w.heap.size w w':=by
 have hf:=Enc.refreq_f 1 a0 a1 a2 a3 t o y v l h m
 rw[if_pos hm] at hf
 have hsz:=(Enc.encQ_size hm).2
 have HF:=h_ hf
 clear hf hm
 have HB:Hid (Below w.heap.size w w):=h_ (Below.refl _ _)
 go_enter Tryz.func8,Tryz.ntmps8
 go_upto_region 1 with(fail)
 refine nm fun w0 hb=>?_
 obtain⟨hz,_,hb,KQ⟩:=na1 hb
 obtain⟨hz,HB⟩:=m1 hb HB
 have CQ:=cells11 KQ.out
 go_wp2_with fail
 refine(stanchionref16_Req.calls (1+4) a0 a1 a2 a3 t o y v l h m _ _ _ HF.out).mono ?_
 rintro e w1 ⟨rfl,hb⟩
 clear CQ
 obtain⟨hz,KQ,HB⟩:=m2 hb KQ HB
 go_wp2_with fail
 refine(ref_wrap _ _ (by omega)).mono ?_
 rintro e w2 ⟨rfl,hb⟩
 obtain⟨hz,KQ,HB⟩:=m2 hb KQ HB
 go_wp2
 go_ret
 exact⟨rfl,HB.out⟩
end Go.Proofs.YtmgmdiekpmffbaaGreatDoor.Top
namespace Go.Proofs.YtmgmdiekpmffbaaGreatDoor.Reader
open Go Go.RowKit Go.Proofs.YtmgmdiekpmffbaaGreatDoor.DecM Go.Proofs.YtmgmdiekpmffbaaGreatDoor.Giv Go.Proofs.YtmgmdiekpmffbaaGreatDoorW.PrintWords Go.Proofs.YtmgmdiekpmffbaaGreatDoorW.PrintLast Go.Proofs.YtmgmdiekpmffbaaGreatDoor.QWi
set_option linter.unusedSimpArgs false
set_option linter.unusedVariables false
def rrStep (p:List S123×ByteArray×ByteArray×Bool):List S123×ByteArray×ByteArray×Bool:=(p.1++ [⟨(rdR p.2.2.1 p.2.2.2 32).1,(rdR (rdR p.2.2.1 p.2.2.2 32).2.1 (rdR p.2.2.1 p.2.2.2 32).2.2 64).1⟩],rdR (rdR p.2.2.1 p.2.2.2 32).2.1 (rdR p.2.2.1 p.2.2.2 32).2.2 64)
def rrI (x:ByteArray×Bool):Nat→List S123×ByteArray×ByteArray×Bool
 |0=>([],⟨#[]⟩,x)
 |i+1=>rrStep (rrI x i)
theorem rrI_size (x:ByteArray×Bool)(i:Nat):(rrI x i).2.2.1.size≤x.1.size:=by
 induction i with
 |zero=>exact Nat.le_refl _
 |succ i ih=>
  show(rdR (rdR (rrI x i).2.2.1 (rrI x i).2.2.2 32).2.1 (rdR (rrI x i).2.2.1 (rrI x i).2.2.2 32).2.2 64).2.1.size≤_
  have h1:=rdR_size (rrI x i).2.2.1 (rrI x i).2.2.2 32
  have h2:=rdR_size (rdR (rrI x i).2.2.1 (rrI x i).2.2.2 32).2.1 (rdR (rrI x i).2.2.1 (rrI x i).2.2.2 32).2.2 64
  exact Nat.le_trans h2 (Nat.le_trans h1 ih)
theorem rrI_length (x:ByteArray×Bool)(i:Nat):(rrI x i).1.length=i:=by
 induction i with
 |zero=>rfl
 |succ i ih=>
  show((rrI x i).1++ [_]).length=_
  rw[List.length_append,ih]
  rfl
theorem refrep_good (s:ByteArray)(w:World)(hs:s.size≤9223372036854775807)(v1:Int×ByteArray×Bool)(v2:Int×ByteArray×Bool)(v3:Int×ByteArray×Bool)(v4:Int×ByteArray×Bool)(v5:ByteArray×ByteArray×Bool)(v6:Int×ByteArray×Bool)(v7:Int×ByteArray×Bool)(m:Nat)(r8:ByteArray)(h1:tkR s true=v1)(h2:tkR v1.2.1 v1.2.2=v2)(h3:tkR v2.2.1 v2.2.2=v3)(h4:tkR v3.2.1 v3.2.2=v4)(h5:rdR v4.2.1 v4.2.2 64=v5)(h6:tkR v5.2.1 v5.2.2=v6)(h7:tkR v6.2.1 v6.2.2=v7)(h8:tkR v7.2.1 v7.2.2=((m:Int),r8,true))
  (h6b:v6.1≤1) (h7b:v7.1≤1) (hm:m≤16) (h4b:v4.1≤16) (hri:(rrI (r8,true) m).2.2.2=true) (hrz:(rrI (r8,true) m).2.2.1.size=0) (hmb:∀(A:Option Addr) (c:Nat) (W:World),Kd.C k123 W A (rrI (r8,true) m).1.length (rrI (r8,true) m).1→(rrI (r8,true) m).1.length≤c→Calls Tryz.prog 44 #[.agg #[.int .i64 v1.1,.int .i64 v2.1,.int .i64 v3.1,.int .i64 v4.1,.string v5.1,.bool (v6.1==1),.slice A (rrI (r8,true) m).1.length c,.bool (v7.1==1)]] W fun e w'=>Gives (.bool true) W e w')
  (P:S65×Int) (hP:(⟨v1.1,v2.1,v3.1,v4.1,v5.1,v6.1==1,(rrI (r8,true) m).1,v7.1==1⟩,0)=P):
  Calls Tryz.prog 23 #[.string s] w fun e w'=>∃vr,e= .returned (repOut P vr)∧Kd.R k123 123 w' w.heap.size (fun _=>True) vr P.1.f6∧Below w.heap.size w w':=by
 have z1:v1.2.1.size≤s.size:=by have h:=tkR_size s true;rw[h1] at h;omega
 have z2:v2.2.1.size≤s.size:=by have h:=tkR_size v1.2.1 v1.2.2;rw[h2] at h;omega
 have z3:v3.2.1.size≤s.size:=by have h:=tkR_size v2.2.1 v2.2.2;rw[h3] at h;omega
 have z4:v4.2.1.size≤s.size:=by have h:=tkR_size v3.2.1 v3.2.2;rw[h4] at h;omega
 have z5:v5.2.1.size≤s.size:=by have h:=rdR_size v4.2.1 v4.2.2 64;rw[h5] at h;omega
 have z6:v6.2.1.size≤s.size:=by have h:=tkR_size v5.2.1 v5.2.2;rw[h6] at h;omega
 have z7:v7.2.1.size≤s.size:=by have h:=tkR_size v6.2.1 v6.2.2;rw[h7] at h;omega
 have z8:r8.size≤s.size:=by have h:=tkR_size v7.2.1 v7.2.2;rw[h8] at h;dsimp only at h;omega
 have HB0:=Lib.hid (Bk.start w #[.int .i64 0,.int .i64 0,.int .i64 0,.int .i64 0,.string ⟨#[]⟩,.bool false,.slice none 0 0,.bool false] 65 (by simp))
 have Z1:=Lib.hid z1
 have H1:=Lib.hid h1
 have Z2:=Lib.hid z2
 have H2:=Lib.hid h2
 have Z3:=Lib.hid z3
 have H3:=Lib.hid h3
 have Z4:=Lib.hid z4
 have H4:=Lib.hid h4
 have Z5:=Lib.hid z5
 have H5:=Lib.hid h5
 have Z6:=Lib.hid z6
 have H6:=Lib.hid h6
 have Z7:=Lib.hid z7
 have H7:=Lib.hid h7
 have Z8:=Lib.hid z8
 have H8:=Lib.hid h8
 have HSS:=Lib.hid hs
 clear hs z1 h1 z2 h2 z3 h3 z4 h4 z5 h5 z6 h6 z7 h7 z8 h8
 have HRI:=Lib.hid hri
 have HRZ:=Lib.hid hrz
 clear hri hrz
 have HM:=Lib.hid hm
 have HMB:=Lib.hid hmb
 have HP:=Lib.hid hP
 have c1:decide (1<v6.1)=false:=decide_eq_false (by omega)
 have c2:decide (1<v7.1)=false:=decide_eq_false (by omega)
 have c3:decide (16<(m:Int))=false:=decide_eq_false (by omega)
 have c4:decide (16<v4.1)=false:=decide_eq_false (by omega)
 clear hm hmb hP h6b h7b h4b
 go_enter Tryz.func23,Tryz.ntmps23
 go_wp2_with (go_at_call 42;refine(takes_is 0 ⟨#[]⟩ s true (by have:=HSS.out;have:=HSS.out;omega) _).mono ?_)
 rintro e w1 ⟨rfl,b1⟩
 rw[H1.out]
 have B1:=HB0.out.call b1
 have HB1:=Lib.hid (B1.push #[.int .i64 v1.1,.string ⟨#[]⟩,.string v1.2.1,.bool v1.2.2] 119 (by simp))
 clear b1 B1 H1 HB0
 go_wp2_with (go_at_call 42;refine(takes_is v1.1 ⟨#[]⟩ v1.2.1 v1.2.2 (by have:=Z1.out;have:=HSS.out;omega) _).mono ?_)
 rintro e w2 ⟨rfl,b2⟩
 rw[H2.out]
 have B2:=HB1.out.call b2
 have HB2:=Lib.hid (B2.push #[.int .i64 v2.1,.string ⟨#[]⟩,.string v2.2.1,.bool v2.2.2] 119 (by simp))
 clear b2 B2 H2 HB1 Z1
 go_wp2_with (go_at_call 42;refine(takes_is v2.1 ⟨#[]⟩ v2.2.1 v2.2.2 (by have:=Z2.out;have:=HSS.out;omega) _).mono ?_)
 rintro e w3 ⟨rfl,b3⟩
 rw[H3.out]
 have B3:=HB2.out.call b3
 have HB3:=Lib.hid (B3.push #[.int .i64 v3.1,.string ⟨#[]⟩,.string v3.2.1,.bool v3.2.2] 119 (by simp))
 clear b3 B3 H3 HB2 Z2
 go_wp2_with (go_at_call 42;refine(takes_is v3.1 ⟨#[]⟩ v3.2.1 v3.2.2 (by have:=Z3.out;have:=HSS.out;omega) _).mono ?_)
 rintro e w4 ⟨rfl,b4⟩
 rw[H4.out]
 have B4:=HB3.out.call b4
 have HB4:=Lib.hid (B4.push #[.int .i64 v4.1,.string ⟨#[]⟩,.string v4.2.1,.bool v4.2.2] 119 (by simp))
 clear b4 B4 H4 HB3 Z3
 go_wp2_with (go_at_call 43;refine(reads_is v4.1 ⟨#[]⟩ v4.2.1 v4.2.2 64 (by have:=Z4.out;have:=HSS.out;omega) (by omega) _).mono ?_)
 rintro e w5 ⟨rfl,b5⟩
 rw[H5.out]
 have B5:=HB4.out.call b5
 have HB5:=Lib.hid (B5.push #[.int .i64 0,.string v5.1,.string v5.2.1,.bool v5.2.2] 119 (by simp))
 clear b5 B5 H5 HB4 Z4
 go_wp2_with (go_at_call 42;refine(takes_is 0 v5.1 v5.2.1 v5.2.2 (by have:=Z5.out;have:=HSS.out;omega) _).mono ?_)
 rintro e w6 ⟨rfl,b6⟩
 rw[H6.out]
 have B6:=HB5.out.call b6
 have HB6:=Lib.hid (B6.push #[.int .i64 v6.1,.string ⟨#[]⟩,.string v6.2.1,.bool v6.2.2] 119 (by simp))
 clear b6 B6 H6 HB5 Z5
 go_wp2_with (go_at_call 42;refine(takes_is v6.1 ⟨#[]⟩ v6.2.1 v6.2.2 (by have:=Z6.out;have:=HSS.out;omega) _).mono ?_)
 rintro e w7 ⟨rfl,b7⟩
 rw[H7.out]
 have B7:=HB6.out.call b7
 have HB7:=Lib.hid (B7.push #[.int .i64 v7.1,.string ⟨#[]⟩,.string v7.2.1,.bool v7.2.2] 119 (by simp))
 clear b7 B7 H7 HB6 Z6
 go_wp2_with (go_at_call 42;refine(takes_is v7.1 ⟨#[]⟩ v7.2.1 v7.2.2 (by have:=Z7.out;have:=HSS.out;omega) _).mono ?_)
 rintro e w8 ⟨rfl,b8⟩
 rw[H8.out]
 dsimp only
 have B8:=HB7.out.call b8
 have HB8:=Lib.hid (B8.push #[.int .i64 (m:Int),.string ⟨#[]⟩,.string r8,.bool true] 119 (by simp))
 clear b8 B8 H8 HB7 Z7
 have x8_0:=(HB8.out.at' 0 rfl).c 0 (by simp)
 have x8_3:=(HB8.out.at' 0 rfl).c 3 (by simp)
 simp only[List.getElem_cons_zero,List.getElem_cons_succ] at x8_0 x8_3
 have x1_0:=(HB8.out.at' 7 rfl).c 0 (by simp)
 simp only[List.getElem_cons_zero,List.getElem_cons_succ] at x1_0
 have x2_0:=(HB8.out.at' 6 rfl).c 0 (by simp)
 simp only[List.getElem_cons_zero,List.getElem_cons_succ] at x2_0
 have x3_0:=(HB8.out.at' 5 rfl).c 0 (by simp)
 simp only[List.getElem_cons_zero,List.getElem_cons_succ] at x3_0
 have x4_0:=(HB8.out.at' 4 rfl).c 0 (by simp)
 simp only[List.getElem_cons_zero,List.getElem_cons_succ] at x4_0
 have x6_0:=(HB8.out.at' 2 rfl).c 0 (by simp)
 simp only[List.getElem_cons_zero,List.getElem_cons_succ] at x6_0
 have x7_0:=(HB8.out.at' 1 rfl).c 0 (by simp)
 simp only[List.getElem_cons_zero,List.getElem_cons_succ] at x7_0
 have x5_1:=(HB8.out.at' 3 rfl).c 1 (by simp)
 simp only[List.getElem_cons_zero,List.getElem_cons_succ] at x5_1
 have HBp:=Lib.hid (HB8.out.push #[.int .i64 v1.1,.int .i64 v2.1,.int .i64 v3.1,.int .i64 v4.1,.string v5.1,.bool (v6.1==1),.slice none 0 0,.bool (v7.1==1)] 65 (by simp))
 have hz8:(w8.alloc (.cells #[.int .i64 (m:Int),.string ⟨#[]⟩,.string r8,.bool true] 119)).heap.size=w8.heap.size+1:=by simp
 rw[hz8] at HBp
 have r8_0:=(HBp.out.at' 1 rfl).c 0 (by simp)
 have r8_1:=(HBp.out.at' 1 rfl).c 1 (by simp)
 have r8_2:=(HBp.out.at' 1 rfl).c 2 (by simp)
 have r8_3:=(HBp.out.at' 1 rfl).c 3 (by simp)
 simp only[List.getElem_cons_zero,List.getElem_cons_succ] at r8_0 r8_1 r8_2 r8_3
 have HBl:=Lib.hid (HBp.out.push #[.int .i64 (m:Int),.string ⟨#[]⟩,.string r8,.bool true] 119 (by simp))
 have hz9:((w8.alloc (.cells #[.int .i64 (m:Int),.string ⟨#[]⟩,.string r8,.bool true] 119)).alloc (.cells #[.int .i64 v1.1,.int .i64 v2.1,.int .i64 v3.1,.int .i64 v4.1,.string v5.1,.bool (v6.1==1),.slice none 0 0,.bool (v7.1==1)] 65)).heap.size=w8.heap.size+1+1:=by simp
 rw[hz9] at HBl
 clear hz8 hz9 HBp HB8
 have LP0:Aside0 (∃n:Int,Bk w [(w8.heap.size+1+1,[.int .i64 n,.string (rrI (r8,true) 0).2.1,.string (rrI (r8,true) 0).2.2.1,.bool (rrI (r8,true) 0).2.2.2]),(w8.heap.size+1,[.int .i64 v1.1,.int .i64 v2.1,.int .i64 v3.1,.int .i64 v4.1,.string v5.1,.bool (v6.1==1),.slice none (rrI (r8,true) 0).1.length 0,.bool (v7.1==1)]),(w8.heap.size,[.int .i64 (m:Int),.string ⟨#[]⟩,.string r8,.bool true]),(w7.heap.size,[.int .i64 v7.1,.string ⟨#[]⟩,.string v7.2.1,.bool v7.2.2]),(w6.heap.size,[.int .i64 v6.1,.string ⟨#[]⟩,.string v6.2.1,.bool v6.2.2]),(w5.heap.size,[.int .i64 0,.string v5.1,.string v5.2.1,.bool v5.2.2]),(w4.heap.size,[.int .i64 v4.1,.string ⟨#[]⟩,.string v4.2.1,.bool v4.2.2]),(w3.heap.size,[.int .i64 v3.1,.string ⟨#[]⟩,.string v3.2.1,.bool v3.2.2]),(w2.heap.size,[.int .i64 v2.1,.string ⟨#[]⟩,.string v2.2.1,.bool v2.2.2]),(w1.heap.size,[.int .i64 v1.1,.string ⟨#[]⟩,.string v1.2.1,.bool v1.2.2]),(w.heap.size,[.int .i64 0,.int .i64 0,.int .i64 0,.int .i64 0,.string ⟨#[]⟩,.bool false,.slice none 0 0,.bool false])] (((w8.alloc (.cells #[.int .i64 (m:Int),.string ⟨#[]⟩,.string r8,.bool true] 119)).alloc (.cells #[.int .i64 v1.1,.int .i64 v2.1,.int .i64 v3.1,.int .i64 v4.1,.string v5.1,.bool (v6.1==1),.slice none 0 0,.bool (v7.1==1)] 65)).alloc (.cells #[.int .i64 (m:Int),.string ⟨#[]⟩,.string r8,.bool true] 119)) (.slice none ((rrI (r8,true) 0).1.length) 0) (rrI (r8,true) 0).1):=⟨⟨_,HBl.out⟩⟩
 clear HBl
 go_wp2
 go_loopg [14] m (fun kq v14 w'=>∃(i:Nat) (n:Int) (A:Option Addr) (c:Nat),v14= .int .i64 i∧Aside0 (kq+i=m)∧Aside0 (Bk w [(w8.heap.size+1+1,[.int .i64 n,.string (rrI (r8,true) i).2.1,.string (rrI (r8,true) i).2.2.1,.bool (rrI (r8,true) i).2.2.2]),(w8.heap.size+1,[.int .i64 v1.1,.int .i64 v2.1,.int .i64 v3.1,.int .i64 v4.1,.string v5.1,.bool (v6.1==1),.slice A (rrI (r8,true) i).1.length c,.bool (v7.1==1)]),(w8.heap.size,[.int .i64 (m:Int),.string ⟨#[]⟩,.string r8,.bool true]),(w7.heap.size,[.int .i64 v7.1,.string ⟨#[]⟩,.string v7.2.1,.bool v7.2.2]),(w6.heap.size,[.int .i64 v6.1,.string ⟨#[]⟩,.string v6.2.1,.bool v6.2.2]),(w5.heap.size,[.int .i64 0,.string v5.1,.string v5.2.1,.bool v5.2.2]),(w4.heap.size,[.int .i64 v4.1,.string ⟨#[]⟩,.string v4.2.1,.bool v4.2.2]),(w3.heap.size,[.int .i64 v3.1,.string ⟨#[]⟩,.string v3.2.1,.bool v3.2.2]),(w2.heap.size,[.int .i64 v2.1,.string ⟨#[]⟩,.string v2.2.1,.bool v2.2.2]),(w1.heap.size,[.int .i64 v1.1,.string ⟨#[]⟩,.string v1.2.1,.bool v1.2.2]),(w.heap.size,[.int .i64 0,.int .i64 0,.int .i64 0,.int .i64 0,.string ⟨#[]⟩,.bool false,.slice none 0 0,.bool false])] w' (.slice A (rrI (r8,true) i).1.length c) (rrI (r8,true) i).1))
 case atStart=>
  obtain⟨n,h⟩:=LP0.out
  exact⟨0,n,none,0,rfl,⟨by omega⟩,⟨h⟩⟩
 case round=>
  obtain⟨i,n,A,c,rfl,HK,HL⟩:=hrel
  clear LP0 x8_0 x8_3 x1_0 x2_0 x3_0 x4_0 x6_0 x7_0 x5_1 r8_0 r8_1 r8_2 r8_3
  have hsz:=Lib.hid (show(rrI (r8,true) i).2.2.1.size≤r8.size from rrI_size (r8,true) i)
  by_cases hi:i<m
  ·have c0b:decide ((i:Int)<(m:Int))=true:=decide_eq_true (by omega)
   have x8_0:=(HL.out.at' 2 rfl).c 0 (by simp)
   simp only[List.getElem_cons_zero,List.getElem_cons_succ] at x8_0
   have l0:=(HL.out.at' 0 rfl).c 0 (by simp)
   have l1:=(HL.out.at' 0 rfl).c 1 (by simp)
   have l2:=(HL.out.at' 0 rfl).c 2 (by simp)
   have l3:=(HL.out.at' 0 rfl).c 3 (by simp)
   simp only[List.getElem_cons_zero,List.getElem_cons_succ] at l0 l1 l2 l3
   obtain⟨k1,hk1⟩:∃v,rdR (rrI (r8,true) i).2.2.1 (rrI (r8,true) i).2.2.2 32=v:=⟨_,rfl⟩
   obtain⟨k2,hk2⟩:∃v,rdR k1.2.1 k1.2.2 64=v:=⟨_,rfl⟩
   have hstep:rrI (r8,true) (i+1)=((rrI (r8,true) i).1++ [⟨k1.1,k2.1⟩],k2):=by
    show rrStep _=_
    unfold rrStep
    rw[hk1,hk2]
   have hz1:k1.2.1.size≤(rrI (r8,true) i).2.2.1.size:=by have h:=rdR_size (rrI (r8,true) i).2.2.1 (rrI (r8,true) i).2.2.2 32;rw[hk1] at h;exact h
   have hlen:=rrI_length (r8,true) i
   have HSTEP:=Lib.hid hstep
   have HK1:=Lib.hid hk1
   have HK2:=Lib.hid hk2
   have HZ1:=Lib.hid hz1
   have HLEN:=Lib.hid hlen
   clear hstep hk1 hk2 hz1 hlen
   generalize rrI (r8,true) i=p at *
   go_wp2_with (go_at_call 43;refine(reads_is n p.2.1 p.2.2.1 p.2.2.2 32 (by have:=hsz.out;have:=Z8.out;have:=HSS.out;omega) (by omega) _).mono ?_)
   rintro e w20 ⟨rfl,b20⟩
   rw[HK1.out]
   have B20:=HL.out.call b20
   have HB20:=Lib.hid (B20.push #[.int .i64 0,.string k1.1,.string k1.2.1,.bool k1.2.2] 119 (by simp))
   clear b20 B20 l0 l1 l2 l3 x8_0
   go_wp2_with (go_at_call 43;refine(reads_is 0 k1.1 k1.2.1 k1.2.2 64 (by have:=HZ1.out;have:=hsz.out;have:=Z8.out;have:=HSS.out;omega) (by omega) _).mono ?_)
   rintro e w21 ⟨rfl,b21⟩
   rw[HK2.out]
   have HB21:=Lib.hid (HB20.out.call b21)
   clear b21 HB20
   have m0:=(HB21.out.at' 1 rfl).c 0 (by simp)
   have m1:=(HB21.out.at' 1 rfl).c 1 (by simp)
   have m2:=(HB21.out.at' 1 rfl).c 2 (by simp)
   have m3:=(HB21.out.at' 1 rfl).c 3 (by simp)
   simp only[List.getElem_cons_zero,List.getElem_cons_succ] at m0 m1 m2 m3
   have zm0:=(HB21.out.at' 1 rfl).f 0
   have zm1:=(HB21.out.at' 1 rfl).f 1
   have zm2:=(HB21.out.at' 1 rfl).f 2
   have zm3:=(HB21.out.at' 1 rfl).f 3
   have HB22:=Lib.hid (Bk.store (pre:= [_]) ((Bk.store (pre:= [_]) ((Bk.store (pre:= [_]) ((Bk.store (pre:= [_]) (HB21.out) 0 (by simp) (.int .i64 0))) 1 (by simp) (.string k2.1))) 2 (by simp) (.string k2.2.1))) 3 (by simp) (.bool k2.2.2))
   simp only[List.set_cons_zero,List.set_cons_succ,List.cons_append,List.nil_append] at HB22
   clear HB21
   have y6:=(HB22.out.at' 2 rfl).c 6 (by simp)
   simp only[List.getElem_cons_zero,List.getElem_cons_succ] at y6
   have ky1:=(HB22.out.at' 0 rfl).c 1 (by simp)
   simp only[List.getElem_cons_zero,List.getElem_cons_succ] at ky1
   have nl1:=(HB22.out.at' 1 rfl).c 1 (by simp)
   simp only[List.getElem_cons_zero,List.getElem_cons_succ] at nl1
   go_wp2_with ((with_reducible refine gate_builtin (b:= .append) (xs:=#[.tmp 87,.tmp 93]) rfl ?_);(try(refine gate_guard (by rfl) ?_;dsimp only));at_builtin;refine Kd.R_append k123 (w0:=w) w.heap.size rfl (.tmp 87) (.tmp 93) 31 123 (.agg #[(.string ⟨#[]⟩),(.string ⟨#[]⟩)]) 32 rfl Tryz.underlying31 info123 rfl (by decide) (by omega) (.slice A p.1.length c) p.1 (⟨k1.1,k2.1⟩:S123) [.string k1.1,.string k2.1] (fun k=>k∉ [w20.heap.size,w8.heap.size+1+1,w8.heap.size+1,w8.heap.size,w7.heap.size,w6.heap.size,w5.heap.size,w4.heap.size,w3.heap.size,w2.heap.size,w1.heap.size,w.heap.size]) (fun _=>False) rfl (by first|(go_simp;done)|(go_simp;rfl)) ?aP (fun _ hk=>hk.elim) ?aF ?aO ?aB ?aS ?aL ?_;(case aP=>exact k123_mkM _ _ _ _);(case aF=>exact(fun k hk hm=>Nat.lt_irrefl k (Nat.lt_of_lt_of_le (HB22.out.lt (k:=k) hm) hk)));(case aO=>exact HB22.out.row);(case aB=>exact HB22.out.bel);(case aS=>exact HB22.out.bel.size);(case aL=>exact(by have:=HLEN.out;have:=HM.out;omega));intro v1x w22 hR hB hG hAt;have B23:=HB22.out.grown hR hB hG;obtain⟨A1,c1x,e1⟩:=Kd.R_slice hR;have e5:(p.1++ [(⟨k1.1,k2.1⟩:S123)]).length=p.1.length+1:=(by simp);rw[e5] at e1;subst e1;have y5:=(B23.at' 2 rfl).c 6 (by simp);have gy5:=(B23.at' 2 rfl).f 6;have HB24:=Lib.hid (Bk.drop (Bk.store (pre:= [_,_]) B23 6 (by simp) (.slice A1 (p.1.length+1) c1x)));have HE5:=Lib.hid e5;clear e5;simp only[List.getElem_cons_zero,List.getElem_cons_succ] at y5;clear hR hB hG hAt B23 HB22)
   go_roundg (gk - 1)
   case measure=>have:=HK.out;omega
   case rel=>
    refine⟨i+1,0,A1,c1x,by rw[w_nat i (by have:=HM.out;omega)],⟨by have:=HK.out;omega⟩,⟨?_⟩⟩
    rw[HSTEP.out]
    dsimp only
    rw[HE5.out]
    exact HB24.out
  ·have c0b:decide ((i:Int)<(m:Int))=false:=decide_eq_false (by omega)
   have e:i=m:=by have:=HK.out;omega
   subst e
   have x8_0:=(HL.out.at' 2 rfl).c 0 (by simp)
   simp only[List.getElem_cons_zero,List.getElem_cons_succ] at x8_0
   have q0:=(HL.out.at' 1 rfl).c 0 (by simp)
   have q1:=(HL.out.at' 1 rfl).c 1 (by simp)
   have q2:=(HL.out.at' 1 rfl).c 2 (by simp)
   have q3:=(HL.out.at' 1 rfl).c 3 (by simp)
   have q4:=(HL.out.at' 1 rfl).c 4 (by simp)
   have q5:=(HL.out.at' 1 rfl).c 5 (by simp)
   have q6:=(HL.out.at' 1 rfl).c 6 (by simp)
   have q7:=(HL.out.at' 1 rfl).c 7 (by simp)
   simp only[List.getElem_cons_zero,List.getElem_cons_succ] at q0 q1 q2 q3 q4 q5 q6 q7
   obtain⟨A9,c9,e9,hc9,hC9⟩:=Kd.R_reads HL.out.row
   cases e9
   have HC9:=Lib.hid hC9
   have Hc9:=Lib.hid hc9
   clear hC9 hc9 HK
   go_wp2_with (go_at_call 44;refine(HMB.out A c _ HC9.out Hc9.out).mono ?_)
   rintro e w30 ⟨rfl,b30⟩
   have HB30:=Lib.hid (HL.out.call b30)
   clear b30 HL HC9 Hc9 HMB x8_0 q0 q1 q2 q3 q4 q5 q6 q7
   have l2:=(HB30.out.at' 0 rfl).c 2 (by simp)
   have l3:=(HB30.out.at' 0 rfl).c 3 (by simp)
   simp only[List.getElem_cons_zero,List.getElem_cons_succ] at l2 l3
   have p0:=(HB30.out.at' 1 rfl).c 0 (by simp)
   have p1:=(HB30.out.at' 1 rfl).c 1 (by simp)
   have p2:=(HB30.out.at' 1 rfl).c 2 (by simp)
   have p3:=(HB30.out.at' 1 rfl).c 3 (by simp)
   have p4:=(HB30.out.at' 1 rfl).c 4 (by simp)
   have p5:=(HB30.out.at' 1 rfl).c 5 (by simp)
   have p6:=(HB30.out.at' 1 rfl).c 6 (by simp)
   have p7:=(HB30.out.at' 1 rfl).c 7 (by simp)
   simp only[List.getElem_cons_zero,List.getElem_cons_succ] at p0 p1 p2 p3 p4 p5 p6 p7
   have y0:=(HB30.out.at' 10 rfl).c 0 (by simp)
   have y1:=(HB30.out.at' 10 rfl).c 1 (by simp)
   have y2:=(HB30.out.at' 10 rfl).c 2 (by simp)
   have y3:=(HB30.out.at' 10 rfl).c 3 (by simp)
   have y4:=(HB30.out.at' 10 rfl).c 4 (by simp)
   have y5:=(HB30.out.at' 10 rfl).c 5 (by simp)
   have y6:=(HB30.out.at' 10 rfl).c 6 (by simp)
   have y7:=(HB30.out.at' 10 rfl).c 7 (by simp)
   simp only[List.getElem_cons_zero,List.getElem_cons_succ] at y0 y1 y2 y3 y4 y5 y6 y7
   have zy0:=(HB30.out.at' 10 rfl).f 0
   have zy1:=(HB30.out.at' 10 rfl).f 1
   have zy2:=(HB30.out.at' 10 rfl).f 2
   have zy3:=(HB30.out.at' 10 rfl).f 3
   have zy4:=(HB30.out.at' 10 rfl).f 4
   have zy5:=(HB30.out.at' 10 rfl).f 5
   have zy6:=(HB30.out.at' 10 rfl).f 6
   have zy7:=(HB30.out.at' 10 rfl).f 7
   have HQ:=Lib.hid (HB30.out.at' 10 rfl)
   have HBB:=Lib.hid HB30.out.bel
   have HRW:=Lib.hid HB30.out.row
   clear HB30
   have cz:decide (0<((rrI (r8,true) i).2.2.1.size:Int))=false:=decide_eq_false (by have:=HRZ.out;omega)
   have cy:decide (0<(rrI (r8,true) i).2.2.1.size)=false:=decide_eq_false (by have:=HRZ.out;omega)
   have ci:=HRI.out
   have eP:=HP.out
   subst eP
   clear HP
   go_wp2
   have KF:=((((((((HQ.out).set 0 (by simp) (.int .i64 v1.1)).set 1 (by simp) (.int .i64 v2.1)).set 2 (by simp) (.int .i64 v3.1)).set 3 (by simp) (.int .i64 v4.1)).set 4 (by simp) (.string v5.1)).set 5 (by simp) (.bool (v6.1==1))).set 6 (by simp) (.slice A (rrI (r8,true) i).1.length c)).set 7 (by simp) (.bool (v7.1==1))
   try simp only[Exit.inBlock,Exit.then]
   have HLD:=load_rep _ _ _ KF (.int .i64 v1.1) (.int .i64 v2.1) (.int .i64 v3.1) (.int .i64 v4.1) (.string v5.1) (.bool (v6.1==1)) (.slice A (rrI (r8,true) i).1.length c) (.bool (v7.1==1)) rfl
   refine bodyPost_ret (results_cell_tmp Tryz.results23 _ _ _ ⟨w.heap.size,0,none⟩ _ rfl HLD) rfl ?_
   refine⟨.slice A (rrI (r8,true) i).1.length c,?_,?_,?_⟩
   ·rfl
   ·exact Kd.R_mono (Kd.R_step (Kd.R_step (Kd.R_step (Kd.R_step (Kd.R_step (Kd.R_step (Kd.R_step (Kd.R_step (HRW.out) (fun k hk _=>Below.heap_setCell _ _ _ k (fun e=>hk (by rw[e];simp)))) (fun k hk _=>Below.heap_setCell _ _ _ k (fun e=>hk (by rw[e];simp)))) (fun k hk _=>Below.heap_setCell _ _ _ k (fun e=>hk (by rw[e];simp)))) (fun k hk _=>Below.heap_setCell _ _ _ k (fun e=>hk (by rw[e];simp)))) (fun k hk _=>Below.heap_setCell _ _ _ k (fun e=>hk (by rw[e];simp)))) (fun k hk _=>Below.heap_setCell _ _ _ k (fun e=>hk (by rw[e];simp)))) (fun k hk _=>Below.heap_setCell _ _ _ k (fun e=>hk (by rw[e];simp)))) (fun k hk _=>Below.heap_setCell _ _ _ k (fun e=>hk (by rw[e];simp)))) (fun _ _=>trivial)
   ·exact((((((((HBB.out).setCell (p:=⟨w.heap.size,_,none⟩) (Nat.le_refl _) _).setCell (p:=⟨w.heap.size,_,none⟩) (Nat.le_refl _) _).setCell (p:=⟨w.heap.size,_,none⟩) (Nat.le_refl _) _).setCell (p:=⟨w.heap.size,_,none⟩) (Nat.le_refl _) _).setCell (p:=⟨w.heap.size,_,none⟩) (Nat.le_refl _) _).setCell (p:=⟨w.heap.size,_,none⟩) (Nat.le_refl _) _).setCell (p:=⟨w.heap.size,_,none⟩) (Nat.le_refl _) _).setCell (p:=⟨w.heap.size,_,none⟩) (Nat.le_refl _) _
end Go.Proofs.YtmgmdiekpmffbaaGreatDoor.Reader
namespace Go.Proofs.YtmgmdiekpmffbaaGreatDoor.Enc
open Go Go.RowKit Go.Proofs.YtmgmdiekpmffbaaGreatDoor.DecM Go.Proofs.YtmgmdiekpmffbaaGreatDoor.Giv Go.Proofs.YtmgmdiekpmffbaaGreatDoor.Wire Go.Proofs.YtmgmdiekpmffbaaGreatDoor.Reader Go.Proofs.YtmgmdiekpmffbaaGreatDoor.QWi Go.Proofs.YtmgmdiekpmffbaaGreatDoorW.PrintWords Go.Proofs.YtmgmdiekpmffbaaGreatDoorW.PrintLast
def refP (a0 a1 a2 a3:Int)(t:ByteArray)(f o:Bool)(p:List S123×ByteArray×ByteArray×Bool):S65×Int:=
 if p.2.2.2=false then(z65,3)else if¬p.2.2.1.size=0 then(z65,3)else if decide (mayR a0 a1 a2 a3 t p.1)=true then(⟨a0,a1,a2,a3,t,f,p.1,o⟩,0)else (z65,3)
def refRepF (s:ByteArray):S65×Int:=
 nr (s,true) fun a1 x1=>nr x1 fun a2 x2=>nr x2 fun a3 x3=>nr x3 fun a4 x4=>tr x4 64 fun a5 x5=>nr x5 fun a6 x6=>nr x6 fun a7 x7=>nr x7 fun a8 x8=>
  if x8.2=false∨1<a6∨1<a7∨16<a8∨16<a4 then(z65,3)else refP a1 a2 a3 a4 a5 (a6==1) (a7==1) (rrI x8 a8.toNat)
theorem tkR_nonneg (s:ByteArray)(is:Bool):0≤(tkR s is).1:=by
 unfold tkR
 split
 ·exact takeNum_nonneg s
 ·exact Int.le_refl _
theorem refRep_all (s:ByteArray)(hs:s.size≤9223372036854775807)(h0:(refRepF s).2=0)(w:World):Calls Tryz.prog 23 #[.string s] w fun e w'=>∃vr,e= .returned (repOut (refRepF s) vr)∧Kd.R k123 123 w' w.heap.size (fun _=>True) vr (refRepF s).1.f6∧Below w.heap.size w w':=by
 obtain⟨v1,h1⟩:∃v,tkR s true=v:=⟨_,rfl⟩
 obtain⟨v2,h2⟩:∃v,tkR v1.2.1 v1.2.2=v:=⟨_,rfl⟩
 obtain⟨v3,h3⟩:∃v,tkR v2.2.1 v2.2.2=v:=⟨_,rfl⟩
 obtain⟨v4,h4⟩:∃v,tkR v3.2.1 v3.2.2=v:=⟨_,rfl⟩
 obtain⟨v5,h5⟩:∃v,rdR v4.2.1 v4.2.2 64=v:=⟨_,rfl⟩
 obtain⟨v6,h6⟩:∃v,tkR v5.2.1 v5.2.2=v:=⟨_,rfl⟩
 obtain⟨v7,h7⟩:∃v,tkR v6.2.1 v6.2.2=v:=⟨_,rfl⟩
 obtain⟨v8,h8⟩:∃v,tkR v7.2.1 v7.2.2=v:=⟨_,rfl⟩
 have hF:refRepF s=if v8.2.2=false∨1<v6.1∨1<v7.1∨16<v8.1∨16<v4.1 then(z65,3)else refP v1.1 v2.1 v3.1 v4.1 v5.1 (v6.1==1) (v7.1==1) (rrI v8.2 v8.1.toNat):=by
  unfold refRepF
  rw[nr_of _ h1,nr_of _ h2,nr_of _ h3,nr_of _ h4,tr_of _ h5,nr_of _ h6,nr_of _ h7,nr_of _ h8]
 have h8n:=tkR_nonneg v7.2.1 v7.2.2
 rw[h8] at h8n
 obtain⟨n8,r8,i8⟩:=v8
 dsimp only at hF h8n
 have e8:(n8,r8,i8)=(((n8.toNat:Nat):Int),r8,i8):=Prod.ext (by show n8=((n8.toNat:Nat):Int);omega) rfl
 rw[e8] at h8
 cases i8 with
 |false=>
  rw[if_pos (.inl rfl)] at hF
  rw[hF] at h0
  simp at h0
 |true=>
  by_cases hb:1<v6.1∨1<v7.1∨16<n8∨16<v4.1
  ·rw [if_pos (.inr hb)] at hF
   rw[hF] at h0
   simp at h0
  ·rw [if_neg (by
    rintro(h|h)
    ·cases h
    ·exact hb h)] at hF
   by_cases q1:(rrI (r8,true) n8.toNat).2.2.2=false
   ·rw [hF,refP,if_pos q1] at h0
    simp at h0
   by_cases q2:(rrI (r8,true) n8.toNat).2.2.1.size=0
   ·by_cases q3:mayR v1.1 v2.1 v3.1 v4.1 v5.1 (rrI (r8,true) n8.toNat).1
    ·rw [refP,if_neg q1,if_neg (fun h=>h q2),if_pos (decide_eq_true q3)] at hF
     exact refrep_good s w hs v1 v2 v3 v4 v5 v6 v7 n8.toNat r8 h1 h2 h3 h4 h5 h6 h7 h8 (by omega) (by omega) (by omega) (by omega) (by simpa using q1) q2 (ref_mayR _ _ _ _ _ _ _ _ q3) _ hF.symm
    ·rw [hF,refP,if_neg q1,if_neg (fun h=>h q2),if_neg (by simpa using q3)] at h0
     simp at h0
   ·rw [hF,refP,if_neg q1,if_pos q2] at h0
    simp at h0
theorem mayP_R (p:S65):mayP p=decide (mayR p.f0 p.f1 p.f2 p.f3 p.f4 p.f6):=mayB_is ..
theorem rr_step (l:List S123)(t s:ByteArray)(b:Bool):rrStep (l,t,s,b)=tr (s,b) 32 fun k x=>tr x 64 fun v y=>(l++ [⟨k,v⟩],v,y):=rfl
theorem rr_back (l:List S123)(ha:∀x∈l,x.f0.size≤32∧x.f1.size≤64)(r:ByteArray):∀i,i≤l.length→∃t,rrI (encRows l++r,true) i=(l.take i,t,encRows (l.drop i)++r,true):=by
 intro i
 induction i with
 |zero=>exact fun _=>⟨_,rfl⟩
 |succ i ih=>
  intro hi
  have hlt:i<l.length:=by omega
  obtain⟨s1,s2⟩:=ha l[i] (List.getElem_mem hlt)
  obtain⟨t,e⟩:=ih (by omega)
  refine⟨(l[i]).f1,?_⟩
  show rrStep (rrI (encRows l++r,true) i)=_
  rw[e,rr_step,List.drop_eq_getElem_cons hlt]
  show tr ((textS (l[i]).f0++(textS (l[i]).f1++encRows (l.drop (i+1))))++r,true) 32 _=_
  rw[asc,tr_back _ _ _ _ (by omega) (by omega),asc,tr_back _ _ _ _ (by omega) (by omega),List.take_succ_eq_append_getElem hlt]
def parsePR {α:Type}(x:ByteArray×Bool)(f:Int→Int→Int→Int→ByteArray→Int→Int→Int→ByteArray×Bool→α):α:=
 nr x fun a1 x1=>nr x1 fun a2 x2=>nr x2 fun a3 x3=>nr x3 fun a4 x4=>tr x4 64 fun a5 x5=>nr x5 fun a6 x6=>nr x6 fun a7 x7=>nr x7 fun a8 x8=>f a1 a2 a3 a4 a5 a6 a7 a8 x8
theorem refRep_parse (s:ByteArray):refRepF s=parsePR (s,true) fun a1 a2 a3 a4 a5 a6 a7 a8 x8=>if x8.2=false∨1<a6∨1<a7∨16<a8∨16<a4 then(z65,3)else refP a1 a2 a3 a4 a5 (a6==1) (a7==1) (rrI x8 a8.toNat):=rfl
theorem ref_p {p:S65}(hm:mayP p=true):refRepF (encP p)=(p,0):=by
 have hR:=hm
 rw[mayP_R] at hR
 obtain⟨p0,p1,p2,p3,p4,p5,p6⟩:=mayP_is hm
 have b5:=flagI_01 p.f5
 have b7:=flagI_01 p.f7
 obtain⟨t,e⟩:=rr_back p.f6 p6 (⟨#[]⟩:ByteArray) p.f6.length (Nat.le_refl _)
 rw[List.take_length,List.drop_length,app_empty] at e
 have el:encRows ([]:List S123)++(⟨#[]⟩:ByteArray)=(⟨#[]⟩:ByteArray):=app_empty _
 rw[el] at e
 rw[refRep_parse]
 unfold parsePR encP
 rw[nr_back _ _ _ p0,nr_back _ _ _ p1,nr_back _ _ _ p2,nr_back _ _ _ (by omega),tr_back _ _ _ _ (by omega) (by omega),nr_back _ _ _ (by omega),nr_back _ _ _ (by omega),nr_back _ _ _ (by omega)]
 dsimp only
 rw[if_neg (by
  rintro(h|h|h|h|h)
  ·cases h
  ·omega
  ·omega
  ·omega
  ·omega),Int.toNat_natCast,e,flagI_is,flagI_is]
 unfold refP
 rw[if_neg (fun h=>by cases h),if_neg (fun h=>h rfl),if_pos hR]
end Go.Proofs.YtmgmdiekpmffbaaGreatDoor.Enc
namespace Go.Proofs.YtmgmdiekpmffbaaGreatDoor.Top
open Go Go.RowKit Go.Proofs.YtmgmdiekpmffbaaGreatDoor.DecM Go.Proofs.YtmgmdiekpmffbaaGreatDoor.Giv Go.Proofs.YtmgmdiekpmffbaaGreatDoor.QWi Go.Proofs.YtmgmdiekpmffbaaGreatDoorW.PrintWords
structure Rp where
 ep:Int
 se:Int
 sq:Int
 er:Int
 v:ByteArray
 fd:Bool
 A:Option Addr
 n:Nat
 c:Nat
 ov:Bool
def tyRp:Ty Rp:=⟨8,fun x=> [.int .i64 x.ep,.int .i64 x.se,.int .i64 x.sq,.int .i64 x.er,.string x.v,.bool x.fd,.slice x.A x.n x.c,.bool x.ov],fun _=>rfl,by intro x u hu;simp at hu;rcases hu with rfl|rfl|rfl|rfl|rfl|rfl|rfl|rfl <;> rfl,by decide⟩
theorem infoRp:(Tryz.prog.info? 65).map (fun i=>(i.zero,i.size,i.bytes))=some (some (.agg #[.int .i64 0,.int .i64 0,.int .i64 0,.int .i64 0,.string ByteArray.empty,.bool false,.slice none 0 0,.bool false]),8,88):=by kernel_rfl
theorem el1 {α:Type}{T:Ty α}{e:TypeId}{w:World}{b n c:Nat}{x:α}(h:Rs T e w (.slice (some ⟨b,0,none⟩) n c) [x])(j:Nat)(u:Value)(hj:(T.enc x)[j]? =some u):w.cell? ⟨b,j,none⟩=some u:=by
 obtain⟨b',c',hv,_,_,hc⟩:=h.cells (by simp)
 cases hv
 exact hc j u (by rw[Ty.all_single];exact hj)
def TRV (p:S65)(w:World)(en:Ending)(w':World):Prop:=∃A n c,en= .returned (.tuple #[.agg #[.int .i64 p.f0,.int .i64 p.f1,.int .i64 p.f2,.int .i64 p.f3,.string p.f4,.bool p.f5,.slice A n c,.bool p.f7],.int .i64 0])∧Below w.heap.size w w'
theorem ref_reply (p:S65)(w:World)(hm:Enc.mayP p=true):Calls Tryz.prog 23 #[.string (Enc.encP p)] w (TRV p w):=by
 have hs:=(Enc.encP_size hm).2
 have h:=Enc.refRep_all (Enc.encP p) (by omega) (by rw[Enc.ref_p hm]) w
 rw[Enc.ref_p hm] at h
 refine h.mono ?_
 rintro e w' ⟨vr,rfl,hr,hb⟩
 obtain⟨A,c,rfl⟩:=Kd.R_slice hr
 exact⟨A,_,c,rfl,hb⟩
def RepsV (p:S65)(w:World)(en:Ending)(w':World):Prop:=∃b k A n c,en= .returned (.slice (some ⟨b,0,none⟩) 1 k)∧Rs tyRp 65 w' (.slice (some ⟨b,0,none⟩) 1 k) [⟨p.f0,p.f1,p.f2,p.f3,p.f4,p.f5,A,n,c,p.f7⟩]∧Below w.heap.size w w'
theorem top_replies (p:S65)(M:Addr)(cap:Nat)(w:World)(hm:Enc.mayP p=true)(h:Rs tyMl 73 w (.slice (some M) 1 cap) [⟨Wire.textW (Enc.encP p)⟩]):Calls Tryz.prog 9 #[.slice (some M) 1 cap] w (RepsV p w):=by
 obtain⟨-,b,e1,hbw⟩:=Rs.head1 h
 cases e1
 have HM:=h_ hm
 have hs:=(Enc.encP_size hm).2
 have x1:=el1 h 1 _ rfl
 generalize hr:Enc.encP p=r at hs h x1
 have HRP:=h_ hr
 clear hm hr
 have HB:Hid (Below w.heap.size w w):=h_ (Below.refl _ _)
 have HR:=h_ h
 clear h
 go_enter Tryz.func9,Tryz.ntmps9
 go_wp2
 refine wp_loop_rounds 2 ?_
 rw[rounds_succ]
 go_wp2_with fail
 refine(ref_whole r _ (by omega)).mono ?_
 rintro e w1 ⟨lb,lc,ln,rfl,hL,hb⟩
 have y0:=el1 hL 0 _ rfl
 have HL_:=h_ hL
 clear hL
 obtain⟨hz,HB⟩:=m1 hb HB
 go_wp2
 refine wp_loop_rounds 2 ?_
 rw[rounds_succ]
 go_wp2_with fail
 refine(HRP.out▸ref_reply p _ HM.out).mono ?_
 rintro e w2 ⟨A,n,c,rfl,hb⟩
 clear x1 y0
 obtain⟨hz,HB⟩:=m1 hb HB
 go_upto_region 10 with(fail)
 refine nm fun w3 hb=>?_
 obtain⟨hz,_,hb,KP⟩:=na1 hb
 obtain⟨hz,HB⟩:=m1 hb HB
 have CP:=cells8 KP.out
 go_wp2_with (at_builtin;refine print_append_cells (w0:=_) _ rfl _ _ 62 65 _ 8 88 rfl Tryz.underlying62 infoRp rfl (by decide) (by decide) (.slice none 0 0) 0 [] (tyRp.enc ⟨p.f0,p.f1,p.f2,p.f3,p.f4,p.f5,A,n,c,p.f7⟩) rfl rfl rfl (tyRp.one _) (World.ownsRow_nil _ _ _ _) (Below.refl _ _) (Nat.le_refl _) ?_ ?_)
 ·decide
 intro v_ w4 hown hb _ _
 obtain⟨q,cap2,cur,rfl,_,_,_,_,_⟩:=own_form hown (Nat.succ_pos 0)
 have HO:=h_ (Rs.of_own (T:=tyRp) (l:= [⟨p.f0,p.f1,p.f2,p.f3,p.f4,p.f5,A,n,c,p.f7⟩]) hown)
 clear hown
 clear CP
 obtain⟨hz,KP,HB⟩:=m2 hb KP HB
 have CP:=cells8 KP.out
 go_wp2
 rw[rounds_succ]
 go_wp2
 rw[rounds_succ]
 go_wp2
 go_ret
 exact⟨_,_,_,_,_,rfl,HO.out,HB.out⟩
end Go.Proofs.YtmgmdiekpmffbaaGreatDoor.Top
