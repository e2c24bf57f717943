/- Part of the proof of the statement TopAlone, as a card; what is proved, and on which condition, stands at the head of YtmgmdiekpmffbaaGreatDoorPT20 (texts TopDisk1, TopDisk2, TopDisk3, TopLay, TopSt0, TopSt1, TopSt2, TopSes0, TopSes1, TopSes2) -/
import Derived.Lib.Strings
import Derived.Deep.RegionHeld3
import Derived.Outline
import Derived.Deep.Cut
import Derived.RegionTactic
import Derived.ChangeAlike
import Derived.Test.YtmgmdiekpmffbaaGreatDoorPT2
import Derived.Test.YtmgmdiekpmffbaaGreatDoorPT9
set_option maxHeartbeats 64000000
set_option maxRecDepth 100000
set_option linter.unusedVariables false
set_option linter.unusedSimpArgs false
namespace Go.Proofs.YtmgmdiekpmffbaaGreatDoor.Top
open Go Go.RowKit Go.Proofs.YtmgmdiekpmffbaaGreatDoorW.PrintWords
theorem disk_set (v:Value)(l:List Fl)(i:Nat)(a b c:ByteArray)(w:World)(h:Rs tyFl 129 w v l)(hl:l.length≤100000)(hi:i<l.length):
  Calls Tryz.prog 96 #[v,.int .i64 i,.agg #[.string a,.string b,.string c]] w (RsV tyFl 129 (l.set i ⟨a,b,c⟩) w):=by
 have HR:=h_ h
 have HL:=h_ hl
 have HI:=h_ hi
 have hi0:i<l.length:=hi
 have HF:Hid (∀v w',Rs tyFl 129 w' v (l.set i ⟨a,b,c⟩)→Below w.heap.size w w'→RsV tyFl 129 (l.set i ⟨a,b,c⟩) w (.returned v) w'):=h_ fun v w' h1 h2=>⟨v,rfl,h1,h2⟩
 clear h hl hi
 go_enter Tryz.func96,Tryz.ntmps96
 go_wp2_with fail
 refine(clone_Fl v l _ (HR.out.below (one _ _)) HL.out).mono ?_
 rintro e w1 ⟨v',rfl,hown,hb1⟩
 obtain⟨g,cap,cur,rfl,hc,hg0,hg,hs,hj⟩:=own_form hown (by omega)
 have x0:w1.cell? ⟨g,i*3,none⟩=some (.string l[i].name):=own_cell (T:=tyFl) i 0 hi0 hg hj (by decide)
 have x1:w1.cell? ⟨g,i*3+1,none⟩=some (.string l[i].safe):=own_cell (T:=tyFl) i 1 hi0 hg hj (by decide)
 have x2:w1.cell? ⟨g,i*3+2,none⟩=some (.string l[i].wait):=own_cell (T:=tyFl) i 2 hi0 hg hj (by decide)
 have f0:=bz hg (i*3)
 have f1:=bz hg (i*3+1)
 have f2:=bz hg (i*3+2)
 have HP:=h_ (own_put (T:=tyFl) i ⟨a,b,c⟩ hi0 hc hg hs hj)
 have HB1:=h_ hb1
 have HG:=h_ hg0
 obtain⟨hcc,hcf⟩:=bcell hb1
 have hp:((0:Int)≤(i:Int))=True:=eq_true (by omega)
 have hq:((i:Int)<(l.length:Int))=True:=eq_true (by omega)
 have hi40:(i:Int)≤100000:=by have:=HL.out;omega
 clear hown hb1 hg hj hs hg0
 go_wp2
 go_ret
 have hb:=(one w _).trans (HB1.out.mono (by simp))
 exact HF.out _ _ HP.out (Below.later hb (putAt_only g (tyFl.enc ⟨a,b,c⟩) w1 (i*3)) (by have:=HG.out;simp at this;omega) hb.size)
theorem disk_named (s:ByteArray)(w:World)(h0:1≤s.size)(h1:s.size≤16):Calls Tryz.prog 93 #[.string s] w fun e w'=>e= .returned (.bool true)∧w'=w:=by
 have c0:decide ((1:Int)≤(s.size:Int))=true:=decide_eq_true (by omega)
 have c1:decide ((s.size:Int)≤16)=true:=decide_eq_true (by omega)
 go_enter Tryz.func93,Tryz.ntmps93
 go_wp2
 go_ret
 exact⟨rfl,rfl⟩
theorem disk_size (a b c:ByteArray)(w:World)(h:b.size+c.size≤1000000000):Calls Tryz.prog 94 #[.agg #[.string a,.string b,.string c]] w fun e w'=>e= .returned (.int .i64 ((b.size:Int)+(c.size:Int)))∧Below w.heap.size w w':=by
 go_enter Tryz.func94,Tryz.ntmps94
 go_wp2
 go_ret
 exact⟨rfl,one _ _⟩
theorem disk_change (A:Option Addr)(n c:Nat)(room:Int)(w:World):Calls Tryz.prog 91 #[.agg #[.slice A n c,.int .i64 room,.int .i64 (-1),.bool false]] w fun e w'=>e= .returned (.tuple #[.agg #[.slice A n c,.int .i64 room,.int .i64 (-1),.bool false],.bool true])∧Below w.heap.size w w':=by
 go_enter Tryz.func91,Tryz.ntmps91
 go_wp2
 refine bodyPost_ret (v:= .tuple #[.agg #[.slice A n c,.int .i64 room,.int .i64 (-1),.bool false],.bool true]) (by simp[results,Tryz.results91,go_sem]) rfl ⟨rfl,?_⟩
 repeat refine Below.setCell ?_ (by simp) _
 exact two _ _ _
theorem disk_read_miss (v:Value)(l:List Fl)(room:Int)(name:ByteArray)(w:World)(h:Rs tyFl 129 w v l)(hl:l.length≤100000)(hx:idx (fun x=>sq x.name name) l 0= -1):
  Calls Tryz.prog 45 #[.agg #[v,.int .i64 room,.int .i64 (-1),.bool false],.string name] w fun e w'=>e= .returned (.tuple #[.string ⟨#[]⟩,.int .i64 7])∧Below w.heap.size w w':=by
 have HR:=h_ h
 have HL:=h_ hl
 have HX:=h_ hx
 clear h hl hx
 go_enter Tryz.func45,Tryz.ntmps45
 go_wp2_with fail
 refine(disk_find_miss v l room name _ (HR.out.below (one _ _)) HL.out HX.out).mono ?_
 rintro e w1 ⟨rfl,hb1⟩
 have HB1:=h_ ((one w _).trans (hb1.mono (by simp)))
 obtain⟨hc,hf⟩:=bcell hb1
 clear hb1
 go_wp2
 go_ret2
 refine⟨rfl,?_⟩
 repeat refine Below.setCell ?_ (by have:=HB1.out.size;simp;omega) _
 exact HB1.out.trans ((one _ _).mono HB1.out.size)
def DiskV (l:List Fl)(room:Int)(w:World)(en:Ending)(w':World):Prop:=∃A n c,en= .returned (.tuple #[.agg #[.slice A n c,.int .i64 room,.int .i64 (-1),.bool false],.int .i64 0])∧Rs tyFl 129 w' (.slice A n c) l∧Below w.heap.size w w'
theorem idx_snoc {α:Type}(p:α→Bool):∀(l:List α) (x:α) (i:Int),(∀y∈l,p y=false)→p x=true→idx p (l++ [x]) i=i+l.length
 | [],x,i,_,h=>by
  rw[List.nil_append,idx,if_pos h]
  simp
 |y :: l,x,i,h,hx=>by
  rw[List.cons_append,idx,if_neg (by rw[h y (List.mem_cons_self ..)];decide),idx_snoc p l x (i+1) (fun z hz=>h z (List.mem_cons_of_mem _ hz)) hx,List.length_cons]
  omega
theorem empty_app (s:ByteArray):(⟨#[]⟩:ByteArray)++s=s:=ByteArray.empty_append
theorem sq_self (a:ByteArray):sq a a=true:=beq_self_eq_true a.toList
theorem disk_append (A:Option Addr)(n c:Nat)(l:List Fl)(room:Int)(name s:ByteArray)(w:World)(h:Rs tyFl 129 w (.slice A n c) l)(hl:l.length≤60)(hx:∀x∈l,sq x.name name=false)
  (hm0:1≤name.size) (hm1:name.size≤16) (hs:(s.size:Int)≤room) (hs1:s.size≤65536) (hr:room≤1000000):
  Calls Tryz.prog 51 #[.agg #[.slice A n c,.int .i64 room,.int .i64 (-1),.bool false],.string name,.string s] w (DiskV (l++ [⟨name,⟨#[]⟩,s⟩]) (room - s.size) w):=by
 obtain rfl:=h.len
 have HL:=h_ hl
 have c1:decide ((64:Int)≤(l.length:Int))=false:=decide_eq_false (by omega)
 have c2:decide ((65536:Int)<(s.size:Int))=false:=decide_eq_false (by omega)
 have c0:decide (room<(s.size:Int))=false:=decide_eq_false (by omega)
 have HXI:=h_ (idx_none (fun x:Fl=>sq x.name name) l 0 hx)
 have HXS:=h_ (idx_snoc (fun x:Fl=>sq x.name name) l ⟨name,⟨#[]⟩,⟨#[]⟩⟩ 0 hx (sq_self name))
 clear hl hx
 have HB:Hid (Below w.heap.size w w):=h_ (Below.refl _ _)
 have HR:=h_ h
 clear h
 go_enter Tryz.func51,Tryz.ntmps51
 go_wp2_with fail
 refine(disk_find_miss _ l room name _ (Rs.below (Rs.below HR.out (one _ _)) (one _ _)) (by have:=HL.out;omega) HXI.out).mono ?_
 rintro e w1 ⟨rfl,hb⟩
 obtain⟨hz,_,hb,KD,KQ⟩:=na2 hb
 obtain⟨hz,HR,HB⟩:=m2 hb HR HB
 obtain⟨D0,Df0,D1,Df1,D2,Df2,D3,Df3⟩:=cells4 KD.out
 obtain⟨Q0,Qf0,Q1,Qf1,Q2,Qf2,Q3,Qf3⟩:=cells4 KQ.out
 go_wp2_with fail
 refine(disk_named name _ hm0 hm1).mono ?_
 rintro e w2 ⟨rfl,rfl⟩
 go_wp2_with fail
 refine(disk_size _ _ _ _ (by decide)).mono ?_
 rintro e w3 ⟨rfl,hb⟩
 clear D0 Df0 D1 Df1 D2 Df2 D3 Df3 Q0 Qf0 Q1 Qf1 Q2 Qf2 Q3 Qf3
 obtain⟨hz,_,hb,KF⟩:=na1 hb
 obtain⟨hz,KD,KQ,HR,HB⟩:=m4 hb KD KQ HR HB
 obtain⟨D0,Df0,D1,Df1,D2,Df2,D3,Df3⟩:=cells4 KD.out
 obtain⟨Q0,Qf0,Q1,Qf1,Q2,Qf2,Q3,Qf3⟩:=cells4 KQ.out
 obtain⟨F0,Ff0,F1,Ff1,F2,Ff2⟩:=cells3 KF.out
 go_wp2_with fail
 refine(clone_Fl _ l _ HR.out (by have:=HL.out;omega)).mono ?_
 rintro e w4 ⟨v4,rfl,hown4,hb⟩
 have HO4:=h_ hown4
 have HB34:=h_ hb
 clear hown4
 clear D0 Df0 D1 Df1 D2 Df2 D3 Df3 Q0 Qf0 Q1 Qf1 Q2 Qf2 Q3 Qf3 F0 Ff0 F1 Ff1 F2 Ff2
 obtain⟨hz,KD,KQ,KF,HR,HB⟩:=m5 hb KD KQ KF HR HB
 obtain⟨D0,Df0,D1,Df1,D2,Df2,D3,Df3⟩:=cells4 KD.out
 obtain⟨Q0,Qf0,Q1,Qf1,Q2,Qf2,Q3,Qf3⟩:=cells4 KQ.out
 obtain⟨F0,Ff0,F1,Ff1,F2,Ff2⟩:=cells3 KF.out
 go_wp2_with (at_builtin;refine print_append_cells (w0:=w3) w3.heap.size rfl _ _ 26 129 _ 3 48 rfl Tryz.underlying26 infoFl rfl (by decide) (by decide) v4 l.length (tyFl.all l) (tyFl.enc ⟨name,⟨#[]⟩,⟨#[]⟩⟩) rfl rfl rfl (tyFl.one _) HO4.out HB34.out HB34.out.size ?_ ?_)
 ·have:=HL.out;omega
 intro v5 w5 hown5 hB5 hgr _
 have hown5':w5.ownsRow w3.heap.size 129 tyFl.sz v5 (l++ [(⟨name,⟨#[]⟩,⟨#[]⟩⟩:Fl)]).length (tyFl.all (l++ [(⟨name,⟨#[]⟩,⟨#[]⟩⟩:Fl)])):=by
  rw[List.length_append,List.length_singleton,Ty.all_app,Ty.all_single]
  exact hown5
 obtain⟨g5,cap5,cur5,rfl,_,hg5,_,_,_⟩:=own_form hown5 (Nat.succ_pos _)
 have HO5:=h_ hown5'
 have HG5:=h_ hg5
 have HGR:=h_ (own_grow HO4.out hgr)
 clear hown5 hown5' hgr hB5 hg5
 have hb:Only35 w3.heap.size w4 w5:=HGR.out
 clear D0 Df0 D1 Df1 D2 Df2 D3 Df3 Q0 Qf0 Q1 Qf1 Q2 Qf2 Q3 Qf3 F0 Ff0 F1 Ff1 F2 Ff2
 have kD:w5.heap[w.heap.size]? =some (.cells #[.slice A l.length c,.int .i64 (room),.int .i64 (-1),.bool false] 28 (0,0)):=keep35 KD.out hb (by omega)
 have kQ:w5.heap[w.heap.size+1]? =some (.cells #[.slice none 0 0,.int .i64 0,.int .i64 0,.bool false] 28 (0,0)):=keep35 KQ.out hb (by omega)
 have kF:w5.heap[w1.heap.size]? =some (.cells #[.string ⟨#[]⟩,.string ⟨#[]⟩,.string ⟨#[]⟩] 129 (0,0)):=keep35 KF.out hb (by omega)
 clear KD KQ KF HR
 have hz:=hb.size
 have D3lt:w.heap.size<w5.heap.size:=blk_lt kD
 have D3ne:w.heap.size≠w5.heap.size:=Nat.ne_of_lt D3lt
 have D3en:w5.heap.size≠w.heap.size:=(Nat.ne_of_lt D3lt).symm
 have KD:=h_ kD
 clear kD
 have Q3lt:w.heap.size+1<w5.heap.size:=blk_lt kQ
 have Q3ne:w.heap.size+1≠w5.heap.size:=Nat.ne_of_lt Q3lt
 have Q3en:w5.heap.size≠w.heap.size+1:=(Nat.ne_of_lt Q3lt).symm
 have KQ:=h_ kQ
 clear kQ
 have F3lt:w1.heap.size<w5.heap.size:=blk_lt kF
 have F3ne:w1.heap.size≠w5.heap.size:=Nat.ne_of_lt F3lt
 have F3en:w5.heap.size≠w1.heap.size:=(Nat.ne_of_lt F3lt).symm
 have KF:=h_ kF
 clear kF
 replace HB:=h_ (below35 HB.out hb (by omega))
 have hs3_:=HB.out.size
 clear hb
 obtain⟨D0,Df0,D1,Df1,D2,Df2,D3,Df3⟩:=cells4 KD.out
 obtain⟨Q0,Qf0,Q1,Qf1,Q2,Qf2,Q3,Qf3⟩:=cells4 KQ.out
 obtain⟨F0,Ff0,F1,Ff1,F2,Ff2⟩:=cells3 KF.out
 go_wp2_with fail
 have HO6:=h_ (own_set' HO5.out w.heap.size 0 (by omega) (.slice (some ⟨g5,0,none⟩) (l.length+1) cap5))
 refine(disk_at _ (l++ [(⟨name,⟨#[]⟩,⟨#[]⟩⟩:Fl)]) room name _ (Rs.of_own HO6.out) (by have:=HL.out;simp;omega)).mono ?_
 rintro e w6 ⟨rfl,hb⟩
 rw[HXS.out,Int.zero_add]
 have HO7:=h_ (pw_own_below HO6.out hb)
 clear HO5 HO6 HO4
 clear D0 Df0 D1 Df1 D2 Df2 D3 Df3 Q0 Qf0 Q1 Qf1 Q2 Qf2 Q3 Qf3 F0 Ff0 F1 Ff1 F2 Ff2
 obtain⟨ho,kD⟩:=ps KD hb
 obtain⟨hz,KQ,KF,HB⟩:=o3 ho KQ KF HB
 replace KD:=kD
 clear kD
 obtain⟨D0,Df0,D1,Df1,D2,Df2,D3,Df3⟩:=cells4 KD.out
 obtain⟨Q0,Qf0,Q1,Qf1,Q2,Qf2,Q3,Qf3⟩:=cells4 KQ.out
 obtain⟨F0,Ff0,F1,Ff1,F2,Ff2⟩:=cells3 KF.out
 obtain⟨z,hz0⟩:∃z:ByteArray,z=⟨#[]⟩:=⟨_,rfl⟩
 have HZ:=h_ hz0
 have hzs:z.size≤0:=by rw[hz0];decide
 have e0:(l++ [(⟨name,⟨#[]⟩,⟨#[]⟩⟩:Fl)])[l.length]'(by simp)=⟨name,z,z⟩:=by simp[hz0]
 have x0:w6.cell? ⟨g5,l.length*3,none⟩=some (.string name):=by
  have h:=own_at' (T:=tyFl) HO7.out l.length 0 (by simp) (by decide)
  rw[e0] at h
  exact h
 have x1:w6.cell? ⟨g5,l.length*3+1,none⟩=some (.string z):=by
  have h:=own_at' (T:=tyFl) HO7.out l.length 1 (by simp) (by decide)
  rw[e0] at h
  exact h
 have x2:w6.cell? ⟨g5,l.length*3+2,none⟩=some (.string z):=by
  have h:=own_at' (T:=tyFl) HO7.out l.length 2 (by simp) (by decide)
  rw[e0] at h
  exact h
 have hl40:(l.length:Int)≤60:=by have:=HL.out;omega
 clear e0 hz0
 go_upto_region 18 with(fail)
 have HO7b:=h_ (own_set' (own_set' (own_set' HO7.out w1.heap.size 0 (by omega) (.string name)) w1.heap.size 1 (by omega) (.string z)) w1.heap.size 2 (by omega) (.string z))
 clear HO7
 refine wp_world fun w7 hW=>?_
 have hb:=below_of_eq hW
 have HO7:=h_ (pw_own_below HO7b.out hb)
 clear hW HO7b x0 x1 x2
 clear D0 Df0 D1 Df1 D2 Df2 D3 Df3 Q0 Qf0 Q1 Qf1 Q2 Qf2 Q3 Qf3 F0 Ff0 F1 Ff1 F2 Ff2
 obtain⟨ho,kF⟩:=pw 0 [.string name,.string z,.string z] KF hb
 obtain⟨hz,KD,KQ,HB⟩:=o3 ho KD KQ HB
 replace KF:=kF
 clear kF
 obtain⟨D0,Df0,D1,Df1,D2,Df2,D3,Df3⟩:=cells4 KD.out
 obtain⟨Q0,Qf0,Q1,Qf1,Q2,Qf2,Q3,Qf3⟩:=cells4 KQ.out
 obtain⟨F0,Ff0,F1,Ff1,F2,Ff2⟩:=cells3 KF.out
 go_wp2_with fail
 have HO8:=h_ (own_set' HO7.out w1.heap.size 2 (by omega) (.string (z++s)))
 refine(disk_set _ (l++ [(⟨name,⟨#[]⟩,⟨#[]⟩⟩:Fl)]) l.length name z (z++s) _ (Rs.of_own HO8.out) (by have:=HL.out;simp;omega) (by simp)).mono ?_
 rintro e w8 ⟨v8,rfl,hR8,hb⟩
 have e8:(l++ [(⟨name,⟨#[]⟩,⟨#[]⟩⟩:Fl)]).set l.length ⟨name,z,z++s⟩=l++ [⟨name,⟨#[]⟩,s⟩]:=by rw[HZ.out];simp[empty_app]
 rw[e8] at hR8
 obtain⟨A8,c8,rfl,_⟩:=hR8.slice
 have HR8:=h_ hR8
 clear e8 hR8 HO7 HO8
 clear D0 Df0 D1 Df1 D2 Df2 D3 Df3 Q0 Qf0 Q1 Qf1 Q2 Qf2 Q3 Qf3 F0 Ff0 F1 Ff1 F2 Ff2
 obtain⟨ho,kF⟩:=ps KF hb
 obtain⟨hz,KD,KQ,HB⟩:=o3 ho KD KQ HB
 replace KF:=kF
 clear kF
 obtain⟨D0,Df0,D1,Df1,D2,Df2,D3,Df3⟩:=cells4 KD.out
 obtain⟨Q0,Qf0,Q1,Qf1,Q2,Qf2,Q3,Qf3⟩:=cells4 KQ.out
 obtain⟨F0,Ff0,F1,Ff1,F2,Ff2⟩:=cells3 KF.out
 obtain⟨m8,hm8⟩:∃m,(l++ [(⟨name,⟨#[]⟩,s⟩:Fl)]).length=m:=⟨_,rfl⟩
 rw[hm8]
 have HR9:Hid (Rs tyFl 129 w8 (.slice A8 m8 c8) (l++ [(⟨name,⟨#[]⟩,s⟩:Fl)])):=h_ (hm8▸HR8.out)
 clear HR8 hm8
 go_wp2
 refine bodyPost_ret (v:= .tuple #[.agg #[.slice A8 m8 c8,.int .i64 (room - s.size),.int .i64 (-1),.bool false],.int .i64 0]) (by simp[results,Tryz.results51,go_sem,Q0,Q1,Q2,Q3]) rfl ⟨A8,m8,c8,rfl,?_,?_⟩
 ·exact(Rs.puts (Rs.set (Rs.set HR9.out KD.out (by decide) _ _) (blk_set KD.out 0 _) (by decide) _ _) (blk_far' (blk_far' KQ.out _ _ (by omega) _) _ _ (by omega) _) (by decide) 0 [.slice A8 m8 c8,.int .i64 (room - s.size),.int .i64 (-1),.bool false])
 ·exact(below_puts (below_set (below_set HB.out _ _ (by omega) _) _ _ (by omega) _) (w.heap.size+1) (by omega) 0 [.slice A8 m8 c8,.int .i64 (room - s.size),.int .i64 (-1),.bool false])
theorem disk_sync (A:Option Addr)(n c:Nat)(l:List Fl)(room:Int)(name:ByteArray)(i:Nat)(x:Fl)(w:World)(h:Rs tyFl 129 w (.slice A n c) l)(hl:l.length≤60)(hi:l[i]? =some x)(hx:idx (fun x=>sq x.name name) l 0=i)
  (hs:x.safe.size≤100000) (hs1:x.wait.size≤100000):
  Calls Tryz.prog 52 #[.agg #[.slice A n c,.int .i64 room,.int .i64 (-1),.bool false],.string name] w (DiskV (l.set i ⟨x.name,x.safe++x.wait,⟨#[]⟩⟩) room w):=by
 obtain rfl:=h.len
 have hlt:i<l.length:=(List.getElem?_eq_some_iff.1 hi).1
 obtain⟨b,c',e1,_,hbw⟩:=head_Fl h (by omega)
 cases e1
 have HL:=h_ hl
 have HI:=h_ hi
 have HX:=h_ hx
 have hi40:(i:Int)≤60:=by omega
 clear hl hi hx
 have HB:Hid (Below w.heap.size w w):=h_ (Below.refl _ _)
 have HR:=h_ h
 clear h
 go_enter Tryz.func52,Tryz.ntmps52
 go_wp2_with fail
 refine(disk_at _ l room name _ (Rs.below (Rs.below HR.out (one _ _)) (one _ _)) (by have:=HL.out;omega)).mono ?_
 rintro e w1 ⟨rfl,hb⟩
 rw[HX.out]
 obtain⟨hz,_,hb,KD,KQ⟩:=na2 hb
 obtain⟨hz,HR,HB⟩:=m2 hb HR HB
 obtain⟨D0,Df0,D1,Df1,D2,Df2,D3,Df3⟩:=cells4 KD.out
 obtain⟨Q0,Qf0,Q1,Qf1,Q2,Qf2,Q3,Qf3⟩:=cells4 KQ.out
 obtain⟨x0,x1,x2⟩:=el_Fl HR.out i x HI.out
 go_upto_region 7 with(fail)
 refine nm fun w2 hb=>?_
 clear D0 Df0 D1 Df1 D2 Df2 D3 Df3 Q0 Qf0 Q1 Qf1 Q2 Qf2 Q3 Qf3
 obtain⟨hz,_,hb,KF⟩:=na1 hb
 obtain⟨hz,KD,KQ,HR,HB⟩:=m4 hb KD KQ HR HB
 obtain⟨D0,Df0,D1,Df1,D2,Df2,D3,Df3⟩:=cells4 KD.out
 obtain⟨Q0,Qf0,Q1,Qf1,Q2,Qf2,Q3,Qf3⟩:=cells4 KQ.out
 obtain⟨F0,Ff0,F1,Ff1,F2,Ff2⟩:=cells3 KF.out
 clear x0 x1 x2
 go_wp2_with fail
 refine(disk_set _ l i x.name (x.safe++x.wait) ⟨#[]⟩ _ (Rs.set_ne (Rs.set_ne HR.out _ _ (by omega) _) _ _ (by omega) _) (by have:=HL.out;omega) hlt).mono ?_
 rintro e w3 ⟨v3,rfl,hR3,hb⟩
 obtain⟨A3,c3,rfl,_⟩:=hR3.slice
 have HR3:=h_ hR3
 clear hR3
 clear D0 Df0 D1 Df1 D2 Df2 D3 Df3 Q0 Qf0 Q1 Qf1 Q2 Qf2 Q3 Qf3 F0 Ff0 F1 Ff1 F2 Ff2
 have kD:=hid_mv (bb (blk_far' (blk_far' KD.out _ _ (by omega) _) _ _ (by omega) _) hb)
 have kQ:=hid_mv (bb (blk_far' (blk_far' KQ.out _ _ (by omega) _) _ _ (by omega) _) hb)
 have kF:=hid_mv (show w3.heap[w1.heap.size]? =some (.cells #[.string x.name,.string (x.safe++x.wait),.string ⟨#[]⟩] 129 (0,0))from bb (blk_set (blk_set KF.out 1 _) 2 _) hb)
 have hz:=(hb).size
 clear KD KQ KF
 obtain⟨KD,D2lt,D2ne,D2en⟩:=kD
 obtain⟨KQ,Q2lt,Q2ne,Q2en⟩:=kQ
 obtain⟨KF,F2lt,F2ne,F2en⟩:=kF
 replace HR:Hid (Rs tyFl 129 w3 (.slice (some ⟨b,0,none⟩) l.length c) (l)):=h_ (Rs.below (Rs.set_ne (Rs.set_ne HR.out _ _ (by omega) _) _ _ (by omega) _) hb)
 replace HB:=h_ (below_call (below_set (below_set HB.out _ _ (by omega) _) _ _ (by omega) _) hb)
 have hs2_:=HB.out.size
 clear hb
 obtain⟨D0,Df0,D1,Df1,D2,Df2,D3,Df3⟩:=cells4 KD.out
 obtain⟨Q0,Qf0,Q1,Qf1,Q2,Qf2,Q3,Qf3⟩:=cells4 KQ.out
 obtain⟨F0,Ff0,F1,Ff1,F2,Ff2⟩:=cells3 KF.out
 obtain⟨m3,hm3⟩:∃m,(l.set i ⟨x.name,x.safe++x.wait,⟨#[]⟩⟩).length=m:=⟨_,rfl⟩
 rw[hm3]
 have HR4:Hid (Rs tyFl 129 w3 (.slice A3 m3 c3) (l.set i ⟨x.name,x.safe++x.wait,⟨#[]⟩⟩)):=h_ (hm3▸HR3.out)
 clear HR3 hm3
 go_wp2
 refine bodyPost_ret (v:= .tuple #[.agg #[.slice A3 m3 c3,.int .i64 room,.int .i64 (-1),.bool false],.int .i64 0]) (by simp[results,Tryz.results52,go_sem,Q0,Q1,Q2,Q3]) rfl ⟨A3,m3,c3,rfl,?_,?_⟩
 ·exact(Rs.puts (Rs.set HR4.out KD.out (by decide) _ _) (blk_far' KQ.out _ _ (by omega) _) (by decide) 0 [.slice A3 m3 c3,.int .i64 (room),.int .i64 (-1),.bool false])
 ·exact(below_puts (below_set HB.out _ _ (by omega) _) (w.heap.size+1) (by omega) 0 [.slice A3 m3 c3,.int .i64 (room),.int .i64 (-1),.bool false])
theorem disk_rename (A:Option Addr)(n c:Nat)(l:List Fl)(room:Int)(frm tgt:ByteArray)(i:Nat)(x:Fl)(w:World)(h:Rs tyFl 129 w (.slice A n c) l)(hl:l.length≤60)(hi:l[i]? =some x)(hx:idx (fun x=>sq x.name frm) l 0=i)
  (ht:idx (fun x=>sq x.name tgt) l 0= -1) (hne:(frm.toList==tgt.toList)=false) (hm0:1≤tgt.size) (hm1:tgt.size≤16):
  Calls Tryz.prog 53 #[.agg #[.slice A n c,.int .i64 room,.int .i64 (-1),.bool false],.string frm,.string tgt] w (DiskV (l.set i ⟨tgt,x.safe,x.wait⟩) room w):=by
 obtain rfl:=h.len
 have hlt:i<l.length:=(List.getElem?_eq_some_iff.1 hi).1
 obtain⟨b,c',e1,_,hbw⟩:=head_Fl h (by omega)
 cases e1
 have HL:=h_ hl
 have HI:=h_ hi
 have HX:=h_ hx
 have HT:=h_ ht
 have hi40:(i:Int)≤60:=by omega
 clear hl hi hx ht
 have HB:Hid (Below w.heap.size w w):=h_ (Below.refl _ _)
 have HR:=h_ h
 clear h
 go_enter Tryz.func53,Tryz.ntmps53
 go_wp2_with fail
 refine(disk_named tgt _ hm0 hm1).mono ?_
 rintro e w0 ⟨rfl,rfl⟩
 go_wp2_with fail
 refine(disk_at _ l room frm _ (Rs.below (Rs.below HR.out (one _ _)) (one _ _)) (by have:=HL.out;omega)).mono ?_
 rintro e w1 ⟨rfl,hb⟩
 rw[HX.out]
 obtain⟨hz,_,hb,KD,KQ⟩:=na2 hb
 obtain⟨hz,HR,HB⟩:=m2 hb HR HB
 obtain⟨D0,Df0,D1,Df1,D2,Df2,D3,Df3⟩:=cells4 KD.out
 obtain⟨Q0,Qf0,Q1,Qf1,Q2,Qf2,Q3,Qf3⟩:=cells4 KQ.out
 go_wp2_with fail
 refine(disk_change _ _ _ room _).mono ?_
 rintro e w2 ⟨rfl,hb⟩
 clear D0 Df0 D1 Df1 D2 Df2 D3 Df3 Q0 Qf0 Q1 Qf1 Q2 Qf2 Q3 Qf3
 obtain⟨hz,KD,KQ,HR,HB⟩:=m4 hb KD KQ HR HB
 obtain⟨D0,Df0,D1,Df1,D2,Df2,D3,Df3⟩:=cells4 KD.out
 obtain⟨Q0,Qf0,Q1,Qf1,Q2,Qf2,Q3,Qf3⟩:=cells4 KQ.out
 go_wp2_with fail
 refine(disk_at _ l room tgt _ (Rs.puts HR.out KD.out (by decide) 0 [.slice (some ⟨b,0,none⟩) l.length c,.int .i64 (room),.int .i64 (-1),.bool false]) (by have:=HL.out;omega)).mono ?_
 rintro e w3 ⟨rfl,hb⟩
 rw[HT.out]
 clear D0 Df0 D1 Df1 D2 Df2 D3 Df3 Q0 Qf0 Q1 Qf1 Q2 Qf2 Q3 Qf3
 obtain⟨ho,kD⟩:=pw 0 [.slice (some ⟨b,0,none⟩) l.length c,.int .i64 (room),.int .i64 (-1),.bool false] KD hb
 obtain⟨hz,KQ,HR,HB⟩:=o3 ho KQ HR HB
 replace KD:=kD
 clear kD
 obtain⟨D0,Df0,D1,Df1,D2,Df2,D3,Df3⟩:=cells4 KD.out
 obtain⟨Q0,Qf0,Q1,Qf1,Q2,Qf2,Q3,Qf3⟩:=cells4 KQ.out
 go_wp2_with fail
 refine(disk_at _ l room frm _ HR.out (by have:=HL.out;omega)).mono ?_
 rintro e w4 ⟨rfl,hb⟩
 rw[HX.out]
 clear D0 Df0 D1 Df1 D2 Df2 D3 Df3 Q0 Qf0 Q1 Qf1 Q2 Qf2 Q3 Qf3
 obtain⟨hz,KD,KQ,HR,HB⟩:=m4 hb KD KQ HR HB
 obtain⟨D0,Df0,D1,Df1,D2,Df2,D3,Df3⟩:=cells4 KD.out
 obtain⟨Q0,Qf0,Q1,Qf1,Q2,Qf2,Q3,Qf3⟩:=cells4 KQ.out
 obtain⟨x0,x1,x2⟩:=el_Fl HR.out i x HI.out
 go_upto_region 17 with(fail)
 refine nm fun w5 hb=>?_
 clear D0 Df0 D1 Df1 D2 Df2 D3 Df3 Q0 Qf0 Q1 Qf1 Q2 Qf2 Q3 Qf3
 obtain⟨hz,_,hb,KF⟩:=na1 hb
 obtain⟨hz,KD,KQ,HR,HB⟩:=m4 hb KD KQ HR HB
 obtain⟨D0,Df0,D1,Df1,D2,Df2,D3,Df3⟩:=cells4 KD.out
 obtain⟨Q0,Qf0,Q1,Qf1,Q2,Qf2,Q3,Qf3⟩:=cells4 KQ.out
 obtain⟨F0,Ff0,F1,Ff1,F2,Ff2⟩:=cells3 KF.out
 clear x0 x1 x2
 go_wp2_with fail
 refine(disk_set _ l i tgt x.safe x.wait _ (Rs.set_ne HR.out _ _ (by omega) _) (by have:=HL.out;omega) hlt).mono ?_
 rintro e w6 ⟨v6,rfl,hR6,hb⟩
 obtain⟨A6,c6,rfl,_⟩:=hR6.slice
 have HR6:=h_ hR6
 clear hR6
 clear D0 Df0 D1 Df1 D2 Df2 D3 Df3 Q0 Qf0 Q1 Qf1 Q2 Qf2 Q3 Qf3 F0 Ff0 F1 Ff1 F2 Ff2
 obtain⟨ho,kF⟩:=ps KF hb
 obtain⟨hz,KD,KQ,HR,HB⟩:=o4 ho KD KQ HR HB
 replace KF:=kF
 clear kF
 obtain⟨D0,Df0,D1,Df1,D2,Df2,D3,Df3⟩:=cells4 KD.out
 obtain⟨Q0,Qf0,Q1,Qf1,Q2,Qf2,Q3,Qf3⟩:=cells4 KQ.out
 obtain⟨F0,Ff0,F1,Ff1,F2,Ff2⟩:=cells3 KF.out
 obtain⟨m6,hm6⟩:∃m,(l.set i ⟨tgt,x.safe,x.wait⟩).length=m:=⟨_,rfl⟩
 rw[hm6]
 have HR7:Hid (Rs tyFl 129 w6 (.slice A6 m6 c6) (l.set i ⟨tgt,x.safe,x.wait⟩)):=h_ (hm6▸HR6.out)
 clear HR6 hm6
 go_wp2
 refine bodyPost_ret (v:= .tuple #[.agg #[.slice A6 m6 c6,.int .i64 room,.int .i64 (-1),.bool false],.int .i64 0]) (by simp[results,Tryz.results53,go_sem,Q0,Q1,Q2,Q3]) rfl ⟨A6,m6,c6,rfl,?_,?_⟩
 ·exact(Rs.puts (Rs.set HR7.out KD.out (by decide) _ _) (blk_far' KQ.out _ _ (by omega) _) (by decide) 0 [.slice A6 m6 c6,.int .i64 (room),.int .i64 (-1),.bool false])
 ·exact(below_puts (below_set HB.out _ _ (by omega) _) (w.heap.size+1) (by omega) 0 [.slice A6 m6 c6,.int .i64 (room),.int .i64 (-1),.bool false])
theorem size_ne {a b:ByteArray}(h:a.size≠b.size):(a.toList==b.toList)=false:=by
 rw[beq_eq_false_iff_ne]
 intro e
 apply h
 have h1:a.toList.length=b.toList.length:=by rw[e]
 rw[Lib.toList_data,Lib.toList_data,Array.length_toList,Array.length_toList] at h1
 exact h1
theorem run_lay (room:Int)(name s:ByteArray)(w:World)(hm0:1≤name.size)(hm1:name.size≤14)(hs:(s.size:Int)≤room)(hs1:s.size≤65536)(hr:room≤1000000):
  Calls Tryz.prog 29 #[.agg #[.slice none 0 0,.int .i64 room,.int .i64 (-1),.bool false],.string name,.string s] w (DiskV [⟨name,s,⟨#[]⟩⟩] (room - s.size) w):=by
 obtain⟨fr,hfr⟩:∃fr:ByteArray,(⟨#[110,46]⟩:ByteArray)++name=fr:=⟨_,rfl⟩
 have hfs:fr.size=name.size+2:=by rw[←hfr,ByteArray.size_append];show 2+name.size=_;omega
 have hne1:sq fr name=false:=size_ne (by omega)
 have hf0:1≤fr.size:=by omega
 have hf1:fr.size≤16:=by omega
 have HFR:=h_ hfr
 have HNE:=h_ hne1
 clear hfr hfs hne1
 have HB:Hid (Below w.heap.size w w):=h_ (Below.refl _ _)
 go_enter Tryz.func29,Tryz.ntmps29
 go_wp2_with fail
 rw[HFR.out]
 refine(disk_find_miss _ [] room fr _ (Rs.nil _ _ _) (by decide) rfl).mono ?_
 rintro e w1 ⟨rfl,hb⟩
 obtain⟨hz,_,hb,KD,KQ⟩:=na2 hb
 obtain⟨hz,HB⟩:=m1 hb HB
 obtain⟨D0,Df0,D1,Df1,D2,Df2,D3,Df3⟩:=cells4 KD.out
 obtain⟨Q0,Qf0,Q1,Qf1,Q2,Qf2,Q3,Qf3⟩:=cells4 KQ.out
 go_wp2_with fail
 refine(disk_append none 0 0 [] room fr s _ (Rs.nil _ _ _) (by decide) (fun x hx=>by cases hx) hf0 hf1 hs hs1 hr).mono ?_
 rintro e w2 ⟨A2,n2,c2,rfl,hR2,hb⟩
 rw[List.nil_append] at hR2
 have HR2:=h_ hR2
 clear hR2
 clear D0 Df0 D1 Df1 D2 Df2 D3 Df3 Q0 Qf0 Q1 Qf1 Q2 Qf2 Q3 Qf3
 obtain⟨hz,_,hb,KX⟩:=na1 hb
 obtain⟨hz,KD,KQ,HB⟩:=m3 hb KD KQ HB
 obtain⟨D0,Df0,D1,Df1,D2,Df2,D3,Df3⟩:=cells4 KD.out
 obtain⟨Q0,Qf0,Q1,Qf1,Q2,Qf2,Q3,Qf3⟩:=cells4 KQ.out
 obtain⟨X0,Xf0,X1,Xf1,X2,Xf2⟩:=cells3 KX.out
 go_wp2_with fail
 refine(disk_sync _ _ _ [⟨fr,⟨#[]⟩,s⟩] (room - s.size) fr 0 ⟨fr,⟨#[]⟩,s⟩ _ (Rs.puts HR2.out KD.out (by decide) 0 [.slice A2 n2 c2,.int .i64 (room - s.size),.int .i64 (-1),.bool false]) (Nat.le_add_left 1 59) rfl (by rw[idx,if_pos (sq_self fr)];rfl) (Nat.zero_le _) (Nat.le_trans hs1 (by decide))).mono ?_
 rintro e w3 ⟨A3,n3,c3,rfl,hR3,hb⟩
 have HR3:=h_ (show Rs tyFl 129 w3 (.slice A3 n3 c3) [⟨fr,s,⟨#[]⟩⟩] from(by rw[empty_app] at hR3;exact hR3))
 clear hR3 HR2
 clear D0 Df0 D1 Df1 D2 Df2 D3 Df3 Q0 Qf0 Q1 Qf1 Q2 Qf2 Q3 Qf3 X0 Xf0 X1 Xf1 X2 Xf2
 obtain⟨ho,kD⟩:=pw 0 [.slice A2 n2 c2,.int .i64 (room - s.size),.int .i64 (-1),.bool false] KD hb
 obtain⟨hz,KQ,KX,HB⟩:=o3 ho KQ KX HB
 replace KD:=kD
 clear kD
 obtain⟨D0,Df0,D1,Df1,D2,Df2,D3,Df3⟩:=cells4 KD.out
 obtain⟨Q0,Qf0,Q1,Qf1,Q2,Qf2,Q3,Qf3⟩:=cells4 KQ.out
 obtain⟨X0,Xf0,X1,Xf1,X2,Xf2⟩:=cells3 KX.out
 go_wp2_with fail
 refine(disk_rename _ _ _ [⟨fr,s,⟨#[]⟩⟩] (room - s.size) fr name 0 ⟨fr,s,⟨#[]⟩⟩ _ (Rs.puts HR3.out KD.out (by decide) 0 [.slice A3 n3 c3,.int .i64 (room - s.size),.int .i64 (-1),.bool false]) (Nat.le_add_left 1 59) rfl (by rw[idx,if_pos (sq_self fr)];rfl) (by rw[idx,if_neg (by rw[HNE.out];decide),idx]) HNE.out hm0 (by omega)).mono ?_
 rintro e w4 ⟨A4,n4,c4,rfl,hR4,hb⟩
 have HR4:=h_ (show Rs tyFl 129 w4 (.slice A4 n4 c4) [⟨name,s,⟨#[]⟩⟩] from hR4)
 clear hR4 HR3
 clear D0 Df0 D1 Df1 D2 Df2 D3 Df3 Q0 Qf0 Q1 Qf1 Q2 Qf2 Q3 Qf3 X0 Xf0 X1 Xf1 X2 Xf2
 obtain⟨ho,kD⟩:=pw 0 [.slice A3 n3 c3,.int .i64 (room - s.size),.int .i64 (-1),.bool false] KD hb
 obtain⟨hz,KQ,KX,HB⟩:=o3 ho KQ KX HB
 replace KD:=kD
 clear kD
 obtain⟨D0,Df0,D1,Df1,D2,Df2,D3,Df3⟩:=cells4 KD.out
 obtain⟨Q0,Qf0,Q1,Qf1,Q2,Qf2,Q3,Qf3⟩:=cells4 KQ.out
 obtain⟨X0,Xf0,X1,Xf1,X2,Xf2⟩:=cells3 KX.out
 go_wp2
 refine bodyPost_ret (v:= .tuple #[.agg #[.slice A4 n4 c4,.int .i64 (room - s.size),.int .i64 (-1),.bool false],.int .i64 0]) (by simp[results,Tryz.results29,go_sem,Q0,Q1,Q2,Q3]) rfl ⟨A4,n4,c4,rfl,?_,?_⟩
 ·exact(Rs.puts HR4.out KQ.out (by decide) 0 [.slice A4 n4 c4,.int .i64 (room - s.size),.int .i64 (-1),.bool false])
 ·exact(below_puts HB.out (w.heap.size+1) (by omega) 0 [.slice A4 n4 c4,.int .i64 (room - s.size),.int .i64 (-1),.bool false])
end Go.Proofs.YtmgmdiekpmffbaaGreatDoor.Top
namespace Go.Proofs.YtmgmdiekpmffbaaGreatDoor.Top
open Go Go.RowKit Go.Proofs.YtmgmdiekpmffbaaGreatDoor.DecM Go.Proofs.YtmgmdiekpmffbaaGreatDoor.SumM Go.Proofs.YtmgmdiekpmffbaaGreatDoorW.PrintWords
def sealS (s:ByteArray):ByteArray:=Wire.textW s++numS (ofS s)
theorem ofS_lt (s:ByteArray):ofS s<4294967296:=by
 have h:=sum_lt s.data.toList
 unfold ofS sumV
 omega
theorem num1:numS 1=⟨#[49,59]⟩:=by
 unfold numS
 rw[numL]
 rfl
theorem seal_calls (s:ByteArray)(w:World)(hs:s.size≤1000000):Calls Tryz.prog 47 #[.string s] w fun e w'=>e= .returned (.string (sealS s))∧Below w.heap.size w w':=by
 have hlt:=ofS_lt s
 have h1:(Wire.textW s).size≤2000000:=by
  unfold Wire.textW
  rw[ByteArray.size_append]
  have:=numS_size s.size (by omega)
  omega
 have h2:(numS (ofS s)).size≤100:=by
  have:=numS_size (ofS s) (by omega)
  omega
 have HV:Hid (sealS s=Wire.textW s++numS (ofS s)):=h_ rfl
 go_enter Tryz.func47,Tryz.ntmps47
 go_wp2_with fail
 refine(Wire.text_calls s _ (by omega)).mono ?_
 rintro e w1 ⟨rfl,hb1⟩
 have HB1:=h_ hb1
 clear hb1
 go_wp2_with fail
 refine(Giv.of_calls s _ (by omega)).mono ?_
 rintro e w2 ⟨rfl,hb2⟩
 have HB2:=h_ (below_call HB1.out hb2)
 clear hb2
 generalize Wire.textW s=a at h1 HV⊢
 go_wp2_with fail
 refine(Giv.num_calls (ofS s) _ (by omega)).mono ?_
 rintro e w3 ⟨rfl,hb3⟩
 have HB3:=h_ (below_call HB2.out hb3)
 clear hb3
 generalize numS (ofS s)=c at h2 HV⊢
 go_wp2
 go_ret
 exact⟨congrArg (fun x=>Ending.returned (Value.string x)) HV.out.symm,HB3.out⟩
theorem wal_may (k:Int)(w:World)(h0:1≤k)(h1:k≤1000000):Calls Tryz.prog 102 #[.int .i64 k] w fun e w'=>e= .returned (.bool true)∧w'=w:=by
 have c0:decide ((1:Int)≤k)=true:=decide_eq_true (by omega)
 have c1:decide (k≤1000000)=true:=decide_eq_true (by omega)
 go_enter Tryz.func102,Tryz.ntmps102
 go_wp2
 go_ret
 exact⟨rfl,rfl⟩
def w1S:ByteArray:=⟨#[119,49]⟩
theorem wal_name (w:World):Calls Tryz.prog 103 #[.int .i64 1] w fun e w'=>e= .returned (.string w1S)∧Below w.heap.size w w':=by
 go_enter Tryz.func103,Tryz.ntmps103
 go_wp2_with fail
 refine(wal_may 1 _ (by decide) (by decide)).mono ?_
 rintro e w1 ⟨rfl,rfl⟩
 go_wp2_with fail
 refine(Giv.num_calls 1 _ (by decide)).mono ?_
 rintro e w2 ⟨rfl,hb2⟩
 rw[num1]
 have HB2:=h_ hb2
 clear hb2
 have hcmp:(((⟨#[49,59]⟩:ByteArray).extract 1 2).toList== [59])=true:=by rw[Lib.toList_data];rfl
 go_wp2
 go_ret
 exact⟨rfl,HB2.out⟩
def epS:ByteArray:=sealS (numS 1)
theorem num1_size:(numS 1).size=2:=by rw[num1];rfl
theorem sealS_size (s:ByteArray)(h:s.size≤1000000):(sealS s).size≤s.size+50:=by
 unfold sealS Wire.textW
 rw[ByteArray.size_append,ByteArray.size_append]
 have h1:=numS_size s.size (by omega)
 have h2:=numS_size (ofS s) (by have:=ofS_lt s;omega)
 omega
theorem epS_size:epS.size≤60:=by
 have h:=sealS_size (numS 1) (by rw[num1_size];decide)
 rw[num1_size] at h
 exact Nat.le_trans h (by decide)
def eFile:Fl:=⟨⟨#[101]⟩,epS,⟨#[]⟩⟩
theorem epoch_read (room:Int)(w:World):Calls Tryz.prog 26 #[.agg #[.slice none 0 0,.int .i64 room,.int .i64 (-1),.bool false]] w fun e w'=>e= .returned (.tuple #[.int .i64 0,.int .i64 0])∧Below w.heap.size w w':=by
 have HB:Hid (Below w.heap.size w w):=h_ (Below.refl _ _)
 go_enter Tryz.func26,Tryz.ntmps26
 go_wp2_with fail
 refine(disk_read_miss _ [] room _ _ (Rs.nil _ _ _) (by decide) rfl).mono ?_
 rintro e w1 ⟨rfl,hb⟩
 obtain⟨hz,_,hb,KD⟩:=na1 hb
 obtain⟨hz,HB⟩:=m1 hb HB
 obtain⟨D0,Df0,D1,Df1,D2,Df2,D3,Df3⟩:=cells4 KD.out
 go_wp2
 go_ret2
 exact⟨rfl,HB.out⟩
theorem epoch_bytes (w:World):Calls Tryz.prog 28 #[.int .i64 1] w fun e w'=>e= .returned (.tuple #[.string epS,.int .i64 0])∧Below w.heap.size w w':=by
 have HB:Hid (Below w.heap.size w w):=h_ (Below.refl _ _)
 go_enter Tryz.func28,Tryz.ntmps28
 go_wp2_with fail
 refine(Giv.num_calls 1 _ (by decide)).mono ?_
 rintro e w1 ⟨rfl,hb⟩
 obtain⟨hz,HB⟩:=m1 hb HB
 go_wp2_with fail
 refine(seal_calls (numS 1) _ (by rw[num1_size];decide)).mono ?_
 rintro e w2 ⟨rfl,hb⟩
 obtain⟨hz,HB⟩:=m1 hb HB
 go_wp2
 go_ret2
 exact⟨rfl,HB.out⟩
def NextV (room:Int)(w:World)(en:Ending)(w':World):Prop:=∃A n c,en= .returned (.tuple #[.agg #[.slice A n c,.int .i64 (room - epS.size),.int .i64 (-1),.bool false],.int .i64 1,.int .i64 0])∧Rs tyFl 129 w' (.slice A n c) [eFile]∧Below w.heap.size w w'
theorem epoch_next (room:Int)(w:World)(h0:100≤room)(h1:room≤1000000):Calls Tryz.prog 12 #[.agg #[.slice none 0 0,.int .i64 room,.int .i64 (-1),.bool false]] w (NextV room w):=by
 have hes:=epS_size
 have HB:Hid (Below w.heap.size w w):=h_ (Below.refl _ _)
 go_enter Tryz.func12,Tryz.ntmps12
 go_wp2_with fail
 refine(epoch_read room _).mono ?_
 rintro e w1 ⟨rfl,hb⟩
 obtain⟨hz,_,hb,KD,KQ⟩:=na2 hb
 obtain⟨hz,HB⟩:=m1 hb HB
 obtain⟨D0,Df0,D1,Df1,D2,Df2,D3,Df3⟩:=cells4 KD.out
 obtain⟨Q0,Qf0,Q1,Qf1,Q2,Qf2,Q3,Qf3⟩:=cells4 KQ.out
 go_wp2_with fail
 refine(epoch_bytes _).mono ?_
 rintro e w2 ⟨rfl,hb⟩
 clear D0 Df0 D1 Df1 D2 Df2 D3 Df3 Q0 Qf0 Q1 Qf1 Q2 Qf2 Q3 Qf3
 obtain⟨hz,KD,KQ,HB⟩:=m3 hb KD KQ HB
 obtain⟨D0,Df0,D1,Df1,D2,Df2,D3,Df3⟩:=cells4 KD.out
 obtain⟨Q0,Qf0,Q1,Qf1,Q2,Qf2,Q3,Qf3⟩:=cells4 KQ.out
 go_wp2_with fail
 refine(run_lay room ⟨#[101]⟩ epS _ (by decide) (by decide) (by omega) (by omega) h1).mono ?_
 rintro e w3 ⟨A3,n3,c3,rfl,hR3,hb⟩
 have HR3:=h_ hR3
 clear hR3
 clear D0 Df0 D1 Df1 D2 Df2 D3 Df3 Q0 Qf0 Q1 Qf1 Q2 Qf2 Q3 Qf3
 obtain⟨hz,KD,KQ,HB⟩:=m3 hb KD KQ HB
 obtain⟨D0,Df0,D1,Df1,D2,Df2,D3,Df3⟩:=cells4 KD.out
 obtain⟨Q0,Qf0,Q1,Qf1,Q2,Qf2,Q3,Qf3⟩:=cells4 KQ.out
 go_wp2
 refine bodyPost_ret (v:= .tuple #[.agg #[.slice A3 n3 c3,.int .i64 (room - epS.size),.int .i64 (-1),.bool false],.int .i64 1,.int .i64 0]) (by simp[results,Tryz.results12,go_sem,Q0,Q1,Q2,Q3]) rfl ⟨A3,n3,c3,rfl,?_,?_⟩
 ·exact(Rs.puts (Rs.puts HR3.out KD.out (by decide) 0 [.slice A3 n3 c3,.int .i64 (room - epS.size),.int .i64 (-1),.bool false]) (blk_puts_far KQ.out (w.heap.size) (by omega) 0 [.slice A3 n3 c3,.int .i64 (room - epS.size),.int .i64 (-1),.bool false]) (by decide) 0 [.slice A3 n3 c3,.int .i64 (room - epS.size),.int .i64 (-1),.bool false])
 ·exact(below_puts (below_puts HB.out (w.heap.size) (by omega) 0 [.slice A3 n3 c3,.int .i64 (room - epS.size),.int .i64 (-1),.bool false]) (w.heap.size+1) (by omega) 0 [.slice A3 n3 c3,.int .i64 (room - epS.size),.int .i64 (-1),.bool false])
theorem sq_e_w1:sq eFile.name w1S=false:=size_ne (by decide)
theorem sq_e_m:sq eFile.name ⟨#[109]⟩=false:=by
 unfold sq eFile
 rw[Lib.toList_data,Lib.toList_data]
 rfl
theorem no_w1:idx (fun x=>sq x.name w1S) [eFile] 0= -1:=by
 rw[idx,if_neg (by rw[sq_e_w1];decide),idx]
theorem no_m:idx (fun x=>sq x.name ⟨#[109]⟩) [eFile] 0= -1:=by
 rw[idx,if_neg (by rw[sq_e_m];decide),idx]
theorem kv_based (A:Option Addr)(n c:Nat)(room:Int)(w:World):Calls Tryz.prog 55 #[.agg #[.slice A n c,.int .i64 room,.int .i64 (-1),.bool false],.int .i64 0] w fun e w'=>e= .returned (.tuple #[.agg #[.slice none 0 0,.slice none 0 0],.int .i64 0])∧Below w.heap.size w w':=by
 have HB:Hid (Below w.heap.size w w):=h_ (Below.refl _ _)
 go_enter Tryz.func55,Tryz.ntmps55
 go_wp2
 refine bodyPost_ret (v:= .tuple #[.agg #[.slice none 0 0,.slice none 0 0],.int .i64 0]) (by simp[results,Tryz.results55,go_sem]) rfl ⟨rfl,?_⟩
 ·exact(below_alloc (below_alloc HB.out _) _)
theorem wal_recover (A:Option Addr)(n c:Nat)(room:Int)(w:World)(h:Rs tyFl 129 w (.slice A n c) [eFile]):Calls Tryz.prog 56 #[.agg #[.slice A n c,.int .i64 room,.int .i64 (-1),.bool false],.int .i64 1] w fun e w'=>e= .returned (.tuple #[.agg #[.slice A n c,.int .i64 room,.int .i64 (-1),.bool false],.slice none 0 0,.int .i64 1,.int .i64 0])∧Below w.heap.size w w':=by
 have HB:Hid (Below w.heap.size w w):=h_ (Below.refl _ _)
 have HR:=h_ h
 clear h
 go_enter Tryz.func56,Tryz.ntmps56
 go_wp2_with fail
 go_step3
 go_wp2_with fail
 refine(wal_may 1 _ (by decide) (by decide)).mono ?_
 rintro e w1 ⟨rfl,rfl⟩
 go_wp2_with fail
 go_step3
 go_wp2_with fail
 refine wp_loop_rounds 1 ?_
 rw[rounds_succ]
 go_wp2_with fail
 refine(wal_may 1 _ (by decide) (by decide)).mono ?_
 rintro e w1 ⟨rfl,rfl⟩
 go_wp2_with fail
 refine nm fun w2 hb=>?_
 obtain⟨hz,_,hb,KD,KQ⟩:=na2 hb
 obtain⟨hz,HR,HB⟩:=m2 hb HR HB
 obtain⟨D0,Df0,D1,Df1,D2,Df2,D3,Df3⟩:=cells4 KD.out
 obtain⟨Q0,Qf0,Q1,Qf1,Q2,Qf2,Q3,Qf3⟩:=cells4 KQ.out
 go_region_held3 (fun w'=>w'.cell? ⟨w.heap.size,0,none⟩=some (.slice A n c)∧w'.cell? ⟨w.heap.size,1,none⟩=some (.int .i64 (room))∧w'.cell? ⟨w.heap.size,2,none⟩=some (.int .i64 (-1))∧w'.cell? ⟨w.heap.size,3,none⟩=some (.bool false)) (first|go_keep|exact⟨a0,a1,a2,a3⟩|exact⟨b0,b1,b2,b3⟩)
  (first
   |(go_at_call 103;refine(wal_name _).mono ?_;rintro e w3 ⟨rfl,hb3⟩;have a0:=pw_cell_below hb3 D0;have a1:=pw_cell_below hb3 D1;have a2:=pw_cell_below hb3 D2;have a3:=pw_cell_below hb3 D3)
   |(go_at_call 45;refine(disk_read_miss _ [eFile] room w1S _ (Rs.below (Rs.below HR.out (drew_below _)) hb3) (by decide) no_w1).mono ?_;rintro e w4 ⟨rfl,hb4⟩;have b0:=pw_cell_below hb4 a0;have b1:=pw_cell_below hb4 a1;have b2:=pw_cell_below hb4 a2;have b3:=pw_cell_below hb4 a3))
 have hb:=below_call (below_call (drew_below w2) hb3) hb4
 clear hb3 hb4 a0 a1 a2 a3 b0 b1 b2 b3
 clear D0 Df0 D1 Df1 D2 Df2 D3 Df3 Q0 Qf0 Q1 Qf1 Q2 Qf2 Q3 Qf3
 obtain⟨hz,KD,KQ,HR,HB⟩:=m4 hb KD KQ HR HB
 obtain⟨D0,Df0,D1,Df1,D2,Df2,D3,Df3⟩:=cells4 KD.out
 obtain⟨Q0,Qf0,Q1,Qf1,Q2,Qf2,Q3,Qf3⟩:=cells4 KQ.out
 go_wp2_with fail
 try go_step3
 go_wp2_with fail
 rw[Exit.noGoto_ret]
 refine bodyPost_ret (v:= .tuple #[.agg #[.slice A n c,.int .i64 room,.int .i64 (-1),.bool false],.slice none 0 0,.int .i64 1,.int .i64 0]) (by simp[results,Tryz.results56,go_sem,Q0,Q1,Q2,Q3]) rfl ⟨rfl,(below_puts HB.out (w.heap.size+1) (by omega) 0 [.slice A n c,.int .i64 (room),.int .i64 (-1),.bool false])⟩
theorem kv_open (A:Option Addr)(n c:Nat)(room:Int)(w:World)(h:Rs tyFl 129 w (.slice A n c) [eFile]):Calls Tryz.prog 30 #[.agg #[.slice A n c,.int .i64 room,.int .i64 (-1),.bool false]] w fun e w'=>e= .returned (.tuple #[.agg #[.slice A n c,.int .i64 (room),.int .i64 (-1),.bool false,.int .i64 1,.int .i64 1,.int .i64 0,.slice none 0 0,.slice none 0 0,.bool false],.int .i64 0])∧Below w.heap.size w w':=by
 have HB:Hid (Below w.heap.size w w):=h_ (Below.refl _ _)
 have HR:=h_ h
 clear h
 go_enter Tryz.func30,Tryz.ntmps30
 go_wp2_with fail
 refine(disk_read_miss _ [eFile] room _ _ (Rs.below (Rs.below (Rs.below HR.out (one _ _)) (one _ _)) (one _ _)) (by decide) no_m).mono ?_
 rintro e w1 ⟨rfl,hb⟩
 have kD:=hid_mv (show w1.heap[w.heap.size]? =some (.cells #[.slice A n c,.int .i64 (room),.int .i64 (-1),.bool false] 28 (0,0))from bb (bb (bb (blk_new' _ _ _ (by simp)) (one _ _)) (one _ _)) hb)
 have kQ:=hid_mv (show w1.heap[w.heap.size+1]? =some (.cells #[.slice none 0 0,.int .i64 0,.int .i64 0,.bool false,.int .i64 0,.int .i64 0,.int .i64 0,.slice none 0 0,.slice none 0 0,.bool false] 35 (0,0))from bb (bb (blk_new' _ _ _ (by simp)) (one _ _)) hb)
 have kX:=hid_mv (show w1.heap[w.heap.size+1+1]? =some (.cells #[.slice none 0 0,.int .i64 0,.int .i64 0,.bool false,.int .i64 1,.int .i64 0,.int .i64 0,.slice none 0 0,.slice none 0 0,.bool false] 35 (0,0))from bb (blk_new' _ _ _ (by simp)) hb)
 have hz:=(hb).size
 obtain⟨KD,D0lt,D0ne,D0en⟩:=kD
 obtain⟨KQ,Q0lt,Q0ne,Q0en⟩:=kQ
 obtain⟨KX,X0lt,X0ne,X0en⟩:=kX
 replace HR:Hid (Rs tyFl 129 w1 (.slice A n c) ([eFile])):=h_ (Rs.below (Rs.below (Rs.below (Rs.below HR.out (one _ _)) (one _ _)) (one _ _)) hb)
 replace HB:=h_ (below_call (below_alloc (below_alloc (below_alloc HB.out _) _) _) hb)
 have hs0_:=HB.out.size
 clear hb
 obtain⟨D0,Df0,D1,Df1,D2,Df2,D3,Df3⟩:=cells4 KD.out
 obtain⟨Q0,Qf0,Q1,Qf1,Q2,Qf2,Q3,Qf3,Q4,Qf4,Q5,Qf5,Q6,Qf6,Q7,Qf7,Q8,Qf8,Q9,Qf9⟩:=cells10 KQ.out
 obtain⟨X0,Xf0,X1,Xf1,X2,Xf2,X3,Xf3,X4,Xf4,X5,Xf5,X6,Xf6,X7,Xf7,X8,Xf8,X9,Xf9⟩:=cells10 KX.out
 go_wp2_with fail
 refine(kv_based _ _ _ room _).mono ?_
 rintro e w2 ⟨rfl,hb⟩
 clear D0 Df0 D1 Df1 D2 Df2 D3 Df3 Q0 Qf0 Q1 Qf1 Q2 Qf2 Q3 Qf3 Q4 Qf4 Q5 Qf5 Q6 Qf6 Q7 Qf7 Q8 Qf8 Q9 Qf9 X0 Xf0 X1 Xf1 X2 Xf2 X3 Xf3 X4 Xf4 X5 Xf5 X6 Xf6 X7 Xf7 X8 Xf8 X9 Xf9
 obtain⟨hz,KD,KQ,KX,HR,HB⟩:=m5 hb KD KQ KX HR HB
 have _:=nl KD
 have _:=nl KQ
 have _:=nl KX
 obtain⟨D0,Df0,D1,Df1,D2,Df2,D3,Df3⟩:=cells4 KD.out
 obtain⟨Q0,Qf0,Q1,Qf1,Q2,Qf2,Q3,Qf3,Q4,Qf4,Q5,Qf5,Q6,Qf6,Q7,Qf7,Q8,Qf8,Q9,Qf9⟩:=cells10 KQ.out
 obtain⟨X0,Xf0,X1,Xf1,X2,Xf2,X3,Xf3,X4,Xf4,X5,Xf5,X6,Xf6,X7,Xf7,X8,Xf8,X9,Xf9⟩:=cells10 KX.out
 go_wp2_with fail
 refine(wal_recover _ _ _ room _ (Rs.below HR.out (one _ _))).mono ?_
 rintro e w3 ⟨rfl,hb⟩
 clear D0 Df0 D1 Df1 D2 Df2 D3 Df3 Q0 Qf0 Q1 Qf1 Q2 Qf2 Q3 Qf3 Q4 Qf4 Q5 Qf5 Q6 Qf6 Q7 Qf7 Q8 Qf8 Q9 Qf9 X0 Xf0 X1 Xf1 X2 Xf2 X3 Xf3 X4 Xf4 X5 Xf5 X6 Xf6 X7 Xf7 X8 Xf8 X9 Xf9
 obtain⟨hz,_,hb,KS⟩:=na1 hb
 obtain⟨hz,KD,KQ,KX,HR,HB⟩:=m5 hb KD KQ KX HR HB
 have _:=nl KD
 have _:=nl KQ
 have _:=nl KX
 obtain⟨D0,Df0,D1,Df1,D2,Df2,D3,Df3⟩:=cells4 KD.out
 obtain⟨Q0,Qf0,Q1,Qf1,Q2,Qf2,Q3,Qf3,Q4,Qf4,Q5,Qf5,Q6,Qf6,Q7,Qf7,Q8,Qf8,Q9,Qf9⟩:=cells10 KQ.out
 obtain⟨X0,Xf0,X1,Xf1,X2,Xf2,X3,Xf3,X4,Xf4,X5,Xf5,X6,Xf6,X7,Xf7,X8,Xf8,X9,Xf9⟩:=cells10 KX.out
 obtain⟨S0,Sf0,S1,Sf1⟩:=cells2 KS.out
 go_wp2_with fail
 refine wp_loop_rounds 1 ?_
 rw[rounds_succ]
 go_wp2_with fail
 refine nm fun w4 hb=>?_
 clear D0 Df0 D1 Df1 D2 Df2 D3 Df3 Q0 Qf0 Q1 Qf1 Q2 Qf2 Q3 Qf3 Q4 Qf4 Q5 Qf5 Q6 Qf6 Q7 Qf7 Q8 Qf8 Q9 Qf9 X0 Xf0 X1 Xf1 X2 Xf2 X3 Xf3 X4 Xf4 X5 Xf5 X6 Xf6 X7 Xf7 X8 Xf8 X9 Xf9 S0 Sf0 S1 Sf1
 obtain⟨ho,kD⟩:=pw 0 [.slice A n c,.int .i64 (room),.int .i64 (-1),.bool false] KD hb
 obtain⟨hz,KQ,KX,KS,HR,HB⟩:=o5 ho KQ KX KS HR HB
 replace KD:=kD
 clear kD
 have _:=nl KD
 have _:=nl KQ
 have _:=nl KX
 have _:=nl KS
 obtain⟨D0,Df0,D1,Df1,D2,Df2,D3,Df3⟩:=cells4 KD.out
 obtain⟨Q0,Qf0,Q1,Qf1,Q2,Qf2,Q3,Qf3,Q4,Qf4,Q5,Qf5,Q6,Qf6,Q7,Qf7,Q8,Qf8,Q9,Qf9⟩:=cells10 KQ.out
 obtain⟨X0,Xf0,X1,Xf1,X2,Xf2,X3,Xf3,X4,Xf4,X5,Xf5,X6,Xf6,X7,Xf7,X8,Xf8,X9,Xf9⟩:=cells10 KX.out
 obtain⟨S0,Sf0,S1,Sf1⟩:=cells2 KS.out
 have nDX:w.heap.size≠w.heap.size+1+1:=by omega
 have nXD:w.heap.size+1+1≠w.heap.size:=by omega
 go_region_held3 (fun w'=>w'.cell? ⟨w.heap.size,0,none⟩=some (.slice A n c)∧w'.cell? ⟨w.heap.size,1,none⟩=some (.int .i64 (room))∧w'.cell? ⟨w.heap.size,2,none⟩=some (.int .i64 (-1))∧w'.cell? ⟨w.heap.size,3,none⟩=some (.bool false)∧w'.cell? ⟨w2.heap.size,0,none⟩=some (.slice none 0 0)∧w'.cell? ⟨w2.heap.size,1,none⟩=some (.slice none 0 0)) (go_keep) (fail)
 go_upto_region 23 with(fail)
 refine nm fun w5 hb=>?_
 clear D0 Df0 D1 Df1 D2 Df2 D3 Df3 Q0 Qf0 Q1 Qf1 Q2 Qf2 Q3 Qf3 Q4 Qf4 Q5 Qf5 Q6 Qf6 Q7 Qf7 Q8 Qf8 Q9 Qf9 X0 Xf0 X1 Xf1 X2 Xf2 X3 Xf3 X4 Xf4 X5 Xf5 X6 Xf6 X7 Xf7 X8 Xf8 X9 Xf9 S0 Sf0 S1 Sf1
 have kD:=hid_mv (bb (blk_drew (blk_far' (blk_far' (blk_far' (blk_far' (blk_far' (blk_far' (blk_far' KD.out _ _ (by omega) _) _ _ (by omega) _) _ _ (by omega) _) _ _ (by omega) _) _ _ (by omega) _) _ _ (by omega) _) _ _ (by omega) _)) hb)
 have kQ:=hid_mv (bb (blk_drew (blk_far' (blk_far' (blk_far' (blk_far' (blk_far' (blk_far' (blk_far' KQ.out _ _ (by omega) _) _ _ (by omega) _) _ _ (by omega) _) _ _ (by omega) _) _ _ (by omega) _) _ _ (by omega) _) _ _ (by omega) _)) hb)
 have kX:=hid_mv (show w5.heap[w.heap.size+1+1]? =some (.cells #[.slice A n c,.int .i64 (room),.int .i64 (-1),.bool false,.int .i64 1,.int .i64 1,.int .i64 0,.slice none 0 0,.slice none 0 0,.bool false] 35 (0,0))from bb (blk_drew (blk_set (blk_set (blk_set (blk_set (blk_set (blk_set (blk_set KX.out 0 _) 1 _) 2 _) 3 _) 5 _) 7 _) 8 _)) hb)
 have kS:=hid_mv (bb (blk_drew (blk_far' (blk_far' (blk_far' (blk_far' (blk_far' (blk_far' (blk_far' KS.out _ _ (by omega) _) _ _ (by omega) _) _ _ (by omega) _) _ _ (by omega) _) _ _ (by omega) _) _ _ (by omega) _) _ _ (by omega) _)) hb)
 have hR:Rs tyFl 129 w5 (.slice A n c) ([eFile]):=Rs.below (Rs.below (Rs.set (Rs.set (Rs.set (Rs.set (Rs.set (Rs.set (Rs.set HR.out KX.out (by decide) _ _) (blk_set KX.out 0 _) (by decide) _ _) (blk_set (blk_set KX.out 0 _) 1 _) (by decide) _ _) (blk_set (blk_set (blk_set KX.out 0 _) 1 _) 2 _) (by decide) _ _) (blk_set (blk_set (blk_set (blk_set KX.out 0 _) 1 _) 2 _) 3 _) (by decide) _ _) (blk_set (blk_set (blk_set (blk_set (blk_set KX.out 0 _) 1 _) 2 _) 3 _) 5 _) (by decide) _ _) (blk_set (blk_set (blk_set (blk_set (blk_set (blk_set KX.out 0 _) 1 _) 2 _) 3 _) 5 _) 7 _) (by decide) _ _) (drew_below _)) hb
 have hz:=(hb).size
 clear KD KQ KX KS HR
 obtain⟨KD,D4lt,D4ne,D4en⟩:=kD
 obtain⟨KQ,Q4lt,Q4ne,Q4en⟩:=kQ
 obtain⟨KX,X4lt,X4ne,X4en⟩:=kX
 obtain⟨KS,S4lt,S4ne,S4en⟩:=kS
 have HR:=h_ hR
 clear hR
 replace HB:=h_ (below_call (below_drew (below_set (below_set (below_set (below_set (below_set (below_set (below_set HB.out _ _ (by omega) _) _ _ (by omega) _) _ _ (by omega) _) _ _ (by omega) _) _ _ (by omega) _) _ _ (by omega) _) _ _ (by omega) _)) hb)
 have hs4_:=HB.out.size
 clear hb
 obtain⟨D0,Df0,D1,Df1,D2,Df2,D3,Df3⟩:=cells4 KD.out
 obtain⟨Q0,Qf0,Q1,Qf1,Q2,Qf2,Q3,Qf3,Q4,Qf4,Q5,Qf5,Q6,Qf6,Q7,Qf7,Q8,Qf8,Q9,Qf9⟩:=cells10 KQ.out
 obtain⟨X0,Xf0,X1,Xf1,X2,Xf2,X3,Xf3,X4,Xf4,X5,Xf5,X6,Xf6,X7,Xf7,X8,Xf8,X9,Xf9⟩:=cells10 KX.out
 obtain⟨S0,Sf0,S1,Sf1⟩:=cells2 KS.out
 go_wp2
 refine bodyPost_ret (res_cell_tmp (cs:=#[.slice A n c,.int .i64 (room),.int .i64 (-1),.bool false,.int .i64 1,.int .i64 1,.int .i64 0,.slice none 0 0,.slice none 0 0,.bool false]) Tryz.results30 rfl (blk_put KQ.out 0 [.slice A n c,.int .i64 (room),.int .i64 (-1),.bool false,.int .i64 1,.int .i64 1,.int .i64 0,.slice none 0 0,.slice none 0 0,.bool false] (Nat.le_of_ble_eq_true rfl)) Tryz.underlying35 rfl (by kernel_rfl)) rfl ⟨rfl,?_⟩
 ·exact(below_puts HB.out (w.heap.size+1) (by omega) 0 [.slice A n c,.int .i64 (room),.int .i64 (-1),.bool false,.int .i64 1,.int .i64 1,.int .i64 0,.slice none 0 0,.slice none 0 0,.bool false])
theorem engine_new (A:Option Addr)(n c:Nat)(room:Int)(w:World)(h:Rs tyFl 129 w (.slice A n c) [eFile]):Calls Tryz.prog 13 #[.agg #[.slice A n c,.int .i64 room,.int .i64 (-1),.bool false]] w fun e w'=>e= .returned (.tuple #[.agg #[.slice A n c,.int .i64 (room),.int .i64 (-1),.bool false,.int .i64 1,.int .i64 1,.int .i64 0,.slice none 0 0,.slice none 0 0,.bool false,.slice none 0 0,.slice none 0 0,.slice none 0 0,.int .i64 1,.int .u64 0],.int .i64 0])∧Below w.heap.size w w':=by
 have HB:Hid (Below w.heap.size w w):=h_ (Below.refl _ _)
 have HR:=h_ h
 clear h
 go_enter Tryz.func13,Tryz.ntmps13
 go_wp2_with fail
 refine(kv_open _ _ _ room _ (Rs.below (Rs.below HR.out (one _ _)) (one _ _))).mono ?_
 rintro e w1 ⟨rfl,hb⟩
 obtain⟨hz,_,hb,KD,KQ⟩:=na2 hb
 obtain⟨hz,HR,HB⟩:=m2 hb HR HB
 obtain⟨D0,Df0,D1,Df1,D2,Df2,D3,Df3⟩:=cells4 KD.out
 obtain⟨Q0,Qf0,Q1,Qf1,Q2,Qf2,Q3,Qf3,Q4,Qf4,Q5,Qf5,Q6,Qf6,Q7,Qf7,Q8,Qf8,Q9,Qf9,Q10,Qf10,Q11,Qf11,Q12,Qf12,Q13,Qf13,Q14,Qf14⟩:=cells15 KQ.out
 go_wp2
 refine bodyPost_ret (res_cell_tmp (cs:=#[.slice A n c,.int .i64 (room),.int .i64 (-1),.bool false,.int .i64 1,.int .i64 1,.int .i64 0,.slice none 0 0,.slice none 0 0,.bool false,.slice none 0 0,.slice none 0 0,.slice none 0 0,.int .i64 1,.int .u64 0]) Tryz.results13 rfl (bb (blk_put KQ.out 0 [.slice A n c,.int .i64 (room),.int .i64 (-1),.bool false,.int .i64 1,.int .i64 1,.int .i64 0,.slice none 0 0,.slice none 0 0,.bool false,.slice none 0 0,.slice none 0 0,.slice none 0 0,.int .i64 1,.int .u64 0] (Nat.le_of_ble_eq_true rfl)) (one _ _)) Tryz.underlying43 rfl (by kernel_rfl)) rfl ⟨rfl,?_⟩
 ·exact(below_alloc (below_puts HB.out (w.heap.size+1) (by omega) 0 [.slice A n c,.int .i64 (room),.int .i64 (-1),.bool false,.int .i64 1,.int .i64 1,.int .i64 0,.slice none 0 0,.slice none 0 0,.bool false,.slice none 0 0,.slice none 0 0,.slice none 0 0,.int .i64 1,.int .u64 0]) _)
theorem session_new (w:World):Calls Tryz.prog 14 #[.int .i64 1] w fun e w'=>e= .returned (.agg #[.int .i64 1,.slice none 0 0,.slice none 0 0,.int .i64 1,.int .u64 0])∧Below w.heap.size w w':=by
 have HB:Hid (Below w.heap.size w w):=h_ (Below.refl _ _)
 go_enter Tryz.func14,Tryz.ntmps14
 go_wp2
 refine bodyPost_ret (res_cell (cs:=#[.int .i64 1,.slice none 0 0,.slice none 0 0,.int .i64 1,.int .u64 0]) Tryz.results14 rfl (blk_new' _ _ _ (by simp)) Tryz.underlying47 rfl (by kernel_rfl)) rfl ⟨rfl,?_⟩
 ·exact(below_alloc HB.out _)
end Go.Proofs.YtmgmdiekpmffbaaGreatDoor.Top
namespace Go.Proofs.YtmgmdiekpmffbaaGreatDoor.Top
open Go Go.RowKit Go.Proofs.YtmgmdiekpmffbaaGreatDoorW.PrintWords
theorem ses_at1 (x:Sn)(B:Nat)(w:World)(h:w.cell? ⟨B,0,none⟩=some (.int .i64 1)):
  Calls Tryz.prog 171 #[.agg #[.int .i64 1,.int .i64 x.seq,.bool x.busy,.string x.last,.int .i64 x.txn,.int .i64 0],.pointer (some ⟨B,0,none⟩)] w fun e w'=>e= .returned (.bool true)∧Below w.heap.size w w':=by
 have lB:B<w.heap.size:=World.block_lt_of_cell? w ⟨B,0,none⟩ h
 have nB:B≠w.heap.size:=Nat.ne_of_lt lB
 go_enter Tryz.func171,Tryz.ntmps171
 go_wp2
 go_ret
 exact⟨rfl,one _ _⟩
theorem ses_of1 (x:Sn)(B:Nat)(w:World)(h:w.cell? ⟨B,0,none⟩=some (.int .i64 1))(hx:x.txn=1):
  Calls Tryz.prog 188 #[.agg #[.int .i64 1,.int .i64 x.seq,.bool x.busy,.string x.last,.int .i64 x.txn,.int .i64 0],.pointer (some ⟨B,0,none⟩)] w fun e w'=>e= .returned (.bool true)∧Below w.heap.size w w':=by
 have lB:B<w.heap.size:=World.block_lt_of_cell? w ⟨B,0,none⟩ h
 have nB:B≠w.heap.size:=Nat.ne_of_lt lB
 rw[hx]
 clear hx
 go_enter Tryz.func188,Tryz.ntmps188
 go_wp2
 go_ret
 exact⟨rfl,one _ _⟩
theorem ses_at (A H:Option Addr)(n c m k:Nat)(nx:Int)(x:Sn)(w:World)(h:Rs tySn 71 w (.slice A n c) [x]):
  Calls Tryz.prog 119 #[.agg #[.int .i64 1,.slice A n c,.slice H m k,.int .i64 (nx),.int .u64 0],.int .i64 1] w fun e w'=>e= .returned (.int .i64 0)∧Below w.heap.size w w':=by
 have HB:Hid (Below w.heap.size w w):=h_ (Below.refl _ _)
 have HR:=h_ h
 clear h
 go_enter Tryz.func119,Tryz.ntmps119
 go_wp2_with fail
 refine(index_session_at1 _ [x] (fun _=>true) (w.heap.size+1) _ (Rs.below (Rs.below HR.out (one _ _)) (one _ _)) (by simp) (fun y W _ hb=>ses_at1 y _ W (pw_cell_below hb (cell_new' _ _ _ _ _ _ (by simp) rfl)))).mono ?_
 rintro e w1 ⟨rfl,hb⟩
 obtain⟨hz,_,hb,KD,KI⟩:=na2 hb
 obtain⟨hz,HR,HB⟩:=m2 hb HR HB
 go_wp2
 go_ret
 exact⟨rfl,HB.out⟩
theorem ses_one (A:Option Addr)(n c:Nat)(x:Sn)(w:World)(h:Rs tySn 71 w (.slice A n c) [x]):
  Calls Tryz.prog 118 #[.slice A n c,.int .i64 0] w fun e w'=>e= .returned (.tuple #[.agg #[.int .i64 1,.int .i64 x.seq,.bool x.busy,.string x.last,.int .i64 x.txn,.int .i64 0],.bool true])∧Below w.heap.size w w':=by
 obtain⟨b,c',e1,_,hbw⟩:=head_Sn h (by simp)
 cases e1
 obtain⟨x0,x1,x2,x3,x4,x5⟩:=el0_Sn h x rfl
 have hne:b≠w.heap.size:=Nat.ne_of_lt hbw
 clear h
 have HB:Hid (Below w.heap.size w w):=h_ (Below.refl _ _)
 go_enter Tryz.func118,Tryz.ntmps118
 go_wp2
 refine bodyPost_ret (res_cell_tmp (cs:=#[.int .i64 1,.int .i64 x.seq,.bool x.busy,.string x.last,.int .i64 x.txn,.int .i64 0]) Tryz.results118 rfl (blk_new' _ _ _ (by simp)) Tryz.underlying71 rfl (by kernel_rfl)) rfl ⟨rfl,?_⟩
 ·exact(below_alloc HB.out _)
theorem ses_find (A H:Option Addr)(n c m k:Nat)(nx:Int)(x:Sn)(w:World)(h:Rs tySn 71 w (.slice A n c) [x]):
  Calls Tryz.prog 68 #[.agg #[.int .i64 1,.slice A n c,.slice H m k,.int .i64 (nx),.int .u64 0],.int .i64 1] w fun e w'=>e= .returned (.tuple #[.agg #[.int .i64 1,.int .i64 x.seq,.bool x.busy,.string x.last,.int .i64 x.txn,.int .i64 0],.bool true])∧Below w.heap.size w w':=by
 have HB:Hid (Below w.heap.size w w):=h_ (Below.refl _ _)
 have HR:=h_ h
 clear h
 go_enter Tryz.func68,Tryz.ntmps68
 go_wp2_with fail
 refine nm fun w1 hb=>?_
 obtain⟨hz,_,hb,KD,KQ⟩:=na2 hb
 obtain⟨hz,HR,HB⟩:=m2 hb HR HB
 obtain⟨D0,Df0,D1,Df1,D2,Df2,D3,Df3,D4,Df4⟩:=cells5 KD.out
 obtain⟨Q0,Qf0,Q1,Qf1,Q2,Qf2,Q3,Qf3,Q4,Qf4,Q5,Qf5⟩:=cells6 KQ.out
 go_region_held3 (fun w'=>w'.cell? ⟨w.heap.size,0,none⟩=some (.int .i64 1)∧w'.cell? ⟨w.heap.size,1,none⟩=some (.slice A n c)∧w'.cell? ⟨w.heap.size,2,none⟩=some (.slice H m k)∧w'.cell? ⟨w.heap.size,3,none⟩=some (.int .i64 (nx))∧w'.cell? ⟨w.heap.size,4,none⟩=some (.int .u64 0)) (first|(with_reducible exact⟨D0_0,D0_1,D0_2,D0_3,D0_4⟩)|(with_reducible exact⟨D1_0,D1_1,D1_2,D1_3,D1_4⟩)|go_keep)
  (first
   |(go_at_call 119;refine(ses_at _ _ _ _ _ _ nx x _ (Rs.below HR.out (drew_below _))).mono ?_;rintro e w2 ⟨rfl,hb0_⟩;have kD0:w2.heap[w.heap.size]? =some (.cells #[.int .i64 1,.slice A n c,.slice H m k,.int .i64 (nx),.int .u64 0] 47 (0,0)):=bb (w:=w1.drew) KD.out hb0_;have D0_0:w2.cell? ⟨w.heap.size,0,none⟩=some (.int .i64 1):=bq kD0 0;have Df0_0:=bz kD0 0;have D0_1:w2.cell? ⟨w.heap.size,1,none⟩=some (.slice A n c):=bq kD0 1;have Df0_1:=bz kD0 1;have D0_2:w2.cell? ⟨w.heap.size,2,none⟩=some (.slice H m k):=bq kD0 2;have Df0_2:=bz kD0 2;have D0_3:w2.cell? ⟨w.heap.size,3,none⟩=some (.int .i64 (nx)):=bq kD0 3;have Df0_3:=bz kD0 3;have D0_4:w2.cell? ⟨w.heap.size,4,none⟩=some (.int .u64 0):=bq kD0 4;have Df0_4:=bz kD0 4;have Dlt_0:w.heap.size<w2.heap.size:=blk_lt kD0;have Dne_0:=Nat.ne_of_lt Dlt_0;have HkD0:=h_ kD0;clear kD0;have kQ0:w2.heap[w.heap.size+1]? =some (.cells #[.int .i64 0,.int .i64 0,.bool false,.string ⟨#[]⟩,.int .i64 0,.int .i64 0] 71 (0,0)):=bb (w:=w1.drew) KQ.out hb0_;have Q0_0:w2.cell? ⟨w.heap.size+1,0,none⟩=some (.int .i64 0):=bq kQ0 0;have Qf0_0:=bz kQ0 0;have Q0_1:w2.cell? ⟨w.heap.size+1,1,none⟩=some (.int .i64 0):=bq kQ0 1;have Qf0_1:=bz kQ0 1;have Q0_2:w2.cell? ⟨w.heap.size+1,2,none⟩=some (.bool false):=bq kQ0 2;have Qf0_2:=bz kQ0 2;have Q0_3:w2.cell? ⟨w.heap.size+1,3,none⟩=some (.string ⟨#[]⟩):=bq kQ0 3;have Qf0_3:=bz kQ0 3;have Q0_4:w2.cell? ⟨w.heap.size+1,4,none⟩=some (.int .i64 0):=bq kQ0 4;have Qf0_4:=bz kQ0 4;have Q0_5:w2.cell? ⟨w.heap.size+1,5,none⟩=some (.int .i64 0):=bq kQ0 5;have Qf0_5:=bz kQ0 5;have Qlt_0:w.heap.size+1<w2.heap.size:=blk_lt kQ0;have Qne_0:=Nat.ne_of_lt Qlt_0;have HkQ0:=h_ kQ0;clear kQ0)
   |(go_at_call 118;refine(ses_one _ _ _ x _ (Rs.below (Rs.below HR.out (drew_below _)) hb0_)).mono ?_;rintro e w3 ⟨rfl,hb1_⟩;have kD1:w3.heap[w.heap.size]? =some (.cells #[.int .i64 1,.slice A n c,.slice H m k,.int .i64 (nx),.int .u64 0] 47 (0,0)):=bb (w:=w2) HkD0.out hb1_;have D1_0:w3.cell? ⟨w.heap.size,0,none⟩=some (.int .i64 1):=bq kD1 0;have Df1_0:=bz kD1 0;have D1_1:w3.cell? ⟨w.heap.size,1,none⟩=some (.slice A n c):=bq kD1 1;have Df1_1:=bz kD1 1;have D1_2:w3.cell? ⟨w.heap.size,2,none⟩=some (.slice H m k):=bq kD1 2;have Df1_2:=bz kD1 2;have D1_3:w3.cell? ⟨w.heap.size,3,none⟩=some (.int .i64 (nx)):=bq kD1 3;have Df1_3:=bz kD1 3;have D1_4:w3.cell? ⟨w.heap.size,4,none⟩=some (.int .u64 0):=bq kD1 4;have Df1_4:=bz kD1 4;have Dlt_1:w.heap.size<w3.heap.size:=blk_lt kD1;have Dne_1:=Nat.ne_of_lt Dlt_1;have HkD1:=h_ kD1;clear kD1;have kQ1:w3.heap[w.heap.size+1]? =some (.cells #[.int .i64 0,.int .i64 0,.bool false,.string ⟨#[]⟩,.int .i64 0,.int .i64 0] 71 (0,0)):=bb (w:=w2) HkQ0.out hb1_;have Q1_0:w3.cell? ⟨w.heap.size+1,0,none⟩=some (.int .i64 0):=bq kQ1 0;have Qf1_0:=bz kQ1 0;have Q1_1:w3.cell? ⟨w.heap.size+1,1,none⟩=some (.int .i64 0):=bq kQ1 1;have Qf1_1:=bz kQ1 1;have Q1_2:w3.cell? ⟨w.heap.size+1,2,none⟩=some (.bool false):=bq kQ1 2;have Qf1_2:=bz kQ1 2;have Q1_3:w3.cell? ⟨w.heap.size+1,3,none⟩=some (.string ⟨#[]⟩):=bq kQ1 3;have Qf1_3:=bz kQ1 3;have Q1_4:w3.cell? ⟨w.heap.size+1,4,none⟩=some (.int .i64 0):=bq kQ1 4;have Qf1_4:=bz kQ1 4;have Q1_5:w3.cell? ⟨w.heap.size+1,5,none⟩=some (.int .i64 0):=bq kQ1 5;have Qf1_5:=bz kQ1 5;have Qlt_1:w.heap.size+1<w3.heap.size:=blk_lt kQ1;have Qne_1:=Nat.ne_of_lt Qlt_1;have HkQ1:=h_ kQ1;clear kQ1))
 have hb:=(below_call (below_call (drew_below w1) hb0_) hb1_)
 clear hb0_ hb1_ D0_0 Df0_0 D0_1 Df0_1 D0_2 Df0_2 D0_3 Df0_3 D0_4 Df0_4 HkD0 Q0_0 Qf0_0 Q0_1 Qf0_1 Q0_2 Qf0_2 Q0_3 Qf0_3 Q0_4 Qf0_4 Q0_5 Qf0_5 HkQ0 D1_0 Df1_0 D1_1 Df1_1 D1_2 Df1_2 D1_3 Df1_3 D1_4 Df1_4 HkD1 Q1_0 Qf1_0 Q1_1 Qf1_1 Q1_2 Qf1_2 Q1_3 Qf1_3 Q1_4 Qf1_4 Q1_5 Qf1_5 HkQ1
 clear D0 Df0 D1 Df1 D2 Df2 D3 Df3 D4 Df4 Q0 Qf0 Q1 Qf1 Q2 Qf2 Q3 Qf3 Q4 Qf4 Q5 Qf5
 obtain⟨hz,KD,KQ,HR,HB⟩:=m4 hb KD KQ HR HB
 obtain⟨D0,Df0,D1,Df1,D2,Df2,D3,Df3,D4,Df4⟩:=cells5 KD.out
 obtain⟨Q0,Qf0,Q1,Qf1,Q2,Qf2,Q3,Qf3,Q4,Qf4,Q5,Qf5⟩:=cells6 KQ.out
 go_wp2
 refine bodyPost_ret (res_cell_tmp (cs:=#[.int .i64 1,.int .i64 x.seq,.bool x.busy,.string x.last,.int .i64 x.txn,.int .i64 0]) Tryz.results68 rfl (blk_put KQ.out 0 [.int .i64 1,.int .i64 x.seq,.bool x.busy,.string x.last,.int .i64 x.txn,.int .i64 0] (Nat.le_of_ble_eq_true rfl)) Tryz.underlying71 rfl (by kernel_rfl)) rfl ⟨rfl,?_⟩
 ·exact(below_puts HB.out (w.heap.size+1) (by omega) 0 [.int .i64 1,.int .i64 x.seq,.bool x.busy,.string x.last,.int .i64 x.txn,.int .i64 0])
theorem ses_of (A H:Option Addr)(n c m k:Nat)(nx:Int)(x:Sn)(w:World)(h:Rs tySn 71 w (.slice A n c) [x])(hx:x.txn=1):
  Calls Tryz.prog 136 #[.agg #[.int .i64 1,.slice A n c,.slice H m k,.int .i64 (nx),.int .u64 0],.int .i64 1] w fun e w'=>e= .returned (.tuple #[.agg #[.int .i64 1,.int .i64 x.seq,.bool x.busy,.string x.last,.int .i64 x.txn,.int .i64 0],.bool true])∧Below w.heap.size w w':=by
 have HX:=h_ hx
 clear hx
 have HB:Hid (Below w.heap.size w w):=h_ (Below.refl _ _)
 have HR:=h_ h
 clear h
 go_enter Tryz.func136,Tryz.ntmps136
 go_wp2_with fail
 refine nm fun w1 hb=>?_
 have kD:=hid_mv (show w1.heap[w.heap.size]? =some (.cells #[.int .i64 1,.slice A n c,.slice H m k,.int .i64 (nx),.int .u64 0] 47 (0,0))from bb (bb (bb (blk_new' _ _ _ (by simp)) (one _ _)) (one _ _)) hb)
 have kI:=hid_mv (show w1.heap[w.heap.size+1]? =some (.cells #[.int .i64 1] 3 (0,0))from bb (bb (blk_new' _ _ _ (by simp)) (one _ _)) hb)
 have kQ:=hid_mv (show w1.heap[w.heap.size+1+1]? =some (.cells #[.int .i64 0,.int .i64 0,.bool false,.string ⟨#[]⟩,.int .i64 0,.int .i64 0] 71 (0,0))from bb (blk_new' _ _ _ (by simp)) hb)
 have hz:=(hb).size
 obtain⟨KD,D0lt,D0ne,D0en⟩:=kD
 obtain⟨KI,I0lt,I0ne,I0en⟩:=kI
 obtain⟨KQ,Q0lt,Q0ne,Q0en⟩:=kQ
 replace HR:Hid (Rs tySn 71 w1 (.slice A n c) ([x])):=h_ (Rs.below (Rs.below (Rs.below (Rs.below HR.out (one _ _)) (one _ _)) (one _ _)) hb)
 replace HB:=h_ (below_call (below_alloc (below_alloc (below_alloc HB.out _) _) _) hb)
 have hs0_:=HB.out.size
 clear hb
 obtain⟨D0,Df0,D1,Df1,D2,Df2,D3,Df3,D4,Df4⟩:=cells5 KD.out
 obtain⟨I0,If0⟩:=cells1 KI.out
 obtain⟨Q0,Qf0,Q1,Qf1,Q2,Qf2,Q3,Qf3,Q4,Qf4,Q5,Qf5⟩:=cells6 KQ.out
 have nDQ:w.heap.size≠w.heap.size+1+1:=by omega
 have nQD:w.heap.size+1+1≠w.heap.size:=by omega
 go_region_held3 (fun w'=>w'.cell? ⟨w.heap.size,0,none⟩=some (.int .i64 1)∧w'.cell? ⟨w.heap.size,1,none⟩=some (.slice A n c)∧w'.cell? ⟨w.heap.size,2,none⟩=some (.slice H m k)∧w'.cell? ⟨w.heap.size,3,none⟩=some (.int .i64 (nx))∧w'.cell? ⟨w.heap.size,4,none⟩=some (.int .u64 0)) (first|(with_reducible exact⟨D0_0,D0_1,D0_2,D0_3,D0_4⟩)|(with_reducible exact⟨D1_0,D1_1,D1_2,D1_3,D1_4⟩)|go_keep)
  (first
   |(go_at_call 170;refine(index_session_Of1 _ [x] (fun _=>true) (w.heap.size+1) _ (Rs.below HR.out (drew_below _)) (by simp) (fun y W hy hb=>ses_of1 y _ W (pw_cell_below (w:=w1.drew) hb I0) (by rw[List.mem_singleton.1 hy];exact HX.out))).mono ?_;rintro e w2 ⟨rfl,hb0_⟩;have kD0:w2.heap[w.heap.size]? =some (.cells #[.int .i64 1,.slice A n c,.slice H m k,.int .i64 (nx),.int .u64 0] 47 (0,0)):=bb (w:=w1.drew) KD.out hb0_;have D0_0:w2.cell? ⟨w.heap.size,0,none⟩=some (.int .i64 1):=bq kD0 0;have Df0_0:=bz kD0 0;have D0_1:w2.cell? ⟨w.heap.size,1,none⟩=some (.slice A n c):=bq kD0 1;have Df0_1:=bz kD0 1;have D0_2:w2.cell? ⟨w.heap.size,2,none⟩=some (.slice H m k):=bq kD0 2;have Df0_2:=bz kD0 2;have D0_3:w2.cell? ⟨w.heap.size,3,none⟩=some (.int .i64 (nx)):=bq kD0 3;have Df0_3:=bz kD0 3;have D0_4:w2.cell? ⟨w.heap.size,4,none⟩=some (.int .u64 0):=bq kD0 4;have Df0_4:=bz kD0 4;have Dlt_0:w.heap.size<w2.heap.size:=blk_lt kD0;have Dne_0:=Nat.ne_of_lt Dlt_0;have HkD0:=h_ kD0;clear kD0;have kI0:w2.heap[w.heap.size+1]? =some (.cells #[.int .i64 1] 3 (0,0)):=bb (w:=w1.drew) KI.out hb0_;have I0_0:w2.cell? ⟨w.heap.size+1,0,none⟩=some (.int .i64 1):=bq kI0 0;have If0_0:=bz kI0 0;have Ilt_0:w.heap.size+1<w2.heap.size:=blk_lt kI0;have Ine_0:=Nat.ne_of_lt Ilt_0;have HkI0:=h_ kI0;clear kI0;have kQ0:w2.heap[w.heap.size+1+1]? =some (.cells #[.int .i64 0,.int .i64 0,.bool false,.string ⟨#[]⟩,.int .i64 0,.int .i64 0] 71 (0,0)):=bb (w:=w1.drew) KQ.out hb0_;have Q0_0:w2.cell? ⟨w.heap.size+1+1,0,none⟩=some (.int .i64 0):=bq kQ0 0;have Qf0_0:=bz kQ0 0;have Q0_1:w2.cell? ⟨w.heap.size+1+1,1,none⟩=some (.int .i64 0):=bq kQ0 1;have Qf0_1:=bz kQ0 1;have Q0_2:w2.cell? ⟨w.heap.size+1+1,2,none⟩=some (.bool false):=bq kQ0 2;have Qf0_2:=bz kQ0 2;have Q0_3:w2.cell? ⟨w.heap.size+1+1,3,none⟩=some (.string ⟨#[]⟩):=bq kQ0 3;have Qf0_3:=bz kQ0 3;have Q0_4:w2.cell? ⟨w.heap.size+1+1,4,none⟩=some (.int .i64 0):=bq kQ0 4;have Qf0_4:=bz kQ0 4;have Q0_5:w2.cell? ⟨w.heap.size+1+1,5,none⟩=some (.int .i64 0):=bq kQ0 5;have Qf0_5:=bz kQ0 5;have Qlt_0:w.heap.size+1+1<w2.heap.size:=blk_lt kQ0;have Qne_0:=Nat.ne_of_lt Qlt_0;have HkQ0:=h_ kQ0;clear kQ0;rw[show(idx (fun _=>true) [x] 0:Int)=0 from rfl])
   |(go_at_call 118;refine(ses_one _ _ _ x _ (Rs.below (Rs.below HR.out (drew_below _)) hb0_)).mono ?_;rintro e w3 ⟨rfl,hb1_⟩;have kD1:w3.heap[w.heap.size]? =some (.cells #[.int .i64 1,.slice A n c,.slice H m k,.int .i64 (nx),.int .u64 0] 47 (0,0)):=bb (w:=w2) HkD0.out hb1_;have D1_0:w3.cell? ⟨w.heap.size,0,none⟩=some (.int .i64 1):=bq kD1 0;have Df1_0:=bz kD1 0;have D1_1:w3.cell? ⟨w.heap.size,1,none⟩=some (.slice A n c):=bq kD1 1;have Df1_1:=bz kD1 1;have D1_2:w3.cell? ⟨w.heap.size,2,none⟩=some (.slice H m k):=bq kD1 2;have Df1_2:=bz kD1 2;have D1_3:w3.cell? ⟨w.heap.size,3,none⟩=some (.int .i64 (nx)):=bq kD1 3;have Df1_3:=bz kD1 3;have D1_4:w3.cell? ⟨w.heap.size,4,none⟩=some (.int .u64 0):=bq kD1 4;have Df1_4:=bz kD1 4;have Dlt_1:w.heap.size<w3.heap.size:=blk_lt kD1;have Dne_1:=Nat.ne_of_lt Dlt_1;have HkD1:=h_ kD1;clear kD1;have kI1:w3.heap[w.heap.size+1]? =some (.cells #[.int .i64 1] 3 (0,0)):=bb (w:=w2) HkI0.out hb1_;have I1_0:w3.cell? ⟨w.heap.size+1,0,none⟩=some (.int .i64 1):=bq kI1 0;have If1_0:=bz kI1 0;have Ilt_1:w.heap.size+1<w3.heap.size:=blk_lt kI1;have Ine_1:=Nat.ne_of_lt Ilt_1;have HkI1:=h_ kI1;clear kI1;have kQ1:w3.heap[w.heap.size+1+1]? =some (.cells #[.int .i64 0,.int .i64 0,.bool false,.string ⟨#[]⟩,.int .i64 0,.int .i64 0] 71 (0,0)):=bb (w:=w2) HkQ0.out hb1_;have Q1_0:w3.cell? ⟨w.heap.size+1+1,0,none⟩=some (.int .i64 0):=bq kQ1 0;have Qf1_0:=bz kQ1 0;have Q1_1:w3.cell? ⟨w.heap.size+1+1,1,none⟩=some (.int .i64 0):=bq kQ1 1;have Qf1_1:=bz kQ1 1;have Q1_2:w3.cell? ⟨w.heap.size+1+1,2,none⟩=some (.bool false):=bq kQ1 2;have Qf1_2:=bz kQ1 2;have Q1_3:w3.cell? ⟨w.heap.size+1+1,3,none⟩=some (.string ⟨#[]⟩):=bq kQ1 3;have Qf1_3:=bz kQ1 3;have Q1_4:w3.cell? ⟨w.heap.size+1+1,4,none⟩=some (.int .i64 0):=bq kQ1 4;have Qf1_4:=bz kQ1 4;have Q1_5:w3.cell? ⟨w.heap.size+1+1,5,none⟩=some (.int .i64 0):=bq kQ1 5;have Qf1_5:=bz kQ1 5;have Qlt_1:w.heap.size+1+1<w3.heap.size:=blk_lt kQ1;have Qne_1:=Nat.ne_of_lt Qlt_1;have HkQ1:=h_ kQ1;clear kQ1))
 have hb:=(below_call (below_call (drew_below w1) hb0_) hb1_)
 clear hb0_ hb1_ D0_0 Df0_0 D0_1 Df0_1 D0_2 Df0_2 D0_3 Df0_3 D0_4 Df0_4 HkD0 I0_0 If0_0 HkI0 Q0_0 Qf0_0 Q0_1 Qf0_1 Q0_2 Qf0_2 Q0_3 Qf0_3 Q0_4 Qf0_4 Q0_5 Qf0_5 HkQ0 D1_0 Df1_0 D1_1 Df1_1 D1_2 Df1_2 D1_3 Df1_3 D1_4 Df1_4 HkD1 I1_0 If1_0 HkI1 Q1_0 Qf1_0 Q1_1 Qf1_1 Q1_2 Qf1_2 Q1_3 Qf1_3 Q1_4 Qf1_4 Q1_5 Qf1_5 HkQ1
 clear D0 Df0 D1 Df1 D2 Df2 D3 Df3 D4 Df4 I0 If0 Q0 Qf0 Q1 Qf1 Q2 Qf2 Q3 Qf3 Q4 Qf4 Q5 Qf5
 obtain⟨hz,KD,KI,KQ,HR,HB⟩:=m5 hb KD KI KQ HR HB
 obtain⟨D0,Df0,D1,Df1,D2,Df2,D3,Df3,D4,Df4⟩:=cells5 KD.out
 obtain⟨I0,If0⟩:=cells1 KI.out
 obtain⟨Q0,Qf0,Q1,Qf1,Q2,Qf2,Q3,Qf3,Q4,Qf4,Q5,Qf5⟩:=cells6 KQ.out
 go_wp2
 refine bodyPost_ret (res_cell_tmp (cs:=#[.int .i64 1,.int .i64 x.seq,.bool x.busy,.string x.last,.int .i64 x.txn,.int .i64 0]) Tryz.results136 rfl (blk_put KQ.out 0 [.int .i64 1,.int .i64 x.seq,.bool x.busy,.string x.last,.int .i64 x.txn,.int .i64 0] (Nat.le_of_ble_eq_true rfl)) Tryz.underlying71 rfl (by kernel_rfl)) rfl ⟨rfl,?_⟩
 ·exact(below_puts HB.out (w.heap.size+1+1) (by omega) 0 [.int .i64 1,.int .i64 x.seq,.bool x.busy,.string x.last,.int .i64 x.txn,.int .i64 0])
theorem set_enc {cs cs':List Value}{cur:Array Value}(i:Nat)(v:Value)(h:∀(j:Nat) (u:Value),cs[j]? =some u→cur[j]? =some u)(hi:i<cs.length)(hcs:cs'=cs.set i v):∀(j:Nat) (u:Value),cs'[j]? =some u→(cur.setIfInBounds i v)[j]? =some u:=by
 intro j u hj
 subst hcs
 have hs:i<cur.size:=by
  have h1:=h i cs[i] (List.getElem?_eq_getElem hi)
  exact(Array.getElem?_eq_some_iff.1 h1).1
 by_cases e:i=j
 ·subst e
  rw[List.getElem?_set_self hi] at hj
  rw[Array.getElem?_setIfInBounds_self_of_lt hs]
  exact hj
 ·rw [List.getElem?_set_ne e] at hj
  rw[Array.getElem?_setIfInBounds_ne e]
  exact h j u hj
def CloV (g:Nat)(y:Sn)(cur:Array Value)(w:World)(en:Ending)(w':World):Prop:=en= .returned (.tuple #[])∧Only g w w'∧∃cur',w'.heap[g]? =some (.cells cur' 71 (0,0))∧cur'.size=cur.size∧∀(j:Nat) (u:Value),(tySn.enc y)[j]? =some u→cur'[j]? =some u
theorem clo_bind (x:Sn)(g B:Nat)(v:Int)(cur:Array Value)(w:World)(hg:w.heap[g]? =some (.cells cur 71 (0,0)))(hc:∀(j:Nat) (u:Value),(tySn.enc x)[j]? =some u→cur[j]? =some u)(h:w.cell? ⟨B,0,none⟩=some (.int .i64 v))(hne:B≠g):
  Calls Tryz.prog 177 #[.pointer (some ⟨g,0,none⟩),.pointer (some ⟨B,0,none⟩)] w (CloV g ⟨x.seq,x.busy,x.last,v⟩ cur w):=by
 have hne':g≠B:=Ne.symm hne
 have x0:w.cell? ⟨g,0,none⟩=some (.int .i64 1):=(bq hg 0).trans (hc 0 _ rfl)
 have f0:=bz hg 0
 have x1:w.cell? ⟨g,1,none⟩=some (.int .i64 x.seq):=(bq hg 1).trans (hc 1 _ rfl)
 have f1:=bz hg 1
 have x2:w.cell? ⟨g,2,none⟩=some (.bool x.busy):=(bq hg 2).trans (hc 2 _ rfl)
 have f2:=bz hg 2
 have x3:w.cell? ⟨g,3,none⟩=some (.string x.last):=(bq hg 3).trans (hc 3 _ rfl)
 have f3:=bz hg 3
 have x4:w.cell? ⟨g,4,none⟩=some (.int .i64 x.txn):=(bq hg 4).trans (hc 4 _ rfl)
 have f4:=bz hg 4
 have x5:w.cell? ⟨g,5,none⟩=some (.int .i64 0):=(bq hg 5).trans (hc 5 _ rfl)
 have f5:=bz hg 5
 have HG:=h_ hg
 have HC:=h_ hc
 clear hg hc
 go_enter Tryz.func177,Tryz.ntmps177
 go_wp2
 go_end0
 refine⟨rfl,(Only.refl g w).set 4 (.int .i64 v),_,(blk_set HG.out 4 (.int .i64 v)),by simp,?_⟩
 exact(set_enc (cs':= [.int .i64 1,.int .i64 x.seq,.bool x.busy,.string x.last,.int .i64 v,.int .i64 0]) 4 (.int .i64 v) HC.out (Nat.le_of_ble_eq_true rfl) rfl)
theorem clo_answer (x:Sn)(g B:Nat)(v:ByteArray)(cur:Array Value)(w:World)(hg:w.heap[g]? =some (.cells cur 71 (0,0)))(hc:∀(j:Nat) (u:Value),(tySn.enc x)[j]? =some u→cur[j]? =some u)(h:w.cell? ⟨B,0,none⟩=some (.string v))(hne:B≠g):
  Calls Tryz.prog 179 #[.pointer (some ⟨g,0,none⟩),.pointer (some ⟨B,0,none⟩)] w (CloV g ⟨x.seq,false,v,x.txn⟩ cur w):=by
 have hne':g≠B:=Ne.symm hne
 have x0:w.cell? ⟨g,0,none⟩=some (.int .i64 1):=(bq hg 0).trans (hc 0 _ rfl)
 have f0:=bz hg 0
 have x1:w.cell? ⟨g,1,none⟩=some (.int .i64 x.seq):=(bq hg 1).trans (hc 1 _ rfl)
 have f1:=bz hg 1
 have x2:w.cell? ⟨g,2,none⟩=some (.bool x.busy):=(bq hg 2).trans (hc 2 _ rfl)
 have f2:=bz hg 2
 have x3:w.cell? ⟨g,3,none⟩=some (.string x.last):=(bq hg 3).trans (hc 3 _ rfl)
 have f3:=bz hg 3
 have x4:w.cell? ⟨g,4,none⟩=some (.int .i64 x.txn):=(bq hg 4).trans (hc 4 _ rfl)
 have f4:=bz hg 4
 have x5:w.cell? ⟨g,5,none⟩=some (.int .i64 0):=(bq hg 5).trans (hc 5 _ rfl)
 have f5:=bz hg 5
 have HG:=h_ hg
 have HC:=h_ hc
 clear hg hc
 go_enter Tryz.func179,Tryz.ntmps179
 go_region_held3 (fun w'=>w'.cell? ⟨B,0,none⟩=some (.string v)) (go_keep) (fail)
 go_end0
 refine⟨rfl,(((Only.refl g w).set 2 (.bool false)).set 3 (.string v)).drew,_,blk_drew (blk_set (blk_set HG.out 2 (.bool false)) 3 (.string v)),by simp,?_⟩
 exact(set_enc (cs':= [.int .i64 1,.int .i64 x.seq,.bool false,.string v,.int .i64 x.txn,.int .i64 0]) 3 (.string v) (set_enc (cs':= [.int .i64 1,.int .i64 x.seq,.bool false,.string x.last,.int .i64 x.txn,.int .i64 0]) 2 (.bool false) HC.out (Nat.le_of_ble_eq_true rfl) rfl) (Nat.le_of_ble_eq_true rfl) rfl)
def WithV_bind (HA:Option Addr)(m k:Nat)(nx:Int)(y:Sn)(w:World)(en:Ending)(w':World):Prop:=∃A n c,en= .returned (.tuple #[.agg #[.int .i64 1,.slice A n c,.slice HA m k,.int .i64 (nx),.int .u64 0],.int .i64 0])∧Rs tySn 71 w' (.slice A n c) [y]∧Below w.heap.size w w'
theorem with_bind (A H:Option Addr)(n c m k:Nat)(nx:Int)(x:Sn)(B:Nat)(v:Int)(w:World)(h:Rs tySn 71 w (.slice A n c) [x])(hC:w.heap[B]? =some (.cells #[.int .i64 v] 3 (0,0))):
  Calls Tryz.prog 123 #[.agg #[.int .i64 1,.slice A n c,.slice H m k,.int .i64 (nx),.int .u64 0],.int .i64 1,.func (.func 177) #[] #[.pointer (some ⟨B,0,none⟩)]] w (WithV_bind H m k nx ⟨x.seq,x.busy,x.last,v⟩ w):=by
 have hCB:=blk_lt hC
 have HB:Hid (Below w.heap.size w w):=h_ (Below.refl _ _)
 have HR:=h_ h
 clear h
 have KC:=h_ hC
 clear hC
 go_enter Tryz.func123,Tryz.ntmps123
 go_wp2_with fail
 refine(ses_at _ _ _ _ _ _ nx x _ (Rs.below (Rs.below HR.out (one _ _)) (one _ _))).mono ?_
 rintro e w1 ⟨rfl,hb⟩
 obtain⟨hz,_,hb,KD,KQ⟩:=na2 hb
 obtain⟨hz,KC,HR,HB⟩:=m3 hb KC HR HB
 obtain⟨C0,Cf0⟩:=cells1 KC.out
 obtain⟨D0,Df0,D1,Df1,D2,Df2,D3,Df3,D4,Df4⟩:=cells5 KD.out
 obtain⟨Q0,Qf0,Q1,Qf1,Q2,Qf2,Q3,Qf3,Q4,Qf4⟩:=cells5 KQ.out
 go_wp2_with fail
 refine(clone_Sn _ [x] _ HR.out (by simp)).mono ?_
 rintro e w2 ⟨v2,rfl,hown,hb⟩
 obtain⟨g,cap,cur,rfl,hcap,hg0,hg,hgs,hgc⟩:=own_form hown (Nat.succ_pos 0)
 have HGC:Hid (∀(j:Nat) (u:Value),(tySn.enc x)[j]? =some u→cur[j]? =some u):=h_ (by rw[Ty.all_single] at hgc;exact hgc)
 clear hown hgc hgs
 clear C0 Cf0 D0 Df0 D1 Df1 D2 Df2 D3 Df3 D4 Df4 Q0 Qf0 Q1 Qf1 Q2 Qf2 Q3 Qf3 Q4 Qf4
 obtain⟨hz,KC,KD,KQ,HR,HB⟩:=m5 hb KC KD KQ HR HB
 obtain⟨C0,Cf0⟩:=cells1 KC.out
 obtain⟨D0,Df0,D1,Df1,D2,Df2,D3,Df3,D4,Df4⟩:=cells5 KD.out
 obtain⟨Q0,Qf0,Q1,Qf1,Q2,Qf2,Q3,Qf3,Q4,Qf4⟩:=cells5 KQ.out
 have hgD:g≠w.heap.size:=by omega
 have hgQ:g≠w.heap.size+1:=by omega
 have hgB:B≠g:=by omega
 have KG:=h_ hg
 clear hg
 go_wp2_with fail
 refine(clo_bind x g B v cur _ ((blk_far' KG.out _ _ (by omega) _)) HGC.out (bq ((blk_far' KC.out _ _ (by omega) _)) 0) hgB).mono ?_
 rintro e w3 ⟨rfl,hb,cur3,hg3,hs3,hc3⟩
 have HC3:=h_ hc3
 have HG3:=h_ hg3
 clear hc3 hg3
 clear C0 Cf0 D0 Df0 D1 Df1 D2 Df2 D3 Df3 D4 Df4 Q0 Qf0 Q1 Qf1 Q2 Qf2 Q3 Qf3 Q4 Qf4
 obtain⟨kC,C2lt,C2ne,C2en⟩:=hid_mv (show w3.heap[B]? =some (.cells #[.int .i64 v] 3 (0,0))from blk_only (blk_far' KC.out _ _ (by omega) _) hb (by omega))
 obtain⟨kD,D2lt,D2ne,D2en⟩:=hid_mv (show w3.heap[w.heap.size]? =some (.cells #[.int .i64 1,.slice (some ⟨g,0,none⟩) 1 cap,.slice H m k,.int .i64 (nx),.int .u64 0] 47 (0,0))from blk_only (blk_set KD.out 1 _) hb (by omega))
 obtain⟨kQ,Q2lt,Q2ne,Q2en⟩:=hid_mv (show w3.heap[w.heap.size+1]? =some (.cells #[.int .i64 0,.slice none 0 0,.slice none 0 0,.int .i64 0,.int .u64 0] 47 (0,0))from blk_only (blk_far' KQ.out _ _ (by omega) _) hb (by omega))
 have hz:=(hb).size
 clear KC KD KQ
 have KC:=kC
 clear kC
 have KD:=kD
 clear kD
 have KQ:=kQ
 clear kQ
 replace HB:=h_ (below_only (below_set HB.out _ _ (by omega) _) hb (by omega))
 have hs2_:=HB.out.size
 clear hb
 obtain⟨C0,Cf0⟩:=cells1 KC.out
 obtain⟨D0,Df0,D1,Df1,D2,Df2,D3,Df3,D4,Df4⟩:=cells5 KD.out
 obtain⟨Q0,Qf0,Q1,Qf1,Q2,Qf2,Q3,Qf3,Q4,Qf4⟩:=cells5 KQ.out
 have KG:=HG3
 go_wp2
 refine bodyPost_ret (res_cell_tmp (cs:=#[.int .i64 1,.slice (some ⟨g,0,none⟩) 1 cap,.slice H m k,.int .i64 (nx),.int .u64 0]) Tryz.results123 rfl (blk_put KQ.out 0 [.int .i64 1,.slice (some ⟨g,0,none⟩) 1 cap,.slice H m k,.int .i64 (nx),.int .u64 0] (Nat.le_of_ble_eq_true rfl)) Tryz.underlying47 rfl (by kernel_rfl)) rfl ⟨_,_,_,rfl,?_,?_⟩
 ·exact .inr ⟨g,cap,cur3,(0,0),rfl,hcap,(blk_puts_far KG.out (w.heap.size+1) (by omega) 0 [.int .i64 1,.slice (some ⟨g,0,none⟩) 1 cap,.slice H m k,.int .i64 (nx),.int .u64 0]),by rw[Ty.all_single];exact HC3.out⟩
 ·exact(below_puts HB.out (w.heap.size+1) (by omega) 0 [.int .i64 1,.slice (some ⟨g,0,none⟩) 1 cap,.slice H m k,.int .i64 (nx),.int .u64 0])
def WithV_answer (HA:Option Addr)(m k:Nat)(nx:Int)(y:Sn)(w:World)(en:Ending)(w':World):Prop:=∃A n c,en= .returned (.tuple #[.agg #[.int .i64 1,.slice A n c,.slice HA m k,.int .i64 (nx),.int .u64 0],.int .i64 0])∧Rs tySn 71 w' (.slice A n c) [y]∧Below w.heap.size w w'
theorem with_answer (A H:Option Addr)(n c m k:Nat)(nx:Int)(x:Sn)(B:Nat)(v:ByteArray)(w:World)(h:Rs tySn 71 w (.slice A n c) [x])(hC:w.heap[B]? =some (.cells #[.string v] 9 (0,0))):
  Calls Tryz.prog 123 #[.agg #[.int .i64 1,.slice A n c,.slice H m k,.int .i64 (nx),.int .u64 0],.int .i64 1,.func (.func 179) #[] #[.pointer (some ⟨B,0,none⟩)]] w (WithV_answer H m k nx ⟨x.seq,false,v,x.txn⟩ w):=by
 have hCB:=blk_lt hC
 have HB:Hid (Below w.heap.size w w):=h_ (Below.refl _ _)
 have HR:=h_ h
 clear h
 have KC:=h_ hC
 clear hC
 go_enter Tryz.func123,Tryz.ntmps123
 go_wp2_with fail
 refine(ses_at _ _ _ _ _ _ nx x _ (Rs.below (Rs.below HR.out (one _ _)) (one _ _))).mono ?_
 rintro e w1 ⟨rfl,hb⟩
 obtain⟨hz,_,hb,KD,KQ⟩:=na2 hb
 obtain⟨hz,KC,HR,HB⟩:=m3 hb KC HR HB
 obtain⟨C0,Cf0⟩:=cells1 KC.out
 obtain⟨D0,Df0,D1,Df1,D2,Df2,D3,Df3,D4,Df4⟩:=cells5 KD.out
 obtain⟨Q0,Qf0,Q1,Qf1,Q2,Qf2,Q3,Qf3,Q4,Qf4⟩:=cells5 KQ.out
 go_wp2_with fail
 refine(clone_Sn _ [x] _ HR.out (by simp)).mono ?_
 rintro e w2 ⟨v2,rfl,hown,hb⟩
 obtain⟨g,cap,cur,rfl,hcap,hg0,hg,hgs,hgc⟩:=own_form hown (Nat.succ_pos 0)
 have HGC:Hid (∀(j:Nat) (u:Value),(tySn.enc x)[j]? =some u→cur[j]? =some u):=h_ (by rw[Ty.all_single] at hgc;exact hgc)
 clear hown hgc hgs
 clear C0 Cf0 D0 Df0 D1 Df1 D2 Df2 D3 Df3 D4 Df4 Q0 Qf0 Q1 Qf1 Q2 Qf2 Q3 Qf3 Q4 Qf4
 obtain⟨hz,KC,KD,KQ,HR,HB⟩:=m5 hb KC KD KQ HR HB
 obtain⟨C0,Cf0⟩:=cells1 KC.out
 obtain⟨D0,Df0,D1,Df1,D2,Df2,D3,Df3,D4,Df4⟩:=cells5 KD.out
 obtain⟨Q0,Qf0,Q1,Qf1,Q2,Qf2,Q3,Qf3,Q4,Qf4⟩:=cells5 KQ.out
 have hgD:g≠w.heap.size:=by omega
 have hgQ:g≠w.heap.size+1:=by omega
 have hgB:B≠g:=by omega
 have KG:=h_ hg
 clear hg
 go_wp2_with fail
 refine(clo_answer x g B v cur _ ((blk_far' KG.out _ _ (by omega) _)) HGC.out (bq ((blk_far' KC.out _ _ (by omega) _)) 0) hgB).mono ?_
 rintro e w3 ⟨rfl,hb,cur3,hg3,hs3,hc3⟩
 have HC3:=h_ hc3
 have HG3:=h_ hg3
 clear hc3 hg3
 clear C0 Cf0 D0 Df0 D1 Df1 D2 Df2 D3 Df3 D4 Df4 Q0 Qf0 Q1 Qf1 Q2 Qf2 Q3 Qf3 Q4 Qf4
 obtain⟨kC,C2lt,C2ne,C2en⟩:=hid_mv (show w3.heap[B]? =some (.cells #[.string v] 9 (0,0))from blk_only (blk_far' KC.out _ _ (by omega) _) hb (by omega))
 obtain⟨kD,D2lt,D2ne,D2en⟩:=hid_mv (show w3.heap[w.heap.size]? =some (.cells #[.int .i64 1,.slice (some ⟨g,0,none⟩) 1 cap,.slice H m k,.int .i64 (nx),.int .u64 0] 47 (0,0))from blk_only (blk_set KD.out 1 _) hb (by omega))
 obtain⟨kQ,Q2lt,Q2ne,Q2en⟩:=hid_mv (show w3.heap[w.heap.size+1]? =some (.cells #[.int .i64 0,.slice none 0 0,.slice none 0 0,.int .i64 0,.int .u64 0] 47 (0,0))from blk_only (blk_far' KQ.out _ _ (by omega) _) hb (by omega))
 have hz:=(hb).size
 clear KC KD KQ
 have KC:=kC
 clear kC
 have KD:=kD
 clear kD
 have KQ:=kQ
 clear kQ
 replace HB:=h_ (below_only (below_set HB.out _ _ (by omega) _) hb (by omega))
 have hs2_:=HB.out.size
 clear hb
 obtain⟨C0,Cf0⟩:=cells1 KC.out
 obtain⟨D0,Df0,D1,Df1,D2,Df2,D3,Df3,D4,Df4⟩:=cells5 KD.out
 obtain⟨Q0,Qf0,Q1,Qf1,Q2,Qf2,Q3,Qf3,Q4,Qf4⟩:=cells5 KQ.out
 have KG:=HG3
 go_wp2
 refine bodyPost_ret (res_cell_tmp (cs:=#[.int .i64 1,.slice (some ⟨g,0,none⟩) 1 cap,.slice H m k,.int .i64 (nx),.int .u64 0]) Tryz.results123 rfl (blk_put KQ.out 0 [.int .i64 1,.slice (some ⟨g,0,none⟩) 1 cap,.slice H m k,.int .i64 (nx),.int .u64 0] (Nat.le_of_ble_eq_true rfl)) Tryz.underlying47 rfl (by kernel_rfl)) rfl ⟨_,_,_,rfl,?_,?_⟩
 ·exact .inr ⟨g,cap,cur3,(0,0),rfl,hcap,(blk_puts_far KG.out (w.heap.size+1) (by omega) 0 [.int .i64 1,.slice (some ⟨g,0,none⟩) 1 cap,.slice H m k,.int .i64 (nx),.int .u64 0]),by rw[Ty.all_single];exact HC3.out⟩
 ·exact(below_puts HB.out (w.heap.size+1) (by omega) 0 [.int .i64 1,.slice (some ⟨g,0,none⟩) 1 cap,.slice H m k,.int .i64 (nx),.int .u64 0])
theorem ses_bind (A H:Option Addr)(n c m k:Nat)(nx:Int)(x:Sn)(v:Int)(w:World)(h:Rs tySn 71 w (.slice A n c) [x]):
  Calls Tryz.prog 126 #[.agg #[.int .i64 1,.slice A n c,.slice H m k,.int .i64 (nx),.int .u64 0],.int .i64 1,.int .i64 v] w (WithV_bind H m k nx ⟨x.seq,x.busy,x.last,v⟩ w):=by
 have HB:Hid (Below w.heap.size w w):=h_ (Below.refl _ _)
 have HR:=h_ h
 clear h
 go_enter Tryz.func126,Tryz.ntmps126
 go_wp2_with fail
 refine(with_bind _ _ _ _ _ _ nx x (w.heap.size+1) v _ (Rs.below (Rs.below (Rs.below HR.out (one _ _)) (one _ _)) (one _ _)) (bb (blk_new' _ _ _ (by simp)) (one _ _))).mono ?_
 rintro e w1 ⟨A1,n1,c1,rfl,hR1,hb⟩
 have HR1:=h_ hR1
 clear hR1
 clear HR
 have kD:=hid_mv (show w1.heap[w.heap.size]? =some (.cells #[.int .i64 1,.slice A n c,.slice H m k,.int .i64 (nx),.int .u64 0] 47 (0,0))from bb (bb (bb (blk_new' _ _ _ (by simp)) (one _ _)) (one _ _)) hb)
 have kI:=hid_mv (show w1.heap[w.heap.size+1]? =some (.cells #[.int .i64 v] 3 (0,0))from bb (bb (blk_new' _ _ _ (by simp)) (one _ _)) hb)
 have kQ:=hid_mv (show w1.heap[w.heap.size+1+1]? =some (.cells #[.int .i64 0,.slice none 0 0,.slice none 0 0,.int .i64 0,.int .u64 0] 47 (0,0))from bb (blk_new' _ _ _ (by simp)) hb)
 have hz:=(hb).size
 skip
 obtain⟨KD,D0lt,D0ne,D0en⟩:=kD
 obtain⟨KI,I0lt,I0ne,I0en⟩:=kI
 obtain⟨KQ,Q0lt,Q0ne,Q0en⟩:=kQ
 replace HB:=h_ (below_call (below_alloc (below_alloc (below_alloc HB.out _) _) _) hb)
 have hs0_:=HB.out.size
 clear hb
 obtain⟨D0,Df0,D1,Df1,D2,Df2,D3,Df3,D4,Df4⟩:=cells5 KD.out
 obtain⟨I0,If0⟩:=cells1 KI.out
 obtain⟨Q0,Qf0,Q1,Qf1,Q2,Qf2,Q3,Qf3,Q4,Qf4⟩:=cells5 KQ.out
 go_wp2
 refine bodyPost_ret (res_cell_tmp (cs:=#[.int .i64 1,.slice A1 n1 c1,.slice H m k,.int .i64 (nx),.int .u64 0]) Tryz.results126 rfl (blk_put KQ.out 0 [.int .i64 1,.slice A1 n1 c1,.slice H m k,.int .i64 (nx),.int .u64 0] (Nat.le_of_ble_eq_true rfl)) Tryz.underlying47 rfl (by kernel_rfl)) rfl ⟨_,_,_,rfl,?_,?_⟩
 ·exact(Rs.puts HR1.out KQ.out (by decide) 0 [.int .i64 1,.slice A1 n1 c1,.slice H m k,.int .i64 (nx),.int .u64 0])
 ·exact(below_puts HB.out (w.heap.size+1+1) (by omega) 0 [.int .i64 1,.slice A1 n1 c1,.slice H m k,.int .i64 (nx),.int .u64 0])
theorem ses_answer (A H:Option Addr)(n c m k:Nat)(nx:Int)(x:Sn)(v:ByteArray)(w:World)(h:Rs tySn 71 w (.slice A n c) [x]):
  Calls Tryz.prog 129 #[.agg #[.int .i64 1,.slice A n c,.slice H m k,.int .i64 (nx),.int .u64 0],.int .i64 1,.string v] w (WithV_answer H m k nx ⟨x.seq,false,v,x.txn⟩ w):=by
 have HB:Hid (Below w.heap.size w w):=h_ (Below.refl _ _)
 have HR:=h_ h
 clear h
 go_enter Tryz.func129,Tryz.ntmps129
 go_wp2_with fail
 refine(with_answer _ _ _ _ _ _ nx x (w.heap.size+1) v _ (Rs.below (Rs.below (Rs.below HR.out (one _ _)) (one _ _)) (one _ _)) (bb (blk_new' _ _ _ (by simp)) (one _ _))).mono ?_
 rintro e w1 ⟨A1,n1,c1,rfl,hR1,hb⟩
 have HR1:=h_ hR1
 clear hR1
 clear HR
 have kD:=hid_mv (show w1.heap[w.heap.size]? =some (.cells #[.int .i64 1,.slice A n c,.slice H m k,.int .i64 (nx),.int .u64 0] 47 (0,0))from bb (bb (bb (blk_new' _ _ _ (by simp)) (one _ _)) (one _ _)) hb)
 have kI:=hid_mv (show w1.heap[w.heap.size+1]? =some (.cells #[.string v] 9 (0,0))from bb (bb (blk_new' _ _ _ (by simp)) (one _ _)) hb)
 have kQ:=hid_mv (show w1.heap[w.heap.size+1+1]? =some (.cells #[.int .i64 0,.slice none 0 0,.slice none 0 0,.int .i64 0,.int .u64 0] 47 (0,0))from bb (blk_new' _ _ _ (by simp)) hb)
 have hz:=(hb).size
 skip
 obtain⟨KD,D0lt,D0ne,D0en⟩:=kD
 obtain⟨KI,I0lt,I0ne,I0en⟩:=kI
 obtain⟨KQ,Q0lt,Q0ne,Q0en⟩:=kQ
 replace HB:=h_ (below_call (below_alloc (below_alloc (below_alloc HB.out _) _) _) hb)
 have hs0_:=HB.out.size
 clear hb
 obtain⟨D0,Df0,D1,Df1,D2,Df2,D3,Df3,D4,Df4⟩:=cells5 KD.out
 obtain⟨I0,If0⟩:=cells1 KI.out
 obtain⟨Q0,Qf0,Q1,Qf1,Q2,Qf2,Q3,Qf3,Q4,Qf4⟩:=cells5 KQ.out
 go_wp2
 refine bodyPost_ret (res_cell_tmp (cs:=#[.int .i64 1,.slice A1 n1 c1,.slice H m k,.int .i64 (nx),.int .u64 0]) Tryz.results129 rfl (blk_put KQ.out 0 [.int .i64 1,.slice A1 n1 c1,.slice H m k,.int .i64 (nx),.int .u64 0] (Nat.le_of_ble_eq_true rfl)) Tryz.underlying47 rfl (by kernel_rfl)) rfl ⟨_,_,_,rfl,?_,?_⟩
 ·exact(Rs.puts HR1.out KQ.out (by decide) 0 [.int .i64 1,.slice A1 n1 c1,.slice H m k,.int .i64 (nx),.int .u64 0])
 ·exact(below_puts HB.out (w.heap.size+1+1) (by omega) 0 [.int .i64 1,.slice A1 n1 c1,.slice H m k,.int .i64 (nx),.int .u64 0])
theorem alarm_drop0 (w:World):Calls Tryz.prog 121 #[.slice none 0 0,.int .i64 1] w fun e w'=>e= .returned (.slice none 0 0)∧w'=w:=by
 go_enter Tryz.func121,Tryz.ntmps121
 go_wp2
 refine wp_loop_rounds 1 ?_
 rw[rounds_succ]
 go_wp2
 go_ret
 exact⟨rfl,rfl⟩
theorem alarm_drop1 (A:Option Addr)(n c:Nat)(a:Al)(w:World)(h:Rs tyAl 300 w (.slice A n c) [a])(ha:a.id=1):Calls Tryz.prog 121 #[.slice A n c,.int .i64 1] w fun e w'=>e= .returned (.slice none 0 0)∧Below w.heap.size w w':=by
 obtain⟨b,c',e1,_,hbw⟩:=head_Al h (by simp)
 cases e1
 obtain⟨x0,x1⟩:=el0_Al h a rfl
 rw[ha] at x1
 have hne:b≠w.heap.size:=Nat.ne_of_lt hbw
 clear h ha
 go_enter Tryz.func121,Tryz.ntmps121
 go_wp2
 refine wp_loop_rounds 2 ?_
 rw[rounds_succ]
 go_wp2
 rw[rounds_succ]
 go_wp2
 go_ret
 exact⟨rfl,one _ _⟩
end Go.Proofs.YtmgmdiekpmffbaaGreatDoor.Top
