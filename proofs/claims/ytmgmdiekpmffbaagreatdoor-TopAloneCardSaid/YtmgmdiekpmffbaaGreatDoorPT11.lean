/- Part of the proof of the statement TopAlone, as a card; what is proved, and on which condition, stands at the head of YtmgmdiekpmffbaaGreatDoorPT20 (texts TopSes3, TopSes4, TopEng0, TopEng1, TopTab0, TopIns0, TopIns1) -/
import Derived.Deep.RegionHeld3
import Derived.Deep.AppendLies
import Derived.WalkKit
import Derived.WalkSpells
import Derived.Outline
import Derived.Deep.QuietTactic
import Derived.BigQuiet
import Derived.Deep.LoopGhost
import Derived.Laws.CopyRow
import Derived.Test.YtmgmdiekpmffbaaGreatDoorPT0
import Derived.Test.YtmgmdiekpmffbaaGreatDoorPT1
import Derived.Test.YtmgmdiekpmffbaaGreatDoorPT9
import Derived.Test.YtmgmdiekpmffbaaGreatDoorPT10
set_option maxHeartbeats 64000000
set_option maxRecDepth 100000
set_option linter.unusedVariables false
set_option linter.unusedSimpArgs false
namespace Go.Proofs.YtmgmdiekpmffbaaGreatDoor.Top
open Go Go.RowKit Go.Proofs.YtmgmdiekpmffbaaGreatDoorW.PrintWords
theorem clo_take (x:Sn)(g B:Nat)(cur:Array Value)(w:World)(hg:w.heap[g]? =some (.cells cur 71 (0,0)))(hc:∀(j:Nat) (u:Value),(tySn.enc x)[j]? =some u→cur[j]? =some u)(h:w.cell? ⟨B,0,none⟩=some (.int .i64 0))(hne:B≠g)(hq0:0≤x.seq)(hq1:x.seq<1073741824):
  Calls Tryz.prog 124 #[.pointer (some ⟨g,0,none⟩),.pointer (some ⟨B,0,none⟩)] w (CloV g ⟨x.seq+1,true,⟨#[]⟩,x.txn⟩ cur w):=by
 have hne':g≠B:=Ne.symm hne
 have x0:w.cell? ⟨g,0,none⟩=some (.int .i64 1):=(bq hg 0).trans (hc 0 _ rfl)
 have f0:=bz hg 0
 have x1:w.cell? ⟨g,1,none⟩=some (.int .i64 x.seq):=(bq hg 1).trans (hc 1 _ rfl)
 have f1:=bz hg 1
 have x2:w.cell? ⟨g,2,none⟩=some (.bool x.busy):=(bq hg 2).trans (hc 2 _ rfl)
 have f2:=bz hg 2
 have x3:w.cell? ⟨g,3,none⟩=some (.string x.last):=(bq hg 3).trans (hc 3 _ rfl)
 have f3:=bz hg 3
 have x4:w.cell? ⟨g,4,none⟩=some (.int .i64 x.txn):=(bq hg 4).trans (hc 4 _ rfl)
 have f4:=bz hg 4
 have x5:w.cell? ⟨g,5,none⟩=some (.int .i64 0):=(bq hg 5).trans (hc 5 _ rfl)
 have f5:=bz hg 5
 have HG:=h_ hg
 have HC:=h_ hc
 clear hg hc
 go_enter Tryz.func124,Tryz.ntmps124
 go_upto_region 1 with(fail)
 refine wp_world fun w1 hW=>?_
 have h1:w1.cell? ⟨B,0,none⟩=some (.int .i64 0):=by rw[hW];exact(World.cell?_setCell_other _ _ _ _ (by intro e;exact hne' (congrArg Addr.block e))).trans h
 have F1:=blk_set HG.out 1 (.int .i64 (x.seq+1))
 rw[←hW] at F1
 have F0:Only g w w1:=hW▸(Only.refl g w).set 1 (.int .i64 (x.seq+1))
 have HF1:=h_ F1
 have HF0:=h_ F0
 have g2:=bz F1 2
 have g3:=bz F1 3
 have g5:=bz F1 5
 have y2:w1.cell? ⟨g,2,none⟩=some (.bool x.busy):=by rw[hW,World.cell?_setCell_other _ _ _ _ (by intro e;injection e with _ e;exact absurd e (by decide))];exact x2
 have y3:w1.cell? ⟨g,3,none⟩=some (.string x.last):=by rw[hW,World.cell?_setCell_other _ _ _ _ (by intro e;injection e with _ e;exact absurd e (by decide))];exact x3
 have y5:w1.cell? ⟨g,5,none⟩=some (.int .i64 0):=by rw[hW,World.cell?_setCell_other _ _ _ _ (by intro e;injection e with _ e;exact absurd e (by decide))];exact x5
 clear hW F1 F0 x0 f0 x1 f1 x2 f2 x3 f3 x4 f4 x5 f5 HG h
 go_region_held3 (fun w'=>w'.cell? ⟨B,0,none⟩=some (.int .i64 0)) (go_keep) (fail)
 go_end0
 refine⟨rfl,(HF0.out.trans ((((Only.refl g w1).set 2 (.bool true)).set 3 (.string ⟨#[]⟩)).set 5 (.int .i64 0)).drew),_,blk_drew (blk_set (blk_set (blk_set HF1.out 2 (.bool true)) 3 (.string ⟨#[]⟩)) 5 (.int .i64 0)),by simp,?_⟩
 exact(set_enc (cs':= [.int .i64 1,.int .i64 (x.seq+1),.bool true,.string ⟨#[]⟩,.int .i64 x.txn,.int .i64 0]) 5 (.int .i64 0) (set_enc (cs':= [.int .i64 1,.int .i64 (x.seq+1),.bool true,.string ⟨#[]⟩,.int .i64 x.txn,.int .i64 0]) 3 (.string ⟨#[]⟩) (set_enc (cs':= [.int .i64 1,.int .i64 (x.seq+1),.bool true,.string x.last,.int .i64 x.txn,.int .i64 0]) 2 (.bool true) (set_enc (cs':= [.int .i64 1,.int .i64 (x.seq+1),.bool x.busy,.string x.last,.int .i64 x.txn,.int .i64 0]) 1 (.int .i64 (x.seq+1)) HC.out (Nat.le_of_ble_eq_true rfl) rfl) (Nat.le_of_ble_eq_true rfl) rfl) (Nat.le_of_ble_eq_true rfl) rfl) (Nat.le_of_ble_eq_true rfl) rfl)
def WithV_take (HA:Option Addr)(m k:Nat)(nx:Int)(y:Sn)(w:World)(en:Ending)(w':World):Prop:=∃A n c,en= .returned (.tuple #[.agg #[.int .i64 1,.slice A n c,.slice HA m k,.int .i64 (nx),.int .u64 0],.int .i64 0])∧Rs tySn 71 w' (.slice A n c) [y]∧Below w.heap.size w w'
theorem with_take (A H:Option Addr)(n c m k:Nat)(nx:Int)(x:Sn)(B:Nat)(w:World)(h:Rs tySn 71 w (.slice A n c) [x])(hC:w.heap[B]? =some (.cells #[.int .i64 0] 3 (0,0)))(hq0:0≤x.seq)(hq1:x.seq<1073741824):
  Calls Tryz.prog 123 #[.agg #[.int .i64 1,.slice A n c,.slice H m k,.int .i64 (nx),.int .u64 0],.int .i64 1,.func (.func 124) #[] #[.pointer (some ⟨B,0,none⟩)]] w (WithV_take H m k nx ⟨x.seq+1,true,⟨#[]⟩,x.txn⟩ w):=by
 have hCB:=blk_lt hC
 have HB:Hid (Below w.heap.size w w):=h_ (Below.refl _ _)
 have HR:=h_ h
 clear h
 have KC:=h_ hC
 clear hC
 go_enter Tryz.func123,Tryz.ntmps123
 go_wp2_with fail
 refine(ses_at _ _ _ _ _ _ nx x _ (Rs.below (Rs.below HR.out (one _ _)) (one _ _))).mono ?_
 rintro e w1 ⟨rfl,hb⟩
 obtain⟨hz,_,hb,KD,KQ⟩:=na2 hb
 obtain⟨hz,KC,HR,HB⟩:=m3 hb KC HR HB
 obtain⟨C0,Cf0⟩:=cells1 KC.out
 obtain⟨D0,Df0,D1,Df1,D2,Df2,D3,Df3,D4,Df4⟩:=cells5 KD.out
 obtain⟨Q0,Qf0,Q1,Qf1,Q2,Qf2,Q3,Qf3,Q4,Qf4⟩:=cells5 KQ.out
 go_wp2_with fail
 refine(clone_Sn _ [x] _ HR.out (by simp)).mono ?_
 rintro e w2 ⟨v2,rfl,hown,hb⟩
 obtain⟨g,cap,cur,rfl,hcap,hg0,hg,hgs,hgc⟩:=own_form hown (Nat.succ_pos 0)
 have HGC:Hid (∀(j:Nat) (u:Value),(tySn.enc x)[j]? =some u→cur[j]? =some u):=h_ (by rw[Ty.all_single] at hgc;exact hgc)
 clear hown hgc hgs
 clear C0 Cf0 D0 Df0 D1 Df1 D2 Df2 D3 Df3 D4 Df4 Q0 Qf0 Q1 Qf1 Q2 Qf2 Q3 Qf3 Q4 Qf4
 obtain⟨hz,KC,KD,KQ,HR,HB⟩:=m5 hb KC KD KQ HR HB
 obtain⟨C0,Cf0⟩:=cells1 KC.out
 obtain⟨D0,Df0,D1,Df1,D2,Df2,D3,Df3,D4,Df4⟩:=cells5 KD.out
 obtain⟨Q0,Qf0,Q1,Qf1,Q2,Qf2,Q3,Qf3,Q4,Qf4⟩:=cells5 KQ.out
 have hgD:g≠w.heap.size:=by omega
 have hgQ:g≠w.heap.size+1:=by omega
 have hgB:B≠g:=by omega
 have KG:=h_ hg
 clear hg
 go_wp2_with fail
 refine(clo_take x g B cur _ ((blk_far' KG.out _ _ (by omega) _)) HGC.out (bq ((blk_far' KC.out _ _ (by omega) _)) 0) hgB hq0 hq1).mono ?_
 rintro e w3 ⟨rfl,hb,cur3,hg3,hs3,hc3⟩
 have HC3:=h_ hc3
 have HG3:=h_ hg3
 clear hc3 hg3
 clear C0 Cf0 D0 Df0 D1 Df1 D2 Df2 D3 Df3 D4 Df4 Q0 Qf0 Q1 Qf1 Q2 Qf2 Q3 Qf3 Q4 Qf4
 obtain⟨kC,C2lt,C2ne,C2en⟩:=hid_mv (show w3.heap[B]? =some (.cells #[.int .i64 0] 3 (0,0))from blk_only (blk_far' KC.out _ _ (by omega) _) hb (by omega))
 obtain⟨kD,D2lt,D2ne,D2en⟩:=hid_mv (show w3.heap[w.heap.size]? =some (.cells #[.int .i64 1,.slice (some ⟨g,0,none⟩) 1 cap,.slice H m k,.int .i64 (nx),.int .u64 0] 47 (0,0))from blk_only (blk_set KD.out 1 _) hb (by omega))
 obtain⟨kQ,Q2lt,Q2ne,Q2en⟩:=hid_mv (show w3.heap[w.heap.size+1]? =some (.cells #[.int .i64 0,.slice none 0 0,.slice none 0 0,.int .i64 0,.int .u64 0] 47 (0,0))from blk_only (blk_far' KQ.out _ _ (by omega) _) hb (by omega))
 have hz:=(hb).size
 clear KC KD KQ
 have KC:=kC
 clear kC
 have KD:=kD
 clear kD
 have KQ:=kQ
 clear kQ
 replace HB:=h_ (below_only (below_set HB.out _ _ (by omega) _) hb (by omega))
 have hs2_:=HB.out.size
 clear hb
 obtain⟨C0,Cf0⟩:=cells1 KC.out
 obtain⟨D0,Df0,D1,Df1,D2,Df2,D3,Df3,D4,Df4⟩:=cells5 KD.out
 obtain⟨Q0,Qf0,Q1,Qf1,Q2,Qf2,Q3,Qf3,Q4,Qf4⟩:=cells5 KQ.out
 have KG:=HG3
 go_wp2
 refine bodyPost_ret (res_cell_tmp (cs:=#[.int .i64 1,.slice (some ⟨g,0,none⟩) 1 cap,.slice H m k,.int .i64 (nx),.int .u64 0]) Tryz.results123 rfl (blk_put KQ.out 0 [.int .i64 1,.slice (some ⟨g,0,none⟩) 1 cap,.slice H m k,.int .i64 (nx),.int .u64 0] (Nat.le_of_ble_eq_true rfl)) Tryz.underlying47 rfl (by kernel_rfl)) rfl ⟨_,_,_,rfl,?_,?_⟩
 ·exact .inr ⟨g,cap,cur3,(0,0),rfl,hcap,(blk_puts_far KG.out (w.heap.size+1) (by omega) 0 [.int .i64 1,.slice (some ⟨g,0,none⟩) 1 cap,.slice H m k,.int .i64 (nx),.int .u64 0]),by rw[Ty.all_single];exact HC3.out⟩
 ·exact(below_puts HB.out (w.heap.size+1) (by omega) 0 [.int .i64 1,.slice (some ⟨g,0,none⟩) 1 cap,.slice H m k,.int .i64 (nx),.int .u64 0])
def HAl (w:World)(v:Value):Prop:=v= .slice none 0 0∨∃a:Al,Rs tyAl 300 w v [a]∧a.id=1
theorem HAl.map {w w':World}{v:Value}(f:∀l,Rs tyAl 300 w v l→Rs tyAl 300 w' v l)(h:HAl w v):HAl w' v:=h.imp id fun⟨a,h,ha⟩=>⟨a,f _ h,ha⟩
theorem HAl.below {w w':World}{v:Value}(h:HAl w v)(hb:Below w.heap.size w w'):HAl w' v:=h.imp id fun⟨a,h,ha⟩=>⟨a,Rs.below h hb,ha⟩
theorem HAl.only {w w':World}{v:Value}{g:Nat}{cs:Array Value}{t:TypeId}{fr:Nat×Nat}(h:HAl w v)(ho:Only g w w')(hg:w.heap[g]? =some (.cells cs t fr))(hne:300≠t):HAl w' v:=h.map fun _ h=>Rs.only h ho hg hne
theorem mvH {w w':World}{v:Value} :Mv w w' (Hid (HAl w v)) (Hid (HAl w' v)):=fun hb h=>h_ (h.out.below hb)
theorem moH {w w':World}{v:Value}{g:Nat}{cs:Array Value}{t:TypeId}{fr:Nat×Nat}(k:Hid (w.heap[g]? =some (.cells cs t fr)))(hne:300≠t):Mo g w w' (Hid (HAl w v)) (Hid (HAl w' v)):=fun ho h=>h_ (h.out.only ho k.out hne)
theorem alarm_drop (A:Option Addr)(n c:Nat)(w:World)(h:HAl w (.slice A n c)):Calls Tryz.prog 121 #[.slice A n c,.int .i64 1] w fun e w'=>e= .returned (.slice none 0 0)∧Below w.heap.size w w':=by
 rcases h with h|⟨a,h,ha⟩
 ·rw [h]
  refine(alarm_drop0 w).mono ?_
  rintro e w' ⟨rfl,rfl⟩
  exact⟨rfl,Below.refl _ _⟩
 ·exact alarm_drop1 A n c a w h ha
def PutV (w:World)(en:Ending)(w':World):Prop:=∃A n c,en= .returned (.slice A n c)∧HAl w' (.slice A n c)∧Below w.heap.size w w'
theorem alarm_put (w:World):Calls Tryz.prog 169 #[.slice none 0 0,.agg #[.int .u64 20,.int .i64 1]] w (PutV w):=by
 obtain⟨i0,hi,hz0,hz1,hz2⟩:=info_parts infoAl
 have HB:Hid (Below w.heap.size w w):=h_ (Below.refl _ _)
 go_enter Tryz.func169,Tryz.ntmps169
 go_upto_region 1 with(fail)
 refine nm fun w1 hb=>?_
 obtain⟨hz,_,hb,KD⟩:=na1 hb
 obtain⟨hz,HB⟩:=m1 hb HB
 obtain⟨D0,Df0,D1,Df1⟩:=cells2 KD.out
 go_region_held3 (fun w'=>w'.cell? ⟨w.heap.size,0,none⟩=some (.int .u64 20)∧w'.cell? ⟨w.heap.size,1,none⟩=some (.int .i64 1)) (go_keep)
  (first
   |(go_at_call 201;refine(clone_nil_Al _).mono ?_;rintro e w2 ⟨rfl,hw2⟩;subst hw2)
   |(refine step_append_lies _ (by rfl) _ _ 45 (by rfl) _ 300 i0 _ 2 16 Tryz.underlying45 hi hz0 hz1 hz2 rfl (by decide) (.slice none 0 0) 0 [] rfl (World.ownsRow_nil _ _ _ _) _ 1 1 (tyAl.enc ⟨20,1⟩) rfl rfl (World.news_of_block (heap_alloc_new _ _)) (tyAl.one _) (by decide) (by decide) (by decide) (Nat.le_refl _) _ rfl ?_;intro g cap w3 hown hgr hat hlt;have hb3:=below_grown hgr;have k3:w3.heap[w.heap.size]? =some (.cells #[.int .u64 20,.int .i64 1] 300 (0,0)):=bb (bb (blk_drew KD.out) (one _ _)) hb3;have hc0:w3.cell? ⟨w.heap.size,0,none⟩=some (.int .u64 20):=bq k3 0;have hc1:w3.cell? ⟨w.heap.size,1,none⟩=some (.int .i64 1):=bq k3 1))
 all_goals (have HO:=h_ hown;clear hown)
 all_goals (have HB3:=h_ (below_call (below_drew (below_alloc HB.out _)) hb3);clear hb3 hgr hat)
 all_goals go_wp2_with fail
 all_goals refine wp_loop_rounds 1 ?_
 all_goals rw[rounds_succ]
 all_goals go_wp2
 all_goals go_ret
 all_goals exact⟨_,_,_,rfl,.inr ⟨⟨20,1⟩,Rs.of_own (T:=tyAl) (l:= [⟨20,1⟩]) HO.out,rfl⟩,HB3.out⟩
def RenewV (L:Value)(nx:Int)(w:World)(en:Ending)(w':World):Prop:=∃A n c,en= .returned (.agg #[.int .i64 1,L,.slice A n c,.int .i64 (nx),.int .u64 0])∧HAl w' (.slice A n c)∧Below w.heap.size w w'
theorem ses_renewed (A H:Option Addr)(n c m k:Nat)(nx:Int)(w:World)(hH:HAl w (.slice H m k)):
  Calls Tryz.prog 117 #[.agg #[.int .i64 1,.slice A n c,.slice H m k,.int .i64 (nx),.int .u64 0],.int .i64 1] w (RenewV (.slice A n c) nx w):=by
 have HH:=h_ hH
 clear hH
 have HB:Hid (Below w.heap.size w w):=h_ (Below.refl _ _)
 go_enter Tryz.func117,Tryz.ntmps117
 have HH0:=HH
 clear HH
 go_upto_region 1 with(fail)
 refine nm fun w1 hb=>?_
 obtain⟨hz,_,hb,KD,KQ⟩:=na2 hb
 obtain⟨hz,HH0,HB⟩:=m2 hb HH0 HB
 obtain⟨D0,Df0,D1,Df1,D2,Df2,D3,Df3,D4,Df4⟩:=cells5 KD.out
 obtain⟨Q0,Qf0,Q1,Qf1,Q2,Qf2,Q3,Qf3,Q4,Qf4⟩:=cells5 KQ.out
 clear D0 Df0 D1 Df1 D2 Df2 D3 Df3 D4 Df4 Q0 Qf0 Q1 Qf1 Q2 Qf2 Q3 Qf3 Q4 Qf4
 refine rl1 15 KD fun u1 hb=>?_
 obtain⟨hz,KD,KQ,HH0,HB⟩:=m4 hb KD KQ HH0 HB
 refine l_ 0 (.inr KD.out) ?_
 refine lq 1 (fun _ k=>bq k 2) KD.out ?_
 refine l_ 2 (.inr KD.out) ?_
 refine l_ 4 (.inr KD.out) ?_
 refine lq 5 (fun _ k=>bq k 4) KD.out ?_
 refine l_ 6 (.inr KD.out) ?_
 refine lq 7 (fun _ k=>bq k 4) KD.out ?_
 refine l_ 8 (.inr KD.out) ?_
 refine l_ 9 (.inr KD.out) ?_
 refine l_ 10 (.inr KD.out) ?_
 refine l_ 11 (.inr KD.out) ?_
 refine l_ 12 (.inr KD.out) ?_
 refine ld 3 fun K hK=>?_
 go_simp
 go_at_call 121
 refine(alarm_drop _ _ _ _ (HAl.map (fun _ h=>h) HH0.out)).mono ?_
 rintro e w2 ⟨rfl,hb⟩
 obtain⟨hz,KD,KQ,HH0,HB⟩:=m4 hb KD KQ HH0 HB
 refine b_ hK (.inr KD.out) ?_
 refine ld 13 fun K hK=>?_
 go_simp
 go_at_call 169
 refine(alarm_put _).mono ?_
 rintro e w3 ⟨A3,n3,c3,rfl,hA3,hb⟩
 have HA3:=h_ hA3
 clear hA3
 obtain⟨hz,KD,KQ,HH0,HB⟩:=m4 hb KD KQ HH0 HB
 refine b_ hK (.inr KD.out) ?_
 refine l_ 14 (.inr KD.out) ?_
 refine ld 15 fun K hK=>?_
 obtain⟨D0,Df0,D1,Df1,D2,Df2,D3,Df3,D4,Df4⟩:=cells5 KD.out
 go_simp
 clear D0 Df0 D1 Df1 D2 Df2 D3 Df3 D4 Df4
 refine ns KD fun u2 ho kD=>?_
 obtain⟨hz,KQ,HH0,HA3,HB⟩:=o4 ho KQ HH0 HA3 HB
 replace KD:=kD
 clear kD
 refine b_ hK (.inl (by kernel_rfl)) ?_
 refine dl ?_
 go_upto_region 2 with(fail)
 refine nm fun w4 hb=>?_
 obtain⟨hz,KD,KQ,HH0,HA3,HB⟩:=m5 hb KD KQ HH0 HA3 HB
 obtain⟨D0,Df0,D1,Df1,D2,Df2,D3,Df3,D4,Df4⟩:=cells5 KD.out
 obtain⟨Q0,Qf0,Q1,Qf1,Q2,Qf2,Q3,Qf3,Q4,Qf4⟩:=cells5 KQ.out
 go_wp2
 refine bodyPost_ret (res_cell (cs:=#[.int .i64 1,.slice A n c,.slice A3 n3 c3,.int .i64 (nx),.int .u64 0]) Tryz.results117 rfl (blk_put KQ.out 0 [.int .i64 1,.slice A n c,.slice A3 n3 c3,.int .i64 (nx),.int .u64 0] (Nat.le_of_ble_eq_true rfl)) Tryz.underlying47 rfl (by kernel_rfl)) rfl ⟨_,_,_,rfl,?_,?_⟩
 ·exact(HAl.map (fun _ h=>(Rs.puts h KQ.out (by decide) 0 [.int .i64 1,.slice A n c,.slice A3 n3 c3,.int .i64 (nx),.int .u64 0])) HA3.out)
 ·exact(below_puts HB.out (w.heap.size+1) (by omega) 0 [.int .i64 1,.slice A n c,.slice A3 n3 c3,.int .i64 (nx),.int .u64 0])
def TakeV (nx:Int)(y:Sn)(w:World)(en:Ending)(w':World):Prop:=∃A n c H m k,en= .returned (.tuple #[.agg #[.int .i64 1,.slice A n c,.slice H m k,.int .i64 (nx),.int .u64 0],.int .i64 0])∧Rs tySn 71 w' (.slice A n c) [y]∧HAl w' (.slice H m k)∧Below w.heap.size w w'
theorem ses_take (A H:Option Addr)(n c m k:Nat)(nx:Int)(x:Sn)(w:World)(h:Rs tySn 71 w (.slice A n c) [x])(hH:HAl w (.slice H m k))(hq0:0≤x.seq)(hq1:x.seq<1073741824):
  Calls Tryz.prog 73 #[.agg #[.int .i64 1,.slice A n c,.slice H m k,.int .i64 (nx),.int .u64 0],.int .i64 1,.int .i64 0] w (TakeV nx ⟨x.seq+1,true,⟨#[]⟩,x.txn⟩ w):=by
 have c1:decide ((1073741824:Int)≤x.seq)=false:=decide_eq_false (by omega)
 have c2:¬(1073741824:Int)≤x.seq:=by omega
 have HH0:=h_ hH
 clear hH
 have HB:Hid (Below w.heap.size w w):=h_ (Below.refl _ _)
 have HR:=h_ h
 clear h
 go_enter Tryz.func73,Tryz.ntmps73
 go_wp2_with fail
 refine(ses_find _ _ _ _ _ _ nx x _ (Rs.below (Rs.below (Rs.below HR.out (one _ _)) (one _ _)) (one _ _))).mono ?_
 rintro e w1 ⟨rfl,hb⟩
 have kD:=hid_mv (show w1.heap[w.heap.size]? =some (.cells #[.int .i64 1,.slice A n c,.slice H m k,.int .i64 (nx),.int .u64 0] 47 (0,0))from bb (bb (bb (blk_new' _ _ _ (by simp)) (one _ _)) (one _ _)) hb)
 have kI:=hid_mv (show w1.heap[w.heap.size+1]? =some (.cells #[.int .i64 0] 3 (0,0))from bb (bb (blk_new' _ _ _ (by simp)) (one _ _)) hb)
 have kQ:=hid_mv (show w1.heap[w.heap.size+1+1]? =some (.cells #[.int .i64 0,.slice none 0 0,.slice none 0 0,.int .i64 0,.int .u64 0] 47 (0,0))from bb (blk_new' _ _ _ (by simp)) hb)
 have hz:=(hb).size
 obtain⟨KD,D0lt,D0ne,D0en⟩:=kD
 obtain⟨KI,I0lt,I0ne,I0en⟩:=kI
 obtain⟨KQ,Q0lt,Q0ne,Q0en⟩:=kQ
 replace HR:Hid (Rs tySn 71 w1 (.slice A n c) ([x])):=h_ (Rs.below (Rs.below (Rs.below (Rs.below HR.out (one _ _)) (one _ _)) (one _ _)) hb)
 replace HH0:Hid (HAl w1 (.slice H m k)):=h_ (HAl.map (fun _ h=>Rs.below (Rs.below (Rs.below (Rs.below h (one _ _)) (one _ _)) (one _ _)) hb) HH0.out)
 replace HB:=h_ (below_call (below_alloc (below_alloc (below_alloc HB.out _) _) _) hb)
 have hs0_:=HB.out.size
 clear hb
 obtain⟨D0,Df0,D1,Df1,D2,Df2,D3,Df3,D4,Df4⟩:=cells5 KD.out
 go_wp2_with fail
 refine(with_take _ _ _ _ _ _ nx x (w.heap.size+1) _ (Rs.below HR.out (one _ _)) (bb KI.out (one _ _)) hq0 hq1).mono ?_
 rintro e w2 ⟨A2,n2,c2_,rfl,hR2,hb⟩
 have HR2:=h_ hR2
 clear hR2
 clear HR
 clear D0 Df0 D1 Df1 D2 Df2 D3 Df3 D4 Df4
 obtain⟨hz,_,hb,KX⟩:=na1 hb
 obtain⟨hz,KD,KI,KQ,HH0,HB⟩:=m5 hb KD KI KQ HH0 HB
 obtain⟨D0,Df0,D1,Df1,D2,Df2,D3,Df3,D4,Df4⟩:=cells5 KD.out
 go_upto_region 7 with(fail)
 refine nm fun w3 hb=>?_
 clear D0 Df0 D1 Df1 D2 Df2 D3 Df3 D4 Df4
 obtain⟨ho,kD⟩:=pw 0 [.int .i64 1,.slice A2 n2 c2_,.slice H m k,.int .i64 (nx),.int .u64 0] KD hb
 obtain⟨hz,KI,KQ,KX,HH0,HR2,HB⟩:=o6 ho KI KQ KX HH0 HR2 HB
 replace KD:=kD
 clear kD
 obtain⟨D0,Df0,D1,Df1,D2,Df2,D3,Df3,D4,Df4⟩:=cells5 KD.out
 obtain⟨Q0,Qf0,Q1,Qf1,Q2,Qf2,Q3,Qf3,Q4,Qf4⟩:=cells5 KQ.out
 go_wp2_with fail
 refine(ses_renewed _ _ _ _ _ _ nx _ (HAl.map (fun _ h=>h) HH0.out)).mono ?_
 rintro e w4 ⟨A4,n4,c4,rfl,hA4,hb⟩
 have HA4:=h_ hA4
 clear hA4 HH0
 clear D0 Df0 D1 Df1 D2 Df2 D3 Df3 D4 Df4 Q0 Qf0 Q1 Qf1 Q2 Qf2 Q3 Qf3 Q4 Qf4
 obtain⟨hz,KD,KI,KQ,KX,HR2,HB⟩:=m6 hb KD KI KQ KX HR2 HB
 obtain⟨Q0,Qf0,Q1,Qf1,Q2,Qf2,Q3,Qf3,Q4,Qf4⟩:=cells5 KQ.out
 go_wp2
 refine bodyPost_ret (res_cell_tmp (cs:=#[.int .i64 1,.slice A2 n2 c2_,.slice A4 n4 c4,.int .i64 (nx),.int .u64 0]) Tryz.results73 rfl (blk_put KQ.out 0 [.int .i64 1,.slice A2 n2 c2_,.slice A4 n4 c4,.int .i64 (nx),.int .u64 0] (Nat.le_of_ble_eq_true rfl)) Tryz.underlying47 rfl (by kernel_rfl)) rfl ⟨_,_,_,_,_,_,rfl,?_,?_,?_⟩
 ·exact(Rs.puts HR2.out KQ.out (by decide) 0 [.int .i64 1,.slice A2 n2 c2_,.slice A4 n4 c4,.int .i64 (nx),.int .u64 0])
 ·exact(HAl.map (fun _ h=>(Rs.puts h KQ.out (by decide) 0 [.int .i64 1,.slice A2 n2 c2_,.slice A4 n4 c4,.int .i64 (nx),.int .u64 0])) HA4.out)
 ·exact(below_puts HB.out (w.heap.size+1+1) (by omega) 0 [.int .i64 1,.slice A2 n2 c2_,.slice A4 n4 c4,.int .i64 (nx),.int .u64 0])
def OpenV (w:World)(en:Ending)(w':World):Prop:=∃A n c H m k,en= .returned (.tuple #[.agg #[.int .i64 1,.slice A n c,.slice H m k,.int .i64 2,.int .u64 0],.int .i64 1,.int .i64 0])∧Rs tySn 71 w' (.slice A n c) [⟨0,false,⟨#[]⟩,0⟩]∧HAl w' (.slice H m k)∧Below w.heap.size w w'
theorem ses_open (w:World):Calls Tryz.prog 66 #[.agg #[.int .i64 1,.slice none 0 0,.slice none 0 0,.int .i64 1,.int .u64 0],.int .i64 0] w (OpenV w):=by
 have HB:Hid (Below w.heap.size w w):=h_ (Below.refl _ _)
 go_enter Tryz.func66,Tryz.ntmps66
 go_upto_region 6 with(fail)
 refine nm fun w0 hb=>?_
 obtain⟨hz,_,hb,KD,KQ⟩:=na2 hb
 obtain⟨hz,HB⟩:=m1 hb HB
 obtain⟨D0,Df0,D1,Df1,D2,Df2,D3,Df3,D4,Df4⟩:=cells5 KD.out
 go_wp2_with fail
 refine(clone_nil_Sn _).mono ?_
 rintro e w1 ⟨rfl,rfl⟩
 go_wp2_with (at_builtin;refine print_append_cells (w0:=_) _ rfl _ _ 44 71 _ 6 56 rfl Tryz.underlying44 infoSn rfl (by decide) (by decide) (.slice none 0 0) 0 [] (tySn.enc ⟨0,false,⟨#[]⟩,0⟩) rfl rfl rfl (tySn.one _) (World.ownsRow_nil _ _ _ _) (Below.refl _ _) (Nat.le_refl _) ?_ ?_)
 ·decide
 intro v_ w2 hown hb _ _
 obtain⟨g,cap,cur,rfl,_,_,_,_,_⟩:=own_form hown (Nat.succ_pos 0)
 have HR:=h_ (Rs.of_own (T:=tySn) (l:= [⟨0,false,⟨#[]⟩,0⟩]) hown)
 clear hown
 clear D0 Df0 D1 Df1 D2 Df2 D3 Df3 D4 Df4
 obtain⟨hz,KD,KQ,HB⟩:=m3 hb KD KQ HB
 obtain⟨D0,Df0,D1,Df1,D2,Df2,D3,Df3,D4,Df4⟩:=cells5 KD.out
 obtain⟨Q0,Qf0,Q1,Qf1,Q2,Qf2,Q3,Qf3,Q4,Qf4⟩:=cells5 KQ.out
 go_upto_region 7 with(fail)
 refine nm fun w3 hb=>?_
 clear D0 Df0 D1 Df1 D2 Df2 D3 Df3 D4 Df4 Q0 Qf0 Q1 Qf1 Q2 Qf2 Q3 Qf3 Q4 Qf4
 obtain⟨ho,kD⟩:=ps KD hb
 obtain⟨hz,KQ,HR,HB⟩:=o3 ho KQ HR HB
 replace KD:=kD
 clear kD
 obtain⟨D0,Df0,D1,Df1,D2,Df2,D3,Df3,D4,Df4⟩:=cells5 KD.out
 go_upto_region 8 with(fail)
 refine nm fun w4 hb=>?_
 clear D0 Df0 D1 Df1 D2 Df2 D3 Df3 D4 Df4
 obtain⟨ho,kD⟩:=ps KD hb
 obtain⟨hz,KQ,HR,HB⟩:=o3 ho KQ HR HB
 replace KD:=kD
 clear kD
 obtain⟨D0,Df0,D1,Df1,D2,Df2,D3,Df3,D4,Df4⟩:=cells5 KD.out
 obtain⟨Q0,Qf0,Q1,Qf1,Q2,Qf2,Q3,Qf3,Q4,Qf4⟩:=cells5 KQ.out
 go_wp2_with fail
 refine(ses_renewed _ _ _ _ _ _ 2 _ (.inl rfl)).mono ?_
 rintro e w5 ⟨A4,n4,c4,rfl,hA4,hb⟩
 have HA4:=h_ hA4
 clear hA4
 clear D0 Df0 D1 Df1 D2 Df2 D3 Df3 D4 Df4 Q0 Qf0 Q1 Qf1 Q2 Qf2 Q3 Qf3 Q4 Qf4
 obtain⟨hz,KD,KQ,HR,HB⟩:=m4 hb KD KQ HR HB
 obtain⟨Q0,Qf0,Q1,Qf1,Q2,Qf2,Q3,Qf3,Q4,Qf4⟩:=cells5 KQ.out
 go_wp2
 refine bodyPost_ret (res_cell_tmp2 (cs:=#[.int .i64 1,.slice (some ⟨g,0,none⟩) 1 cap,.slice A4 n4 c4,.int .i64 2,.int .u64 0]) Tryz.results66 rfl (blk_put KQ.out 0 [.int .i64 1,.slice (some ⟨g,0,none⟩) 1 cap,.slice A4 n4 c4,.int .i64 2,.int .u64 0] (Nat.le_of_ble_eq_true rfl)) Tryz.underlying47 rfl (by kernel_rfl)) rfl ⟨_,_,_,_,_,_,rfl,?_,?_,?_⟩
 ·exact(Rs.puts HR.out KQ.out (by decide) 0 [.int .i64 1,.slice (some ⟨g,0,none⟩) 1 cap,.slice A4 n4 c4,.int .i64 2,.int .u64 0])
 ·exact(HAl.map (fun _ h=>(Rs.puts h KQ.out (by decide) 0 [.int .i64 1,.slice (some ⟨g,0,none⟩) 1 cap,.slice A4 n4 c4,.int .i64 2,.int .u64 0])) HA4.out)
 ·exact(below_puts HB.out (w.heap.size+1) (by omega) 0 [.int .i64 1,.slice (some ⟨g,0,none⟩) 1 cap,.slice A4 n4 c4,.int .i64 2,.int .u64 0])
theorem ses_judge (A H:Option Addr)(n c m k:Nat)(nx:Int)(s txn kd sq ok mo:Int)(last tk key vl lo hi:ByteArray)(w:World)(h:Rs tySn 71 w (.slice A n c) [⟨s,false,last,txn⟩])(h0:0≤s)(h1:s<1073741824)(hs:sq=s+1):
  Calls Tryz.prog 72 #[.agg #[.int .i64 1,.slice A n c,.slice H m k,.int .i64 (nx),.int .u64 0],.agg #[.int .i64 kd,.int .i64 1,.int .i64 1,.int .i64 sq,.string tk,.int .i64 ok,.string key,.string vl,.string lo,.string hi,.int .i64 mo]] w fun e w'=>e= .returned (.tuple #[.string ⟨#[]⟩,.int .i64 0])∧Below w.heap.size w w':=by
 have c1:(sq<1)=False:=eq_false (by omega)
 have c2:(sq==s)=false:=by simp;omega
 have c3:IntKind.i64.wrap (s+1)=sq:=by rw[IntKind.wrap_i64];omega
 have c4:(sq<s)=False:=eq_false (by omega)
 clear hs h0 h1
 have HB:Hid (Below w.heap.size w w):=h_ (Below.refl _ _)
 have HR:=h_ h
 clear h
 go_enter Tryz.func72,Tryz.ntmps72
 go_wp2_with fail
 refine(ses_find _ _ _ _ _ _ nx _ _ (Rs.below (Rs.below HR.out (one _ _)) (one _ _))).mono ?_
 rintro e w1 ⟨rfl,hb⟩
 obtain⟨hz,_,hb,KD,KB⟩:=na2 hb
 obtain⟨hz,HR,HB⟩:=m2 hb HR HB
 obtain⟨D0,Df0,D1,Df1,D2,Df2,D3,Df3,D4,Df4⟩:=cells5 KD.out
 obtain⟨B0,Bf0,B1,Bf1,B2,Bf2,B3,Bf3,B4,Bf4,B5,Bf5,B6,Bf6,B7,Bf7,B8,Bf8,B9,Bf9,B10,Bf10⟩:=cells11 KB.out
 go_wp2
 go_ret2
 exact⟨rfl,(below_alloc HB.out _)⟩
theorem idxnil_Tx (c:Value)(w:World):Calls Tryz.prog 178 #[.slice none 0 0,c] w fun e w'=>e= .returned (.int .i64 (-1))∧w'=w:=by
 go_enter Tryz.func178,Tryz.ntmps178
 go_wp2
 refine wp_loop_rounds 1 ?_
 rw[rounds_succ]
 go_wp2
 go_ret
 exact⟨rfl,rfl⟩
theorem hasnil_Tx (c:Value)(w:World):Calls Tryz.prog 127 #[.slice none 0 0,c] w fun e w'=>e= .returned (.bool false)∧w'=w:=by
 go_enter Tryz.func127,Tryz.ntmps127
 go_wp2_with fail
 refine(idxnil_Tx c _).mono ?_
 rintro e w1 ⟨rfl,rfl⟩
 go_wp2
 go_ret
 exact⟨rfl,rfl⟩
theorem table_at0 (key:ByteArray)(w:World):Calls Tryz.prog 161 #[.slice none 0 0,.string key] w fun e w'=>e= .returned (.int .i64 (-1))∧Below w.heap.size w w':=by
 go_enter Tryz.func161,Tryz.ntmps161
 go_wp2_with fail
 refine(index_table_at1 (.slice none 0 0) [] (fun _=>true) w.heap.size _ (Rs.nil _ _ _) (by decide) (fun x W hx=>by cases hx)).mono ?_
 rintro e w1 ⟨rfl,hb⟩
 rw[show(idx (fun _=>true) ([]:List Pr) 0:Int)= -1 from rfl]
 have HB:=h_ (below_call (below_alloc (Below.refl w.heap.size w) _) hb)
 clear hb
 go_wp2
 go_ret
 exact⟨rfl,HB.out⟩
theorem table_find0 (key:ByteArray)(w:World):Calls Tryz.prog 157 #[.slice none 0 0,.string key] w fun e w'=>e= .returned (.tuple #[.string ⟨#[]⟩,.bool false])∧Below w.heap.size w w':=by
 go_enter Tryz.func157,Tryz.ntmps157
 go_wp2_with fail
 refine(table_at0 key _).mono ?_
 rintro e w1 ⟨rfl,hb⟩
 go_wp2
 go_ret2
 exact⟨rfl,hb⟩
theorem batch_decided0 (A:Option Addr)(n c:Nat)(tok:ByteArray)(w:World):Calls Tryz.prog 109 #[.agg #[.slice A n c,.slice none 0 0],.string tok] w fun e w'=>e= .returned (.tuple #[.string ⟨#[]⟩,.bool false])∧Below w.heap.size w w':=by
 go_enter Tryz.func109,Tryz.ntmps109
 go_wp2_with fail
 refine(table_find0 tok _).mono ?_
 rintro e w1 ⟨rfl,hb⟩
 have HB:=h_ (below_call (below_alloc (Below.refl w.heap.size w) _) hb)
 clear hb
 go_wp2
 go_ret2
 exact⟨rfl,HB.out⟩
theorem eng_at1 (x:Tx)(B:Nat)(w:World)(h:w.cell? ⟨B,0,none⟩=some (.int .i64 1)):
  Calls Tryz.prog 206 #[.agg #[.int .i64 1,.string x.token,.slice x.A x.n x.c,.bool false,.int .i64 0,.string ⟨#[]⟩,.string ⟨#[]⟩,.string ⟨#[]⟩,.string ⟨#[]⟩,.int .i64 0],.pointer (some ⟨B,0,none⟩)] w fun e w'=>e= .returned (.bool true)∧Below w.heap.size w w':=by
 have lB:B<w.heap.size:=World.block_lt_of_cell? w ⟨B,0,none⟩ h
 have nB:B≠w.heap.size:=Nat.ne_of_lt lB
 go_enter Tryz.func206,Tryz.ntmps206
 go_wp2
 go_ret
 exact⟨rfl,one _ _⟩
theorem eng_at (V DA KA HA TA:Option Addr)(vn vc dn dc kn kc hn hc tn tc:Nat)(room nx:Int)(x:Tx)(w:World)(h:Rs tyTx 237 w (.slice TA tn tc) [x]):
  Calls Tryz.prog 180 #[.agg #[.slice V vn vc,.int .i64 (room),.int .i64 (-1),.bool false,.int .i64 1,.int .i64 1,.int .i64 0,.slice DA dn dc,.slice KA kn kc,.bool false,.slice HA hn hc,.slice none 0 0,.slice TA tn tc,.int .i64 nx,.int .u64 0],.int .i64 1] w fun e w'=>e= .returned (.int .i64 0)∧Below w.heap.size w w':=by
 have HB:Hid (Below w.heap.size w w):=h_ (Below.refl _ _)
 have HR:=h_ h
 clear h
 go_enter Tryz.func180,Tryz.ntmps180
 go_wp2_with fail
 refine(index_engine_at1 _ [x] (fun _=>true) (w.heap.size+1) _ (Rs.below HR.out (below_alloc (below_alloc HB.out _) _)) (by simp) (fun y W _ hb=>eng_at1 y _ W (pw_cell_below hb (cell_new' _ _ _ _ _ _ (by simp) rfl)))).mono ?_
 rintro e w1 ⟨rfl,hb⟩
 obtain⟨hz,_,hb,KD,KI⟩:=na2 hb
 obtain⟨hz,HB⟩:=m1 hb HB
 go_wp2
 go_ret
 exact⟨rfl,HB.out⟩
theorem eng_find (V DA KA HA TA:Option Addr)(vn vc dn dc kn kc hn hc tn tc:Nat)(room nx:Int)(x:Tx)(w:World)(h:Rs tyTx 237 w (.slice TA tn tc) [x]):
  Calls Tryz.prog 130 #[.agg #[.slice V vn vc,.int .i64 (room),.int .i64 (-1),.bool false,.int .i64 1,.int .i64 1,.int .i64 0,.slice DA dn dc,.slice KA kn kc,.bool false,.slice HA hn hc,.slice none 0 0,.slice TA tn tc,.int .i64 nx,.int .u64 0],.int .i64 1] w fun e w'=>e= .returned (.tuple #[.agg #[.int .i64 1,.string x.token,.slice x.A x.n x.c,.bool false,.int .i64 0,.string ⟨#[]⟩,.string ⟨#[]⟩,.string ⟨#[]⟩,.string ⟨#[]⟩,.int .i64 0],.bool true])∧Below w.heap.size w w':=by
 have HB:Hid (Below w.heap.size w w):=h_ (Below.refl _ _)
 have HR:=h_ h
 obtain⟨b,c',e1,_,hbw⟩:=head_Tx h (by simp)
 clear h
 cases e1
 go_enter Tryz.func130,Tryz.ntmps130
 go_wp2_with fail
 refine(eng_at _ _ _ _ _ _ _ _ _ _ _ _ _ _ _ _ _ x _ (Rs.below HR.out (below_alloc (below_alloc HB.out _) _))).mono ?_
 rintro e w1 ⟨rfl,hb⟩
 obtain⟨hz,_,hb,KD,KQ⟩:=na2 hb
 obtain⟨hz,HB⟩:=m1 hb HB
 obtain⟨D0,Df0,D1,Df1,D2,Df2,D3,Df3,D4,Df4,D5,Df5,D6,Df6,D7,Df7,D8,Df8,D9,Df9,D10,Df10,D11,Df11,D12,Df12,D13,Df13,D14,Df14⟩:=cells15 KD.out
 obtain⟨Q0,Qf0,Q1,Qf1,Q2,Qf2,Q3,Qf3,Q4,Qf4,Q5,Qf5,Q6,Qf6,Q7,Qf7,Q8,Qf8,Q9,Qf9⟩:=cells10 KQ.out
 obtain⟨x0,x1,x2,x3,x4,x5,x6,x7,x8,x9⟩:=el0_Tx (Rs.below HR.out HB.out) x rfl
 go_wp2
 refine bodyPost_ret (res_cell_tmp (cs:=#[.int .i64 1,.string x.token,.slice x.A x.n x.c,.bool false,.int .i64 0,.string ⟨#[]⟩,.string ⟨#[]⟩,.string ⟨#[]⟩,.string ⟨#[]⟩,.int .i64 0]) Tryz.results130 rfl (blk_put KQ.out 0 [.int .i64 1,.string x.token,.slice x.A x.n x.c,.bool false,.int .i64 0,.string ⟨#[]⟩,.string ⟨#[]⟩,.string ⟨#[]⟩,.string ⟨#[]⟩,.int .i64 0] (Nat.le_of_ble_eq_true rfl)) Tryz.underlying237 rfl (by kernel_rfl)) rfl ⟨rfl,?_⟩
 ·exact(below_puts HB.out (w.heap.size+1) (by omega) 0 [.int .i64 1,.string x.token,.slice x.A x.n x.c,.bool false,.int .i64 0,.string ⟨#[]⟩,.string ⟨#[]⟩,.string ⟨#[]⟩,.string ⟨#[]⟩,.int .i64 0])
theorem eng_until (w:World):Calls Tryz.prog 184 #[.int .u64 0] w fun e w'=>e= .returned (.int .u64 5)∧w'=w:=by
 go_enter Tryz.func184,Tryz.ntmps184
 go_wp2
 go_ret
 exact⟨rfl,rfl⟩
def BeginV (V:Option Addr)(vn vc:Nat)(room:Int)(tok:ByteArray)(w:World)(en:Ending)(w':World):Prop:=∃T n c,en= .returned (.tuple #[.agg #[.slice V vn vc,.int .i64 (room),.int .i64 (-1),.bool false,.int .i64 1,.int .i64 1,.int .i64 0,.slice none 0 0,.slice none 0 0,.bool false,.slice none 0 0,.slice none 0 0,.slice T n c,.int .i64 2,.int .u64 0],.int .i64 1,.int .i64 0])∧Rs tyTx 237 w' (.slice T n c) [⟨tok,none,0,0⟩]∧Below w.heap.size w w'
theorem eng_begin (V:Option Addr)(vn vc:Nat)(room:Int)(tok:ByteArray)(w:World)(h1:1≤tok.size)(h2:tok.size≤16):
  Calls Tryz.prog 125 #[.agg #[.slice V vn vc,.int .i64 (room),.int .i64 (-1),.bool false,.int .i64 1,.int .i64 1,.int .i64 0,.slice none 0 0,.slice none 0 0,.bool false,.slice none 0 0,.slice none 0 0,.slice none 0 0,.int .i64 1,.int .u64 0],.string tok] w (BeginV V vn vc room tok w):=by
 have c1:((tok.size:Int)<1)=False:=eq_false (by omega)
 have c2:((16:Int)<(tok.size:Int))=False:=eq_false (by omega)
 have c3:¬((tok.size:Int)<1):=by omega
 have c4:¬((16:Int)<(tok.size:Int)):=by omega
 have HB:Hid (Below w.heap.size w w):=h_ (Below.refl _ _)
 go_enter Tryz.func125,Tryz.ntmps125
 go_wp2_with fail
 refine(batch_decided0 none 0 0 tok _).mono ?_
 rintro e w1 ⟨rfl,hb⟩
 have kD:=hid_mv (show w1.heap[w.heap.size]? =some (.cells #[.slice V vn vc,.int .i64 (room),.int .i64 (-1),.bool false,.int .i64 1,.int .i64 1,.int .i64 0,.slice none 0 0,.slice none 0 0,.bool false,.slice none 0 0,.slice none 0 0,.slice none 0 0,.int .i64 1,.int .u64 0] 43 (0,0))from bb (bb (bb (blk_new' _ _ _ (by simp)) (one _ _)) (one _ _)) hb)
 have kI:=hid_mv (show w1.heap[w.heap.size+1]? =some (.cells #[.string tok] 9 (0,0))from bb (bb (blk_new' _ _ _ (by simp)) (one _ _)) hb)
 have kQ:=hid_mv (show w1.heap[w.heap.size+1+1]? =some (.cells #[.slice none 0 0,.int .i64 0,.int .i64 0,.bool false,.int .i64 0,.int .i64 0,.int .i64 0,.slice none 0 0,.slice none 0 0,.bool false,.slice none 0 0,.slice none 0 0,.slice none 0 0,.int .i64 0,.int .u64 0] 43 (0,0))from bb (blk_new' _ _ _ (by simp)) hb)
 have hz:=(hb).size
 skip
 obtain⟨KD,D0lt,D0ne,D0en⟩:=kD
 obtain⟨KI,I0lt,I0ne,I0en⟩:=kI
 obtain⟨KQ,Q0lt,Q0ne,Q0en⟩:=kQ
 replace HB:=h_ (below_call (below_alloc (below_alloc (below_alloc HB.out _) _) _) hb)
 have hs0_:=HB.out.size
 clear hb
 obtain⟨D0,Df0,D1,Df1,D2,Df2,D3,Df3,D4,Df4,D5,Df5,D6,Df6,D7,Df7,D8,Df8,D9,Df9,D10,Df10,D11,Df11,D12,Df12,D13,Df13,D14,Df14⟩:=cells15 KD.out
 obtain⟨I0,If0⟩:=cells1 KI.out
 go_wp2_with fail
 refine(hasnil_Tx _ _).mono ?_
 rintro e w2 ⟨rfl,rfl⟩
 go_upto_region 16 with(fail)
 refine nm fun w3 hb=>?_
 clear D0 Df0 D1 Df1 D2 Df2 D3 Df3 D4 Df4 D5 Df5 D6 Df6 D7 Df7 D8 Df8 D9 Df9 D10 Df10 D11 Df11 D12 Df12 D13 Df13 D14 Df14 I0 If0
 obtain⟨hz,KD,KI,KQ,HB⟩:=m4 hb KD KI KQ HB
 refine rl2 9 KD KI fun u1 hb=>?_
 obtain⟨hz,KD,KI,KQ,HB⟩:=m4 hb KD KI KQ HB
 refine l_ 0 (.inr ⟨KD.out,KI.out⟩) ?_
 refine lq 1 (fun _ k=>bq k.1 12) ⟨KD.out,KI.out⟩ ?_
 refine l_ 3 (.inr ⟨KD.out,KI.out⟩) ?_
 refine lq 4 (fun _ k=>bq k.2 0) ⟨KD.out,KI.out⟩ ?_
 refine l_ 5 (.inr ⟨KD.out,KI.out⟩) ?_
 refine last_ready (rs:= [2,6]) (by kernel_rfl) (by simp) ?_
 refine AllL.cons rfl (fun K hK=>?_) ?_
 ·go_simp
  go_at_call 176
  refine(clone_nil_Tx _).mono ?_
  rintro e w4 ⟨rfl,hw⟩
  have hb:=below_of_eq hw
  clear hw
  obtain⟨hz,KD,KI,KQ,HB⟩:=m4 hb KD KI KQ HB
  refine b_ hK (.inr ⟨KD.out,KI.out⟩) ?_
  refine ld 6 fun K hK=>?_
  go_simp
  refine na fun u2 hb KY=>?_
  obtain⟨hz,KD,KI,KQ,HB⟩:=m4 hb KD KI KQ HB
  have Ylt:=blk_lt KY.out
  refine b_ hK (.inr ⟨KD.out,KI.out⟩) ?_
  refine ld 7 fun K hK=>?_
  obtain⟨i0,hInf,hz0,hz1,hz2⟩:=info_parts infoTx
  refine step_append_lies _ (by rfl) _ _ 40 (by rfl) _ 237 i0 _ 10 136 Tryz.underlying40 hInf hz0 hz1 hz2 rfl (by decide) (.slice none 0 0) 0 [] rfl (World.ownsRow_nil _ _ _ _) _ 1 1 (tyTx.enc ⟨tok,none,0,0⟩) rfl rfl (World.news_of_block KY.out) (tyTx.one _) (by decide) (by decide) (by decide) (Nat.le_refl _) _ rfl ?_
  intro g cap w9 hown hgr hat _
  have hb:=below_grown hgr
  have gge:u2.heap.size≤g:=hat.elim (fun h=>by cases h) (fun h=>by omega)
  have HT:=h_ (Rs.of_own (T:=tyTx) (l:= [⟨tok,none,0,0⟩]) hown)
  clear hown hgr hat hInf hz0 hz1 hz2
  obtain⟨hz,KD,KI,KQ,HB⟩:=m4 hb KD KI KQ HB
  refine b_ hK (.inr ⟨KD.out,KI.out⟩) ?_
  refine l_ 8 (.inr ⟨KD.out,KI.out⟩) ?_
  refine ld 9 fun K hK=>?_
  obtain⟨D0,Df0,D1,Df1,D2,Df2,D3,Df3,D4,Df4,D5,Df5,D6,Df6,D7,Df7,D8,Df8,D9,Df9,D10,Df10,D11,Df11,D12,Df12,D13,Df13,D14,Df14⟩:=cells15 KD.out
  go_simp
  clear D0 Df0 D1 Df1 D2 Df2 D3 Df3 D4 Df4 D5 Df5 D6 Df6 D7 Df7 D8 Df8 D9 Df9 D10 Df10 D11 Df11 D12 Df12 D13 Df13 D14 Df14
  refine ns KD fun u3 ho kD=>?_
  obtain⟨hz,KI,KQ,HT,HB⟩:=o4 ho KI KQ HT HB
  replace KD:=kD
  clear kD
  refine b_ hK (.inl (by kernel_rfl)) ?_
  refine dl ?_
  go_upto_region 17 with(fail)
  refine nm fun w5 hb=>?_
  obtain⟨hz,KD,KI,KQ,HT,HB⟩:=m5 hb KD KI KQ HT HB
  obtain⟨D0,Df0,D1,Df1,D2,Df2,D3,Df3,D4,Df4,D5,Df5,D6,Df6,D7,Df7,D8,Df8,D9,Df9,D10,Df10,D11,Df11,D12,Df12,D13,Df13,D14,Df14⟩:=cells15 KD.out
  go_upto_region 18 with(fail)
  refine nm fun w6 hb=>?_
  clear D0 Df0 D1 Df1 D2 Df2 D3 Df3 D4 Df4 D5 Df5 D6 Df6 D7 Df7 D8 Df8 D9 Df9 D10 Df10 D11 Df11 D12 Df12 D13 Df13 D14 Df14
  obtain⟨ho,kD⟩:=ps KD hb
  obtain⟨hz,KI,KQ,HT,HB⟩:=o4 ho KI KQ HT HB
  replace KD:=kD
  clear kD
  obtain⟨D0,Df0,D1,Df1,D2,Df2,D3,Df3,D4,Df4,D5,Df5,D6,Df6,D7,Df7,D8,Df8,D9,Df9,D10,Df10,D11,Df11,D12,Df12,D13,Df13,D14,Df14⟩:=cells15 KD.out
  obtain⟨Q0,Qf0,Q1,Qf1,Q2,Qf2,Q3,Qf3,Q4,Qf4,Q5,Qf5,Q6,Qf6,Q7,Qf7,Q8,Qf8,Q9,Qf9,Q10,Qf10,Q11,Qf11,Q12,Qf12,Q13,Qf13,Q14,Qf14⟩:=cells15 KQ.out
  go_wp2
  refine bodyPost_ret (res_cell_tmp2 (cs:=#[.slice V vn vc,.int .i64 (room),.int .i64 (-1),.bool false,.int .i64 1,.int .i64 1,.int .i64 0,.slice none 0 0,.slice none 0 0,.bool false,.slice none 0 0,.slice none 0 0,.slice (some ⟨g,0,none⟩) 1 cap,.int .i64 2,.int .u64 0]) Tryz.results125 rfl (blk_put KQ.out 0 [.slice V vn vc,.int .i64 (room),.int .i64 (-1),.bool false,.int .i64 1,.int .i64 1,.int .i64 0,.slice none 0 0,.slice none 0 0,.bool false,.slice none 0 0,.slice none 0 0,.slice (some ⟨g,0,none⟩) 1 cap,.int .i64 2,.int .u64 0] (Nat.le_of_ble_eq_true rfl)) Tryz.underlying43 rfl (by kernel_rfl)) rfl ⟨_,_,_,rfl,?_,?_⟩
  ·exact(Rs.puts HT.out KQ.out (by decide) 0 [.slice V vn vc,.int .i64 (room),.int .i64 (-1),.bool false,.int .i64 1,.int .i64 1,.int .i64 0,.slice none 0 0,.slice none 0 0,.bool false,.slice none 0 0,.slice none 0 0,.slice (some ⟨g,0,none⟩) 1 cap,.int .i64 2,.int .u64 0])
  ·exact(below_puts HB.out (w.heap.size+1+1) (by omega) 0 [.slice V vn vc,.int .i64 (room),.int .i64 (-1),.bool false,.int .i64 1,.int .i64 1,.int .i64 0,.slice none 0 0,.slice none 0 0,.bool false,.slice none 0 0,.slice none 0 0,.slice (some ⟨g,0,none⟩) 1 cap,.int .i64 2,.int .u64 0])
 refine AllL.cons rfl (fun K hK=>?_) AllL.nil
 go_simp
 refine na fun u4 hb KY=>?_
 obtain⟨hz,KD,KI,KQ,HB⟩:=m4 hb KD KI KQ HB
 have Ylt:=blk_lt KY.out
 refine b_ hK (.inr ⟨KD.out,KI.out⟩) ?_
 refine ld 2 fun K hK=>?_
 go_simp
 go_at_call 176
 refine(clone_nil_Tx _).mono ?_
 rintro e w4 ⟨rfl,hw⟩
 have hb:=below_of_eq hw
 clear hw
 obtain⟨hz,KD,KI,KQ,KY,HB⟩:=m5 hb KD KI KQ KY HB
 refine b_ hK (.inr ⟨KD.out,KI.out⟩) ?_
 refine ld 7 fun K hK=>?_
 obtain⟨i0,hInf,hz0,hz1,hz2⟩:=info_parts infoTx
 refine step_append_lies _ (by rfl) _ _ 40 (by rfl) _ 237 i0 _ 10 136 Tryz.underlying40 hInf hz0 hz1 hz2 rfl (by decide) (.slice none 0 0) 0 [] rfl (World.ownsRow_nil _ _ _ _) _ 1 1 (tyTx.enc ⟨tok,none,0,0⟩) rfl rfl (World.news_of_block KY.out) (tyTx.one _) (by decide) (by decide) (by decide) (Nat.le_refl _) _ rfl ?_
 intro g cap w9 hown hgr hat _
 have hb:=below_grown hgr
 have gge:w4.heap.size≤g:=hat.elim (fun h=>by cases h) (fun h=>by omega)
 have HT:=h_ (Rs.of_own (T:=tyTx) (l:= [⟨tok,none,0,0⟩]) hown)
 clear hown hgr hat hInf hz0 hz1 hz2
 obtain⟨hz,KD,KI,KQ,HB⟩:=m4 hb KD KI KQ HB
 refine b_ hK (.inr ⟨KD.out,KI.out⟩) ?_
 refine l_ 8 (.inr ⟨KD.out,KI.out⟩) ?_
 refine ld 9 fun K hK=>?_
 obtain⟨D0,Df0,D1,Df1,D2,Df2,D3,Df3,D4,Df4,D5,Df5,D6,Df6,D7,Df7,D8,Df8,D9,Df9,D10,Df10,D11,Df11,D12,Df12,D13,Df13,D14,Df14⟩:=cells15 KD.out
 go_simp
 clear D0 Df0 D1 Df1 D2 Df2 D3 Df3 D4 Df4 D5 Df5 D6 Df6 D7 Df7 D8 Df8 D9 Df9 D10 Df10 D11 Df11 D12 Df12 D13 Df13 D14 Df14
 refine ns KD fun u5 ho kD=>?_
 obtain⟨hz,KI,KQ,HT,HB⟩:=o4 ho KI KQ HT HB
 replace KD:=kD
 clear kD
 refine b_ hK (.inl (by kernel_rfl)) ?_
 refine dl ?_
 go_upto_region 17 with(fail)
 refine nm fun w5 hb=>?_
 obtain⟨hz,KD,KI,KQ,HT,HB⟩:=m5 hb KD KI KQ HT HB
 obtain⟨D0,Df0,D1,Df1,D2,Df2,D3,Df3,D4,Df4,D5,Df5,D6,Df6,D7,Df7,D8,Df8,D9,Df9,D10,Df10,D11,Df11,D12,Df12,D13,Df13,D14,Df14⟩:=cells15 KD.out
 go_upto_region 18 with(fail)
 refine nm fun w6 hb=>?_
 clear D0 Df0 D1 Df1 D2 Df2 D3 Df3 D4 Df4 D5 Df5 D6 Df6 D7 Df7 D8 Df8 D9 Df9 D10 Df10 D11 Df11 D12 Df12 D13 Df13 D14 Df14
 obtain⟨ho,kD⟩:=ps KD hb
 obtain⟨hz,KI,KQ,HT,HB⟩:=o4 ho KI KQ HT HB
 replace KD:=kD
 clear kD
 obtain⟨D0,Df0,D1,Df1,D2,Df2,D3,Df3,D4,Df4,D5,Df5,D6,Df6,D7,Df7,D8,Df8,D9,Df9,D10,Df10,D11,Df11,D12,Df12,D13,Df13,D14,Df14⟩:=cells15 KD.out
 obtain⟨Q0,Qf0,Q1,Qf1,Q2,Qf2,Q3,Qf3,Q4,Qf4,Q5,Qf5,Q6,Qf6,Q7,Qf7,Q8,Qf8,Q9,Qf9,Q10,Qf10,Q11,Qf11,Q12,Qf12,Q13,Qf13,Q14,Qf14⟩:=cells15 KQ.out
 go_wp2
 refine bodyPost_ret (res_cell_tmp2 (cs:=#[.slice V vn vc,.int .i64 (room),.int .i64 (-1),.bool false,.int .i64 1,.int .i64 1,.int .i64 0,.slice none 0 0,.slice none 0 0,.bool false,.slice none 0 0,.slice none 0 0,.slice (some ⟨g,0,none⟩) 1 cap,.int .i64 2,.int .u64 0]) Tryz.results125 rfl (blk_put KQ.out 0 [.slice V vn vc,.int .i64 (room),.int .i64 (-1),.bool false,.int .i64 1,.int .i64 1,.int .i64 0,.slice none 0 0,.slice none 0 0,.bool false,.slice none 0 0,.slice none 0 0,.slice (some ⟨g,0,none⟩) 1 cap,.int .i64 2,.int .u64 0] (Nat.le_of_ble_eq_true rfl)) Tryz.underlying43 rfl (by kernel_rfl)) rfl ⟨_,_,_,rfl,?_,?_⟩
 ·exact(Rs.puts HT.out KQ.out (by decide) 0 [.slice V vn vc,.int .i64 (room),.int .i64 (-1),.bool false,.int .i64 1,.int .i64 1,.int .i64 0,.slice none 0 0,.slice none 0 0,.bool false,.slice none 0 0,.slice none 0 0,.slice (some ⟨g,0,none⟩) 1 cap,.int .i64 2,.int .u64 0])
 ·exact(below_puts HB.out (w.heap.size+1+1) (by omega) 0 [.slice V vn vc,.int .i64 (room),.int .i64 (-1),.bool false,.int .i64 1,.int .i64 1,.int .i64 0,.slice none 0 0,.slice none 0 0,.bool false,.slice none 0 0,.slice none 0 0,.slice (some ⟨g,0,none⟩) 1 cap,.int .i64 2,.int .u64 0])
def EPutV (V DA KA HA:Option Addr)(vn vc dn dc kn kc hn hc:Nat)(room nx:Int)(g:Nat)(y:Tx)(out:Value)(w:World)(en:Ending)(w':World):Prop:=∃T n c,en= .returned (.tuple #[])∧Only g w w'∧w'.heap[g]? =some (.cells #[.slice V vn vc,.int .i64 (room),.int .i64 (-1),.bool false,.int .i64 1,.int .i64 1,.int .i64 0,.slice DA dn dc,.slice KA kn kc,.bool false,.slice HA hn hc,.slice none 0 0,.slice T n c,.int .i64 nx,.int .u64 0,out] 248 (0,0))∧Rs tyTx 237 w' (.slice T n c) [y]
theorem eng_put (V DA KA HA TA:Option Addr)(vn vc dn dc kn kc hn hc tn tc:Nat)(room nx:Int)(g:Nat)(x y:Tx)(O:Option Addr)(on oc:Nat)(w:World)(hg:w.heap[g]? =some (.cells #[.slice V vn vc,.int .i64 (room),.int .i64 (-1),.bool false,.int .i64 1,.int .i64 1,.int .i64 0,.slice DA dn dc,.slice KA kn kc,.bool false,.slice HA hn hc,.slice none 0 0,.slice TA tn tc,.int .i64 nx,.int .u64 0,.slice O on oc] 248 (0,0)))(h:Rs tyTx 237 w (.slice TA tn tc) [x]):
  Calls Tryz.prog 186 #[.pointer (some ⟨g,0,none⟩),.agg #[.int .i64 1,.string y.token,.slice y.A y.n y.c,.bool false,.int .i64 0,.string ⟨#[]⟩,.string ⟨#[]⟩,.string ⟨#[]⟩,.string ⟨#[]⟩,.int .i64 0]] w (EPutV V DA KA HA vn vc dn dc kn kc hn hc room nx g y (.slice O on oc) w):=by
 have hlt:=blk_lt hg
 have HB:Hid (Only g w w):=h_ (Only.refl _ _)
 have HG0:=h_ hg
 have KG:=h_ hg
 clear hg
 have HR:=h_ h
 clear h
 obtain⟨G0,Gf0,G1,Gf1,G2,Gf2,G3,Gf3,G4,Gf4,G5,Gf5,G6,Gf6,G7,Gf7,G8,Gf8,G9,Gf9,G10,Gf10,G11,Gf11,G12,Gf12,G13,Gf13,G14,Gf14,G15,Gf15⟩:=cells16 KG.out
 have nG:g≠w.heap.size:=Nat.ne_of_lt hlt
 go_enter Tryz.func186,Tryz.ntmps186
 go_wp2_with fail
 refine(clone_Tx _ [x] _ (Rs.only HR.out (only_alloc HB.out _) HG0.out (by decide)) (by simp)).mono ?_
 rintro e w2 ⟨v2,rfl,hown,hb⟩
 obtain⟨q,cap,cur,rfl,hcap,hq0,hq,hqs,hqc⟩:=own_form hown (Nat.succ_pos 0)
 have hqw:w.heap.size+1≤q:=by simpa using hq0
 have HQC:=h_ hqc
 have HQ:=h_ hq
 have HR2:=h_ (Rs.of_own (T:=tyTx) (l:= [x]) hown)
 clear hown hqc hq
 clear G0 Gf0 G1 Gf1 G2 Gf2 G3 Gf3 G4 Gf4 G5 Gf5 G6 Gf6 G7 Gf7 G8 Gf8 G9 Gf9 G10 Gf10 G11 Gf11 G12 Gf12 G13 Gf13 G14 Gf14 G15 Gf15
 obtain⟨hz,_,hb,KY⟩:=na1 hb
 obtain⟨hz,KG,HB⟩:=m2 hb KG HB
 obtain⟨G0,Gf0,G1,Gf1,G2,Gf2,G3,Gf3,G4,Gf4,G5,Gf5,G6,Gf6,G7,Gf7,G8,Gf8,G9,Gf9,G10,Gf10,G11,Gf11,G12,Gf12,G13,Gf13,G14,Gf14,G15,Gf15⟩:=cells16 KG.out
 have hqs':10≤cur.size:=by rw[hqs];exact Nat.le_trans (by decide:10≤1*10) (Nat.mul_le_mul_right _ hcap)
 have hqg:q≠g:=by have:=blk_lt HQ.out;omega
 have hqg2:=hqg.symm
 have KC:=HQ
 clear HQ
 go_upto_region 2 with(fail)
 refine nm fun w3 hb=>?_
 clear G0 Gf0 G1 Gf1 G2 Gf2 G3 Gf3 G4 Gf4 G5 Gf5 G6 Gf6 G7 Gf7 G8 Gf8 G9 Gf9 G10 Gf10 G11 Gf11 G12 Gf12 G13 Gf13 G14 Gf14 G15 Gf15
 obtain⟨ho,kG⟩:=ps KG hb
 obtain⟨hz,KY,KC,HR2,HB⟩:=o4 ho KY KC HR2 HB
 replace KG:=kG
 clear kG
 refine rl2 14 KG KY fun u1 hb=>?_
 obtain⟨hz,KG,KY,KC,HR2,HB⟩:=m5 hb KG KY KC HR2 HB
 refine l_ 0 (.inr ⟨KG.out,KY.out⟩) ?_
 refine l_ 1 (.inr ⟨KG.out,KY.out⟩) ?_
 refine l_ 2 (.inr ⟨KG.out,KY.out⟩) ?_
 refine l_ 3 (.inr ⟨KG.out,KY.out⟩) ?_
 refine lq 4 (fun _ k=>bq k.1 12) ⟨KG.out,KY.out⟩ ?_
 refine l_ 5 (.inr ⟨KG.out,KY.out⟩) ?_
 refine l_ 6 (.inr ⟨KG.out,KY.out⟩) ?_
 refine l_ 7 (.inr ⟨KG.out,KY.out⟩) ?_
 refine ll 8 0 15 (fun _ k=>k.1) ⟨KG.out,KY.out⟩ Tryz.underlying43 ?_
 refine l_ 9 (.inr ⟨KG.out,KY.out⟩) ?_
 refine lq 10 (fun _ k=>bq k.2 0) ⟨KG.out,KY.out⟩ ?_
 refine ll 12 0 10 (fun _ k=>k.2) ⟨KG.out,KY.out⟩ Tryz.underlying237 ?_
 refine ld 11 fun K hK=>?_
 go_simp
 go_at_call 180
 refine(eng_at _ _ _ _ _ _ _ _ _ _ _ _ _ _ _ _ _ x _ HR2.out).mono ?_
 rintro e w4 ⟨rfl,hb⟩
 obtain⟨hz,KG,KY,KC,HR2,HB⟩:=m5 hb KG KY KC HR2 HB
 refine b_ hK (.inr ⟨KG.out,KY.out⟩) ?_
 refine l_ 13 (.inr ⟨KG.out,KY.out⟩) ?_
 refine ld 14 fun K hK=>?_
 rw[if_pos (by rfl)]
 refine wp_store_mid 237 _ _ rfl q 0 #[.int .i64 1,.string y.token,.slice y.A y.n y.c,.bool false,.int .i64 0,.string ⟨#[]⟩,.string ⟨#[]⟩,.string ⟨#[]⟩,.string ⟨#[]⟩,.int .i64 0] rfl rfl (there_at KC.out 0 10 (by omega)) (by kernel_rfl) (by first|kernel_rfl|simp[Value.oneCell']) ?_
 rw[put_cells]
 have HT:=h_ (own_put (T:=tyTx) (l:= [x]) 0 y (Nat.succ_pos 0) hcap KC.out hqs HQC.out)
 clear HR2
 refine b_ hK (.inl (by kernel_rfl)) ?_
 refine dl ?_
 go_wp2
 go_end0
 exact⟨_,_,_,rfl,(only_puts_new HB.out (q) (by omega) 0 [.int .i64 1,.string y.token,.slice y.A y.n y.c,.bool false,.int .i64 0,.string ⟨#[]⟩,.string ⟨#[]⟩,.string ⟨#[]⟩,.string ⟨#[]⟩,.int .i64 0]),(blk_puts_far KG.out (q) (by omega) 0 [.int .i64 1,.string y.token,.slice y.A y.n y.c,.bool false,.int .i64 0,.string ⟨#[]⟩,.string ⟨#[]⟩,.string ⟨#[]⟩,.string ⟨#[]⟩,.int .i64 0]),HT.out⟩
theorem clo_tat1 (y:Pr)(key:ByteArray)(B:Nat)(w:World)(h:w.cell? ⟨B,0,none⟩=some (.string key)):
  Calls Tryz.prog 196 #[.agg #[.string y.key,.string y.val],.pointer (some ⟨B,0,none⟩)] w fun e w'=>e= .returned (.bool (sq y.key key))∧Below w.heap.size w w':=by
 have lB:B<w.heap.size:=World.block_lt_of_cell? w ⟨B,0,none⟩ h
 have nB:B≠w.heap.size:=Nat.ne_of_lt lB
 go_enter Tryz.func196,Tryz.ntmps196
 go_wp2
 go_ret
 exact⟨rfl,one _ _⟩
theorem clo_tput1 (y:Pr)(key:ByteArray)(B:Nat)(w:World)(h:w.cell? ⟨B,0,none⟩=some (.string key)):
  Calls Tryz.prog 163 #[.agg #[.string y.key,.string y.val],.pointer (some ⟨B,0,none⟩)] w fun e w'=>e= .returned (.bool (Op.bytesLess key.toList y.key.toList))∧Below w.heap.size w w':=by
 have lB:B<w.heap.size:=World.block_lt_of_cell? w ⟨B,0,none⟩ h
 have nB:B≠w.heap.size:=Nat.ne_of_lt lB
 go_enter Tryz.func163,Tryz.ntmps163
 go_wp2
 go_ret
 exact⟨rfl,one _ _⟩
theorem clo_tdrop1 (y:Pr)(key:ByteArray)(B:Nat)(w:World)(h:w.cell? ⟨B,0,none⟩=some (.string key)):
  Calls Tryz.prog 232 #[.agg #[.string y.key,.string y.val],.pointer (some ⟨B,0,none⟩)] w fun e w'=>e= .returned (.bool (sq y.key key))∧Below w.heap.size w w':=by
 have lB:B<w.heap.size:=World.block_lt_of_cell? w ⟨B,0,none⟩ h
 have nB:B≠w.heap.size:=Nat.ne_of_lt lB
 go_enter Tryz.func232,Tryz.ntmps232
 go_wp2
 go_ret
 exact⟨rfl,one _ _⟩
theorem table_at (s:Value)(l:List Pr)(key:ByteArray)(w:World)(h:Rs tyPr 123 w s l)(hl:l.length≤100000):Calls Tryz.prog 161 #[s,.string key] w fun e w'=>e= .returned (.int .i64 (idx (fun y:Pr=>sq y.key key) l 0))∧Below w.heap.size w w':=by
 have HR:=h_ h
 clear h
 go_enter Tryz.func161,Tryz.ntmps161
 go_wp2_with fail
 refine(index_table_at1 s l (fun y:Pr=>sq y.key key) w.heap.size _ (Rs.below HR.out (one _ _)) hl (fun x W _ hb=>clo_tat1 x key _ W (pw_cell_below hb (cell_new' _ _ _ _ _ _ rfl rfl)))).mono ?_
 rintro e w1 ⟨rfl,hb⟩
 have HB:=h_ (below_call (below_alloc (Below.refl w.heap.size w) _) hb)
 clear hb
 go_wp2
 go_ret
 exact⟨rfl,HB.out⟩
theorem table_put (s:Value)(l:List Pr)(key val:ByteArray)(w:World)(h:Rs tyPr 123 w s l)(hl:l.length≤1000)(h1:∀y∈l,sq y.key key=false)(h2:∀y∈l,Op.bytesLess key.toList y.key.toList=false):
  Calls Tryz.prog 111 #[s,.string key,.string val] w (RsV tyPr 123 (l++ [⟨key,val⟩]) w):=by
 have HX1:=h_ (idx_none (fun y:Pr=>sq y.key key) l 0 h1)
 have HX2:=h_ (idx_none (fun y:Pr=>Op.bytesLess key.toList y.key.toList) l 0 h2)
 have HL:=h_ hl
 clear h1 h2
 have HB:Hid (Below w.heap.size w w):=h_ (Below.refl _ _)
 have HR:=h_ h
 clear h
 go_enter Tryz.func111,Tryz.ntmps111
 go_upto_region 2 with(fail)
 refine nm fun w1 hb=>?_
 obtain⟨hz,_,hb,KK,KP⟩:=na2 hb
 obtain⟨hz,HB⟩:=m1 hb HB
 go_wp2_with fail
 refine(clone_Pr _ l _ (Rs.below HR.out HB.out) (by have:=HL.out;omega)).mono ?_
 rintro e w2 ⟨v2,rfl,hown,hb⟩
 have HOWN:=h_ hown
 have HZB:=h_ hb
 clear hown
 have ZK:=KK
 have ZP:=KP
 have ZHB:=HB
 obtain⟨hz,KK,KP,HB⟩:=m3 hb KK KP HB
 obtain⟨K0,Kf0⟩:=cells1 KK.out
 obtain⟨P0,Pf0,P1,Pf1⟩:=cells2 KP.out
 have HR2:=h_ (Rs.of_own (T:=tyPr) HOWN.out)
 go_wp2_with fail
 refine(table_at v2 l key _ HR2.out (by have:=HL.out;omega)).mono ?_
 rintro e w3 ⟨rfl,hb⟩
 rw[HX1.out]
 clear K0 Kf0 P0 Pf0 P1 Pf1
 obtain⟨hz,KK,KP,HR2,HOWN,HZB,HB⟩:=m6 hb KK KP HR2 HOWN HZB HB
 obtain⟨K0,Kf0⟩:=cells1 KK.out
 obtain⟨P0,Pf0,P1,Pf1⟩:=cells2 KP.out
 go_wp2_with fail
 refine(index_table_Put1 v2 l (fun y:Pr=>Op.bytesLess key.toList y.key.toList) w.heap.size _ HR2.out (by have:=HL.out;omega) (fun x W _ hb=>clo_tput1 x key _ W (pw_cell_below hb (bq KK.out 0)))).mono ?_
 rintro e w4 ⟨rfl,hb⟩
 rw[HX2.out]
 clear K0 Kf0 P0 Pf0 P1 Pf1
 obtain⟨hz,KK,KP,HR2,HOWN,HZB,HB⟩:=m6 hb KK KP HR2 HOWN HZB HB
 obtain⟨K0,Kf0⟩:=cells1 KK.out
 obtain⟨P0,Pf0,P1,Pf1⟩:=cells2 KP.out
 clear HR2
 go_wp2_with (at_builtin;refine print_append_cells (w0:=w1) w1.heap.size rfl _ _ 31 123 _ 2 32 rfl Tryz.underlying31 infoPr rfl (by decide) (by decide) v2 (l).length (tyPr.all l) (tyPr.enc (⟨key,val⟩:Pr)) rfl rfl rfl (tyPr.one _) HOWN.out HZB.out HZB.out.size ?_ ?_)
 ·have:=HL.out;omega
 intro v_ w5 hown hb _ _
 have hown2:w5.ownsRow w1.heap.size 123 tyPr.sz v_ (l++ [(⟨key,val⟩:Pr)]).length (tyPr.all (l++ [(⟨key,val⟩:Pr)])):=by rw[List.length_append,List.length_singleton,Ty.all_app,Ty.all_single];exact hown
 obtain⟨g,cap,cur,rfl,_,_,_,_,_⟩:=own_form hown2 (by simp)
 have HR5:=h_ (Rs.of_own (T:=tyPr) (l:=l++ [(⟨key,val⟩:Pr)]) hown2)
 clear hown hown2 HOWN HZB
 clear K0 Kf0 P0 Pf0 P1 Pf1
 clear KK KP HB
 have KK:=ZK
 clear ZK
 have KP:=ZP
 clear ZP
 have HB:=ZHB
 clear ZHB
 obtain⟨hz,KK,KP,HB⟩:=m3 hb KK KP HB
 obtain⟨K0,Kf0⟩:=cells1 KK.out
 obtain⟨P0,Pf0,P1,Pf1⟩:=cells2 KP.out
 go_wp2
 go_ret
 exact⟨_,rfl,HR5.out,HB.out⟩
theorem index_table_Drop1 (v:Value)(l:List Pr)(p:Pr→Bool)(B0:Nat)(w:World)(h:Rs tyPr 123 w v l)(hl:l.length≤100000)
  (hC:∀x W,x∈l→Below w.heap.size w W→Calls Tryz.prog 232 #[.agg #[.string x.key,.string x.val],.pointer (some ⟨B0,0,none⟩)] W fun e w'=>e= .returned (.bool (p x))∧Below W.heap.size W w'):
  Calls Tryz.prog 162 #[v,.func (.func 232) #[] #[.pointer (some ⟨B0,0,none⟩)]] w fun e w'=>e= .returned (.int .i64 (idx p l 0))∧Below w.heap.size w w':=by
 obtain⟨A,c,rfl,hc,-⟩:=at_Pr h
 have HR:=h_ h
 have HL:=h_ hl
 have HC:=h_ hC
 have b0':Aside0 (Below w.heap.size w w):=⟨Below.refl _ _⟩
 have HF:Hid (∀(z:Int) (w':World),idx p l 0=z→Below w.heap.size w w'→(Ending.returned (.int .i64 z)=Ending.returned (.int .i64 (idx p l 0))∧Below w.heap.size w w')):=h_ fun z w' h1 h2=>⟨by rw[h1],h2⟩
 clear h hl hC
 go_enter Tryz.func162,Tryz.ntmps162
 go_wp2
 go_loopg [8] l.length (fun kq v8 w'=>∃i:Nat,v8= .int .i64 i∧Aside0 (kq+i=l.length)∧Aside0 (idx p l 0=idx p (l.drop i) i)∧Aside0 (Below w.heap.size w w'))
 case atStart=>exact⟨0,rfl,⟨by omega⟩,⟨rfl⟩,b0'⟩
 case round=>
  obtain⟨i,rfl,HK,HN,HW⟩:=hrel
  clear b0'
  by_cases hi:i<l.length
  ·have c0b:decide ((i:Int)<(l.length:Int))=true:=decide_eq_true (by omega)
   obtain⟨A',c',e1,_,hat⟩:=at_Pr (HR.out.below HW.out)
   cases e1
   obtain⟨ad,e2,hx0,hx1⟩:=hat i hi
   subst e2
   clear hat
   have hp:((0:Int)≤(i:Int))=True:=eq_true (by omega)
   have hq:((i:Int)<(l.length:Int))=True:=eq_true (by omega)
   have hi40:(i:Int)≤100000:=by have:=HL.out;omega
   have HY:=h_ (HC.out l[i] wr (List.getElem_mem hi) HW.out)
   cases hlg:p l[i] with
   |true=>
    have HZ:=h_ (HN.out.trans (idx_hit p l i hi hlg))
    rw[hlg] at HY
    clear hlg
    generalize l[i]=x at hx0 hx1 HY
    go_wp2_with (go_at_call 232;refine HY.out.mono ?_;rintro e w3 ⟨rfl,b3⟩)
    have HB3:=h_ b3
    clear b3
    go_wp2
    go_ret
    exact HF.out _ _ HZ.out (HW.out.trans (HB3.out.mono HW.out.size))
   |false=>
    have HZ:Aside0 (idx p l 0=idx p (l.drop (i+1)) ((i+1:Nat):Int)):=⟨HN.out.trans (idx_next p l i hi hlg)⟩
    rw[hlg] at HY
    clear hlg
    generalize l[i]=x at hx0 hx1 HY
    go_wp2_with (go_at_call 232;refine HY.out.mono ?_;rintro e w3 ⟨rfl,b3⟩)
    have b3':Aside0 (Below w.heap.size w w3):=⟨HW.out.trans (b3.mono HW.out.size)⟩
    clear b3
    go_wp2
    go_roundg (gk - 1)
    case measure=>have:=HK.out;omega
    case rel=>exact⟨i+1,by go_num,⟨by have:=HK.out;omega⟩,HZ,b3'⟩
  ·have c0b:decide ((i:Int)<(l.length:Int))=false:=decide_eq_false (by omega)
   have HZ:Hid (idx p l 0= -1):=h_ (by rw[HN.out,List.drop_of_length_le (by omega)];rfl)
   go_wp2
   go_ret
   exact HF.out _ _ HZ.out HW.out
theorem delete_none_Pr (s:Value)(l:List Pr)(key:ByteArray)(B:Nat)(w:World)(h:Rs tyPr 123 w s l)(hl:l.length≤100000)(hB:w.cell? ⟨B,0,none⟩=some (.string key))(h1:∀y∈l,sq y.key key=false):
  Calls Tryz.prog 231 #[s,.func (.func 232) #[] #[.pointer (some ⟨B,0,none⟩)]] w fun e w'=>e= .returned s∧Below w.heap.size w w':=by
 have HX:=h_ (idx_none (fun y:Pr=>sq y.key key) l 0 h1)
 have HI:=h_ (index_table_Drop1 s l (fun y:Pr=>sq y.key key) B w h hl (fun x W _ hb=>clo_tdrop1 x key _ W (pw_cell_below hb hB)))
 clear h hB h1
 go_enter Tryz.func231,Tryz.ntmps231
 go_wp2_with fail
 refine HI.out.mono ?_
 rintro e w1 ⟨rfl,hb⟩
 rw[HX.out]
 go_wp2
 go_ret
 exact⟨rfl,hb⟩
theorem table_drop (s:Value)(l:List Pr)(key:ByteArray)(w:World)(h:Rs tyPr 123 w s l)(hl:l.length≤1000)(h1:∀y∈l,sq y.key key=false):
  Calls Tryz.prog 195 #[s,.string key] w (RsV tyPr 123 l w):=by
 have H1:=h_ h1
 have HL:=h_ hl
 clear h1
 have HB:Hid (Below w.heap.size w w):=h_ (Below.refl _ _)
 have HR:=h_ h
 clear h
 go_enter Tryz.func195,Tryz.ntmps195
 go_upto_region 1 with(fail)
 refine nm fun w1 hb=>?_
 obtain⟨hz,_,hb,KK⟩:=na1 hb
 obtain⟨hz,HB⟩:=m1 hb HB
 go_wp2_with fail
 refine(clone_Pr _ l _ (Rs.below HR.out HB.out) (by have:=HL.out;omega)).mono ?_
 rintro e w2 ⟨v2,rfl,hown,hb⟩
 have HR2:=h_ (Rs.of_own (T:=tyPr) hown)
 clear hown
 obtain⟨hz,KK,HB⟩:=m2 hb KK HB
 obtain⟨K0,Kf0⟩:=cells1 KK.out
 go_wp2_with fail
 refine(delete_none_Pr v2 l key w.heap.size _ HR2.out (by have:=HL.out;omega) (bq KK.out 0) H1.out).mono ?_
 rintro e w3 ⟨rfl,hb⟩
 have HR3:=h_ (Rs.below HR2.out hb)
 clear K0 Kf0
 obtain⟨hz,KK,HB⟩:=m2 hb KK HB
 go_wp2
 go_ret
 exact⟨_,rfl,HR3.out,HB.out⟩
theorem tw_put (s:Value)(l:List Pr)(x:Wr)(w:World)(h:Rs tyPr 123 w s l)(hl:l.length≤1000)(h1:∀y∈l,sq y.key x.key=false)(h2:∀y∈l,Op.bytesLess x.key.toList y.key.toList=false):
  Calls Tryz.prog 159 #[.agg #[.string x.key,.string x.val,.bool x.del],s] w (RsV tyPr 123 (l++ [⟨x.key,x.val⟩]) w):=by
 have HR:=h_ h
 have H1:=h_ h1
 have H2:=h_ h2
 clear h2
 clear h h1
 go_enter Tryz.func159,Tryz.ntmps159
 go_wp2_with fail
 refine(table_put s l x.key x.val _ (Rs.below HR.out (one _ _)) hl H1.out H2.out).mono ?_
 rintro e w1 ⟨v,rfl,hR,hb⟩
 have HR1:=h_ hR
 have HB:=h_ (below_call (below_alloc (Below.refl w.heap.size w) _) hb)
 clear hR hb
 go_wp2
 go_ret
 exact⟨_,rfl,HR1.out,HB.out⟩
theorem tw_drop (s:Value)(l:List Pr)(x:Wr)(w:World)(h:Rs tyPr 123 w s l)(hl:l.length≤1000)(h1:∀y∈l,sq y.key x.key=false):
  Calls Tryz.prog 160 #[.agg #[.string x.key,.string x.val,.bool x.del],s] w (RsV tyPr 123 l w):=by
 have HR:=h_ h
 have H1:=h_ h1
 clear h h1
 go_enter Tryz.func160,Tryz.ntmps160
 go_wp2_with fail
 refine(table_drop s l x.key _ (Rs.below HR.out (one _ _)) hl H1.out).mono ?_
 rintro e w1 ⟨v,rfl,hR,hb⟩
 have HR1:=h_ hR
 have HB:=h_ (below_call (below_alloc (Below.refl w.heap.size w) _) hb)
 clear hR hb
 go_wp2
 go_ret
 exact⟨_,rfl,HR1.out,HB.out⟩
end Go.Proofs.YtmgmdiekpmffbaaGreatDoor.Top
namespace Go.Proofs.YtmgmdiekpmffbaaGreatDoor.Top
open Go Go.RowKit Go.Proofs.YtmgmdiekpmffbaaGreatDoorW.PrintWords
section
variable {P:Program}
theorem run_append_make (w:World)(t ti ty e:TypeId)(i:TypeInfo)(z:Value)(ht:P.underlying t=some (.slice e)){k:IntKind}(hti:P.underlying ti=some (.int k))(hi:P.info? e=some i)(hz:i.zero=some z)(hzs:z.cells.size=i.size)(hsz:0<i.size)(hb0:0<i.bytes)
  (A:Addr) (n cap m:Nat) (xs:List Value) (hl:xs.length=n*i.size) (hxs:∀j v,xs[j]? =some v→w.cell? (A.add j)=some v) (hcap:cap<n+m) (hm:0<m) (hbytes:(n+m)*i.bytes≤140737488355328):
  (Builtin.append_ #[t,ti] ty #[.slice (some A) n cap,.int .i64 m]).run P w =
   .ok (.slice (some ⟨w.heap.size,0,none⟩) (n+m) (grownCap w (n+m) cap e)) (w.drew.alloc (.cells (xs.toArray++Builtin.zeroCells z.cells m++Builtin.zeroCells z.cells (grownCap w (n+m) cap e - (n+m))) e)):=by
 have hle:n+m≤140737488355328:=Nat.le_trans (Nat.le_mul_of_pos_right _ hb0) hbytes
 have hw:IntKind.i64.wrap (m:Int)=m:=by rw[IntKind.wrap_i64];omega
 have hneg:¬((m:Int)<0):=by omega
 have hmb:m*i.bytes≤140737488355328:=Nat.le_trans (Nat.mul_le_mul_right _ (Nat.le_add_left m n)) hbytes
 have hbig:¬(281474976710656<(m:Int)*(i.bytes:Int)):=by
  rw[←Int.natCast_mul]
  omega
 have hmz:¬(m*i.size=0):=Nat.mul_ne_zero (by omega) (by omega)
 obtain⟨news,hnews⟩:∃news,news=(Builtin.zeroCells z.cells m).toList:=⟨_,rfl⟩
 have hna:Builtin.zeroCells z.cells m=news.toArray:=by rw[hnews]
 have hn:¬(n+m≤cap):=by omega
 have h63':¬(9223372036854775807<((n:Int)+(m:Int))):=by omega
 have hfit:=growslice_fits hcap hbytes
 have h48':¬(281474976710656<Builtin.nextslicecap (n+m) cap*i.bytes):=by omega
 have hfo:=run_firstCells_some (P:=P) w.drew i.size n A n cap xs hl (by simpa using hxs)
 rw[hna]
 simp[Builtin.append_,run_underlying ht,run_underlying hti,sizeOf,typeInfo,zeroValue,hi,hz,asInt,asIntOf,hw,hneg,hbig,hn,h63',h48',Question.forced,hfo,newRow,grownCap,hmz,hna]
 congr 2
 apply Array.ext'
 simp[List.append_assoc]
theorem run_copy_sz (w:World)(dT sT ty elem:TypeId)(size g o dLen dCap:Nat)(a:Addr)(sLen sCap:Nat)(cur:Array Value)(t:TypeId)(cs:List Value)
  (hu:P.underlying dT=some (.slice elem)) (hs:(P.info? elem).map (·.size)=some size)
  (hg:w.heap[g]? =some (.cells cur t (0,0))) (hn:cs.length=Nat.min sLen dLen*size)
  (hsrc:∀j v,cs[j]? =some v→w.cell? (a.add j)=some v) (hfit:o+cs.length≤cur.size) (h1:∀v∈cs,v.oneCell'=true):
  (Builtin.copy_ #[dT,sT] ty #[.slice (some ⟨g,o,none⟩) dLen dCap,.slice (some a) sLen sCap]).run P w =
   .ok (goInt (Nat.min sLen dLen)) (putAt w g o cs):=by
 have hl:=run_loadCells_list (P:=P) w a cs hsrc
 have hst:=run_storeCells_cells (P:=P) g o cs 0 w (fun j hj=>by rw[cell_of_row w g _ cur t (0,0) hg];simp;omega) (fun j _=>bz hg _) h1
 simp only[Nat.add_zero] at hst
 rw[put_cells] at hst
 cases hq:P.info? elem with
 |none=>simp [hq] at hs
 |some i=>
  have hi:i.size=size:=by simpa [hq] using hs
  simp[Builtin.copy_,run_underlying hu,Builtin.lenOf,Builtin.firstCells,sizeOf,typeInfo,hq,hi,←hn,hl,hst]
theorem run_slice_from (w:World)(t e:TypeId)(size:Nat)(ht:P.underlying t=some (.slice e))(hs:(P.info? e).map (·.size)=some size)(a:Option Addr)(n cap l:Nat)(hl:l≤n):
  (Instr.slice t (.slice a n cap) (some (.int .i64 l)) none none).run P w= .ok (.slice (if cap=l then a else a.map (·.add (l*size))) (n - l) (cap - l)) w:=by
 cases hq:P.info? e with
 |none=>simp [hq] at hs
 |some i=>
  have hi:i.size=size:=by simpa [hq] using hs
  have hl':(0:Int)≤(l:Int)∧(l:Int)≤(n:Int):=⟨by omega,by omega⟩
  simp[Instr.slice,Instr.sliceBounds,Instr.sliceBound,asIntOf,run_underlying ht,sizeOf,typeInfo,hq,hi,hl]
theorem run_slice_to (w:World)(t e:TypeId)(size:Nat)(ht:P.underlying t=some (.slice e))(hs:(P.info? e).map (·.size)=some size)(b o n cap h:Nat)(hh:h≤cap):
  (Instr.slice t (.slice (some ⟨b,o,none⟩) n cap) none (some (.int .i64 h)) none).run P w= .ok (.slice (some ⟨b,o,none⟩) h cap) w:=by
 cases hq:P.info? e with
 |none=>simp [hq] at hs
 |some i=>
  have hi:i.size=size:=by simpa [hq] using hs
  simp[Instr.slice,Instr.sliceBounds,Instr.sliceBound,asIntOf,run_underlying ht,sizeOf,typeInfo,hq,hi,hh,Addr.add]
theorem run_slice_full (w:World)(t e:TypeId)(size:Nat)(ht:P.underlying t=some (.slice e))(hs:(P.info? e).map (·.size)=some size)(a:Option Addr)(n cap:Nat)(ha:∀ad,a=some ad→∃b o,ad=⟨b,o,none⟩)(hn:n≤cap):
  (Instr.slice t (.slice a n cap) none (some (.int .i64 n)) (some (.int .i64 n))).run P w= .ok (.slice a n n) w:=by
 cases hq:P.info? e with
 |none=>simp [hq] at hs
 |some i=>
  have hi:i.size=size:=by simpa [hq] using hs
  have ha':a.map (·.add 0)=a:=by
   cases a with
   |none=>rfl
   |some ad=>obtain⟨b,o,rfl⟩:=ha ad rfl;simp[Addr.add]
  simp[Instr.slice,Instr.sliceBounds,Instr.sliceBound,asIntOf,run_underlying ht,sizeOf,typeInfo,hq,hi,hn]
  intro _
  simpa using ha'
variable {ops:Array Oper} {rest:List Oper} {o:Oper} {a:Act} {w:World} {K:Act→World→Prop} {Q:Exit→Act→World→Prop} {E:Prop}
theorem wpList_append_run (hgd:o.guard=none)(s x:Operand)(t ti:TypeId)(ho:o.op= .call { callee:= .builtin .append,args:=#[s,x],argTypes:=#[t,ti] })(vs vx:Value)(hs:a.eval s=vs)(hx:a.eval x=vx)(v:Value)(w':World)
  (hrun:(Builtin.append_ #[t,ti] o.type #[vs,vx]).run P w= .ok v w') (h:wpList P ops Q rest (a.put o.dst v) w'):wpList P ops Q (o :: rest) a w:=by
 refine wpList_plain hgd fun K hK=>?_
 unfold Oper.wp
 simp[execOp,ho,resolve,invoke,builtin,hs,hx,hrun,Result.andThen]
 exact hK _ _ h
theorem wpList_copy_run (hgd:o.guard=none)(s x:Operand)(t ti:TypeId)(ho:o.op= .call { callee:= .builtin .copy,args:=#[s,x],argTypes:=#[t,ti] })(vs vx:Value)(hs:a.eval s=vs)(hx:a.eval x=vx)(v:Value)(w':World)
  (hrun:(Builtin.copy_ #[t,ti] o.type #[vs,vx]).run P w= .ok v w') (h:wpList P ops Q rest (a.put o.dst v) w'):wpList P ops Q (o :: rest) a w:=by
 refine wpList_plain hgd fun K hK=>?_
 unfold Oper.wp
 simp[execOp,ho,resolve,invoke,builtin,hs,hx,hrun,Result.andThen]
 exact hK _ _ h
theorem step_copy_run (hgd:o.guard=none)(s x:Operand)(t ti:TypeId)(ho:o.op= .call { callee:= .builtin .copy,args:=#[s,x],argTypes:=#[t,ti] })(vs vx:Value)(hs:a.eval s=vs)(hx:a.eval x=vx)(v:Value)(w':World)
  (hrun:(Builtin.copy_ #[t,ti] o.type #[vs,vx]).run P w= .ok v w') (h:K (a.put o.dst v) w'):if Region.wanted o (yielded ops a.tmps)=true then Oper.wp P o a w K Q else E:=by
 rw[if_pos (by simp[Region.wanted,hgd])]
 unfold Oper.wp
 simp[execOp,ho,resolve,invoke,builtin,hs,hx,hrun,Result.andThen]
 exact h
end
structure Made (e:TypeId)(sz:Nat)(xs:List Value)(need:Nat)(w:World)(cap:Nat)(cur:Array Value)(w':World):Prop where
 below:Below w.heap.size w w'
 blk:w'.heap[w.heap.size]? =some (.cells cur e (0,0))
 cap_:need≤cap
 size:cur.size=cap*sz
 cells:∀(j:Nat) (u:Value),xs[j]? =some u→cur[j]? =some u
theorem made_of (w:World)(e:TypeId)(z:Value)(sz n m old:Nat)(xs:List Value)(hz:z.cells.size=sz)(hl:xs.length=n*sz):
  Made e sz xs (n+m) w (grownCap w (n+m) old e) (xs.toArray++Builtin.zeroCells z.cells m++Builtin.zeroCells z.cells (grownCap w (n+m) old e - (n+m))) (w.drew.alloc (.cells (xs.toArray++Builtin.zeroCells z.cells m++Builtin.zeroCells z.cells (grownCap w (n+m) old e - (n+m))) e)):=by
 have hge:=grownCap_ge w (n+m) old e
 refine⟨(drew_below w).trans (one w.drew _),heap_alloc_new w.drew _,hge,?_,fun j u hj=>?_⟩
 ·simp only[Array.size_append,List.size_toArray,size_zeroCells,hz,hl,←Nat.add_mul]
  congr 1
  omega
 ·have hj':=(List.getElem?_eq_some_iff.1 hj).1
  rw[Array.append_assoc,Array.getElem?_append_left (by simpa using hj')]
  simpa using hj
end Go.Proofs.YtmgmdiekpmffbaaGreatDoor.Top
namespace Go.Proofs.YtmgmdiekpmffbaaGreatDoor.Top
open Go Go.RowKit Go.Proofs.YtmgmdiekpmffbaaGreatDoorW.PrintWords
theorem Ty.all_split {α:Type}(T:Ty α)(l:List α)(i:Nat)(h:i≤l.length):T.all (l.take i)=(T.all l).take (i*T.sz)∧T.all (l.drop i)=(T.all l).drop (i*T.sz):=by
 have e:T.all l=T.all (l.take i)++T.all (l.drop i):=by rw[←T.all_app,List.take_append_drop]
 have hl:(T.all (l.take i)).length=i*T.sz:=by rw[T.all_len,List.length_take,Nat.min_eq_left h]
 constructor
 ·rw [e,←hl,List.take_left']
  rfl
 ·rw [e,←hl,List.drop_left']
  rfl
theorem ins_row {α:Type}(T:Ty α)(l:List α)(i:Nat)(x:α)(hi:i≤l.length)(c0 c1 c2:Array Value)(h0:∀(j:Nat) (u:Value),(T.all (l.take i))[j]? =some u→c0[j]? =some u)
  (h1:∀j,c1[j]? =if i*T.sz≤j∧j<i*T.sz+(T.enc x).length then(T.enc x)[j - i*T.sz]? else c0[j]?)
  (h2:∀j,c2[j]? =if i*T.sz+T.sz≤j∧j<i*T.sz+T.sz+(T.all (l.drop i)).length then(T.all (l.drop i))[j - (i*T.sz+T.sz)]? else c1[j]?):
  ∀(j:Nat) (u:Value),(T.all (l.take i++x :: l.drop i))[j]? =some u→c2[j]? =some u:=by
 intro j u hj
 have hl:(T.all (l.take i)).length=i*T.sz:=by rw[T.all_len,List.length_take,Nat.min_eq_left hi]
 have hx:=T.len x
 rw[T.all_app,T.all_cons] at hj
 by_cases a:j<i*T.sz
 ·rw [List.getElem?_append_left (by omega)] at hj
  rw[h2 j,if_neg (by omega),h1 j,if_neg (by omega)]
  exact h0 j u hj
 ·rw [List.getElem?_append_right (by omega),hl] at hj
  by_cases b:j<i*T.sz+T.sz
  ·rw [List.getElem?_append_left (by omega)] at hj
   rw[h2 j,if_neg (by omega),h1 j,if_pos (by omega)]
   exact hj
  ·rw [List.getElem?_append_right (by omega),hx] at hj
   have hk:j - i*T.sz - T.sz<(T.all (l.drop i)).length:=(List.getElem?_eq_some_iff.1 hj).1
   rw[h2 j,if_pos (by omega),show j - (i*T.sz+T.sz)=j - i*T.sz - T.sz by omega]
   exact hj
theorem insert_wr (b i B:Nat)(l:List Wr)(x:Wr)(w:World)(h:Rs tyWr 212 w (.slice (some ⟨b,0,none⟩) l.length l.length) l)(hi:i<l.length)(hl:l.length≤1000)(hx:w.heap[B]? =some (.cells #[.string x.key,.string x.val,.bool x.del] 212 (0,0))):
  Calls Tryz.prog 252 #[.slice (some ⟨b,0,none⟩) l.length l.length,.int .i64 i,.slice (some ⟨B,0,none⟩) 1 1] w (RsV tyWr 212 (l.take i++x :: l.drop i) w):=by
 obtain⟨i0,hInf,hz0,hz1,hz2⟩:=info_parts infoWr
 have hsz:(Tryz.prog.info? 212).map (·.size)=some 3:=by rw[hInf];simp[hz1]
 have hs1:∀u:World,(Instr.slice 139 (.slice (some ⟨b,0,none⟩) l.length l.length) (some (.int .i64 i)) none none).run Tryz.prog u= .ok (.slice (some ⟨b,i*3,none⟩) (l.length - i) (l.length - i)) u:=fun u=>by
  rw[run_slice_from u _ _ 3 Tryz.underlying139 hsz _ _ _ i (by omega),if_neg (by omega),Option.map_some,add0]
 have hs2:∀u:World,(Instr.slice 139 (.slice (some ⟨b,0,none⟩) l.length l.length) none (some (.int .i64 i)) none).run Tryz.prog u= .ok (.slice (some ⟨b,0,none⟩) i l.length) u:=fun u=>run_slice_to u _ _ 3 Tryz.underlying139 hsz b 0 _ _ i (by omega)
 have hs3:∀(u:World) (g cap:Nat),l.length+1≤cap→(Instr.slice 139 (.slice (some ⟨g,0,none⟩) (l.length+1) cap) (some (.int .i64 i)) none none).run Tryz.prog u= .ok (.slice (some ⟨g,i*3,none⟩) (l.length+1 - i) (cap - i)) u:=fun u g cap hc=>by
  rw[run_slice_from u _ _ 3 Tryz.underlying139 hsz _ _ _ i (by omega),if_neg (by omega),Option.map_some,add0]
 have hs4:∀(u:World) (g cap:Nat),l.length+1≤cap→(Instr.slice 139 (.slice (some ⟨g,0,none⟩) (l.length+1) cap) (some (.int .i64 ((i:Int)+1))) none none).run Tryz.prog u= .ok (.slice (some ⟨g,(i+1)*3,none⟩) (l.length - i) (cap - (i+1))) u:=fun u g cap hc=>by
  have e:=run_slice_from u _ _ 3 Tryz.underlying139 hsz (some ⟨g,0,none⟩) (l.length+1) cap (i+1) (by omega)
  rw[if_neg (by omega),Option.map_some,add0,show l.length+1 - (i+1)=l.length - i by omega] at e
  exact e
 have hw1:IntKind.i64.wrap ((l.length:Int)+1)=((l.length+1:Nat):Int):=by rw[IntKind.wrap_i64];omega
 have hw2:IntKind.i64.wrap (((l.length+1:Nat):Int) - (i:Int))=((l.length+1 - i:Nat):Int):=by rw[IntKind.wrap_i64];omega
 have hw3:IntKind.i64.wrap ((i:Int)+1)=(i:Int)+1:=by rw[IntKind.wrap_i64];omega
 have c1:((i:Int)==(l.length:Int))=false:=by simp;omega
 obtain⟨hT,hDr⟩:=tyWr.all_split l i (by omega)
 have hTl:(tyWr.all (l.take i)).length=i*3:=by rw[tyWr.all_len,List.length_take,Nat.min_eq_left (by omega)];rfl
 have hDl:(tyWr.all (l.drop i)).length=(l.length - i)*3:=by rw[tyWr.all_len,List.length_drop];rfl
 obtain⟨b',c',hv',_,hbw,hcell⟩:=h.cells (by omega)
 cases hv'
 have hxs:∀j v,(tyWr.all (l.take i))[j]? =some v→w.cell? ((⟨b,0,none⟩:Addr).add j)=some v:=fun j v hj=>by
  rw[add0]
  refine hcell j v ?_
  rw[hT,List.getElem?_take] at hj
  split at hj
  ·exact hj
  ·cases hj
 have hap:=run_append_make (P:=Tryz.prog) w 139 3 139 212 i0 _ Tryz.underlying139 Tryz.underlying3 hInf hz0 (by rw[hz1];rfl) (by rw[hz1];decide) (by rw[hz2];decide) ⟨b,0,none⟩ i l.length (l.length+1 - i) (tyWr.all (l.take i)) (by rw[hTl,hz1]) hxs (by omega) (by omega) (by rw[hz2];omega)
 have hM:=made_of w 212 (.agg #[.string ByteArray.empty,.string ByteArray.empty,.bool false]) 3 i (l.length+1 - i) l.length (tyWr.all (l.take i)) rfl hTl
 rw[show i+(l.length+1 - i)=l.length+1 by omega] at hap hM
 generalize grownCap w (l.length+1) l.length 212=cap at hap hM
 generalize hcur:(tyWr.all (l.take i)).toArray++Builtin.zeroCells (Value.agg #[.string ByteArray.empty,.string ByteArray.empty,.bool false]).cells (l.length+1 - i)++Builtin.zeroCells (Value.agg #[.string ByteArray.empty,.string ByteArray.empty,.bool false]).cells (cap - (l.length+1))=cur at hap hM
 generalize hW1:w.drew.alloc (.cells cur 212)=w1 at hap hM
 clear hcur hW1
 have hcap:=hM.cap_
 have hcs:cur.size=cap*3:=hM.size
 have hbx:w1.heap[B]? =some (.cells #[.string x.key,.string x.val,.bool x.del] 212 (0,0)):=bb hx hM.below
 have hBne:B≠w.heap.size:=Nat.ne_of_lt (blk_lt hx)
 have hc1:=run_copy_sz (P:=Tryz.prog) w1 139 139 3 212 3 w.heap.size (i*3) (l.length+1 - i) (cap - i) ⟨B,0,none⟩ 1 1 cur 212 (tyWr.enc x) Tryz.underlying139 hsz hM.blk (by show 3=min 1 (l.length+1 - i)*3;rw[Nat.min_eq_left (by omega)]) (fun j v hj=>by rw[add0,bq hbx];simpa [tyWr] using hj) (by show i*3+3≤_;rw[hcs];omega) (tyWr.one x)
 obtain⟨c1',k1,s1,g1⟩:=putAt_blk w.heap.size 212 (tyWr.enc x) w1 (i*3) cur hM.blk (by show i*3+3≤_;rw[hcs];omega)
 have hO1:=putAt_only w.heap.size (tyWr.enc x) w1 (i*3)
 generalize putAt w1 w.heap.size (i*3) (tyWr.enc x)=w2 at hc1 k1 hO1
 have hbel2:Below w.heap.size w w2:=Below.later hM.below hO1 (Nat.le_refl _) hM.below.size
 have hsrc2:∀u:World,Below w.heap.size w u→∀j v,(tyWr.all (l.drop i))[j]? =some v→u.cell? ((⟨b,i*3,none⟩:Addr).add j)=some v:=fun u hu j v hj=>by
  rw[show(⟨b,i*3,none⟩:Addr).add j=⟨b,i*3+j,none⟩by unfold Addr.add;split <;> simp_all,hu.cell (p:=⟨b,i*3+j,none⟩) hbw]
  refine hcell _ v ?_
  rw[hDr,List.getElem?_drop] at hj
  exact hj
 have hc2:∀u:World,u.heap[w.heap.size]? =some (.cells c1' 212 (0,0))→Below w.heap.size w u→(Builtin.copy_ #[139,139] 3 #[.slice (some ⟨w.heap.size,(i+1)*3,none⟩) (l.length - i) (cap - (i+1)),.slice (some ⟨b,i*3,none⟩) (l.length - i) (l.length - i)]).run Tryz.prog u= .ok (goInt (Nat.min (l.length - i) (l.length - i))) (putAt u w.heap.size ((i+1)*3) (tyWr.all (l.drop i))):=fun u hu hbu=>
  run_copy_sz u _ _ _ 212 3 _ _ _ _ _ _ _ c1' 212 (tyWr.all (l.drop i)) Tryz.underlying139 hsz hu (by show _=min _ _*3;rw[Nat.min_self];exact hDl) (hsrc2 u hbu) (by rw[hDl,s1,hcs];omega) (tyWr.all_one _)
 have hfin:∀u:World,u.heap[w.heap.size]? =some (.cells c1' 212 (0,0))→Below w.heap.size w u→RsV tyWr 212 (l.take i++x :: l.drop i) w (.returned (.slice (some ⟨w.heap.size,0,none⟩) (l.length+1) cap)) (putAt u w.heap.size ((i+1)*3) (tyWr.all (l.drop i))):=fun u hu hbu=>by
  obtain⟨c2',k2,s2,g2⟩:=putAt_blk w.heap.size 212 (tyWr.all (l.drop i)) u ((i+1)*3) c1' hu (by rw[hDl,s1,hcs];omega)
  have hll:(l.take i++x :: l.drop i).length=l.length+1:=by rw[List.length_append,List.length_take,List.length_cons,List.length_drop];omega
  refine⟨_,rfl,.inr ⟨w.heap.size,cap,c2',(0,0),by rw[hll],by rw[hll];exact hcap,k2,ins_row tyWr l i x (by omega) cur c1' c2' hM.cells g1 (fun j=>?_)⟩,Below.later hbu (putAt_only _ _ _ _) (Nat.le_refl _) hbu.size⟩
  rw[g2 j]
  show(if(i+1)*3≤j∧_ then _ else _)=if i*3+3≤j∧_ then _ else _
  rw[show(i+1)*3=i*3+3 by omega]
  rfl
 have HF:=h_ hfin
 have HC2:=h_ hc2
 have HC1:=h_ hc1
 have HAP:=h_ hap
 have hS3:∀u:World,(Instr.slice 139 (.slice (some ⟨w.heap.size,0,none⟩) (l.length+1) cap) (some (.int .i64 i)) none none).run Tryz.prog u= .ok (.slice (some ⟨w.heap.size,i*3,none⟩) (l.length+1 - i) (cap - i)) u:=fun u=>hs3 u _ cap hcap
 have hS4:∀u:World,(Instr.slice 139 (.slice (some ⟨w.heap.size,0,none⟩) (l.length+1) cap) (some (.int .i64 ((i:Int)+1))) none none).run Tryz.prog u= .ok (.slice (some ⟨w.heap.size,(i+1)*3,none⟩) (l.length - i) (cap - (i+1))) u:=fun u=>hs4 u _ cap hcap
 have HB2:=h_ hbel2
 have HK1:=h_ k1
 clear hs3 hs4 hfin hc2 hc1 hap hsrc2 hbel2 hO1 k1 hxs hcell hT hDr hTl hDl hM hz0 hz1 hz2 hInf h hx hbx g1 s1 hcs hsz hbw
 go_enter Tryz.func252,Tryz.ntmps252
 go_wp2_with (first|(at_builtin;refine wpList_append_run rfl _ _ 139 3 rfl (.slice (some ⟨b,0,none⟩) i l.length) (.int .i64 ((l.length+1 - i:Nat):Int)) rfl (by show Value.int _ _=Value.int _ _;congr 1;omega) _ _ HAP.out ?_)|refine wpList_copy_run rfl _ _ 139 139 rfl (.slice (some ⟨w.heap.size,i*3,none⟩) (l.length+1 - i) (cap - i)) (.slice (some ⟨B,0,none⟩) 1 1) rfl rfl _ _ HC1.out ?_)
 have KG:=HK1
 have HB:=HB2
 clear HK1 HB2
 refine rl1 8 KG fun u1 hb=>?_
 obtain⟨hz,KG,HB⟩:=m2 hb KG HB
 refine l_ 0 (.inr KG.out) ?_
 refine l_ 1 (.inr KG.out) ?_
 refine l_ 2 (.inr KG.out) ?_
 refine l_ 3 (.inr KG.out) ?_
 refine l_ 4 (.inr KG.out) ?_
 refine l_ 5 (.inr KG.out) ?_
 refine l_ 6 (.inr KG.out) ?_
 refine l_ 7 (.inr KG.out) ?_
 refine ld 8 fun K hK=>?_
 refine step_copy_run rfl _ _ 139 139 rfl _ _ rfl rfl _ _ (HC2.out _ KG.out HB.out) ?_
 refine b_ hK (.inl (by kernel_rfl)) ?_
 refine dl ?_
 go_wp2
 go_ret
 exact HF.out _ KG.out HB.out
end Go.Proofs.YtmgmdiekpmffbaaGreatDoor.Top
