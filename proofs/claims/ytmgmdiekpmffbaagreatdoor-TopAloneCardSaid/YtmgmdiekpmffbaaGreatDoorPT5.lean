/- Part of the proof of the statement TopAlone, as a card; what is proved, and on which condition, stands at the head of YtmgmdiekpmffbaaGreatDoorPT20 (texts QWix13, FrameWalk, QWix2) -/
import Derived.RangeFuncWrites
import Derived.RangeFuncBox
import Derived.RangeFuncLeaves
import Derived.RangeFuncCalls
import Derived.Shelf.Abstract
import Derived.WalkKit
import Derived.OwnWalkIn
import Derived.TacticsInMore
import Derived.LoopNIn
import Derived.LoopIn
import Derived.Maps.AppendAt
import Derived.Lib.Hide
import Derived.Deep.QuietTactic
import Derived.BigQuiet
import Derived.Sort.QuietIn
import Derived.Laws.EntriesVeiled
import Derived.Test.YtmgmdiekpmffbaaGreatDoorPT1
import Derived.Test.YtmgmdiekpmffbaaGreatDoorPT3
import Derived.Test.YtmgmdiekpmffbaaGreatDoorPT4
set_option maxHeartbeats 64000000
set_option maxRecDepth 100000
set_option linter.unusedVariables false
set_option linter.unusedSimpArgs false
namespace Go.Proofs.YtmgmdiekpmffbaaGreatDoor.QWi
open Go.RowKit Go.Proofs.YtmgmdiekpmffbaaGreatDoorW.PrintWords Go.Proofs.YtmgmdiekpmffbaaGreatDoorW.PrintLast Go.Proofs.YtmgmdiekpmffbaaGreatDoorW.PrintMore
attribute [local go_sem] max2_int min2_int max_two min_two max_three min_three max_four min_four
set_option linter.unusedVariables false
set_option linter.unusedSimpArgs false
open Go
def emayP (o:Int)(key vl lo hi:ByteArray)(mo:Int):Prop:=
 (o=2∧(1≤key.size∧key.size≤32)∧vl.size≤64)∨((o=1∨o=3)∧1≤key.size∧key.size≤32)∨(o=4∧lo.size≤32∧hi.size≤32∧1≤mo∧mo≤16)∨o=5∨o=6
instance (o:Int)(key vl lo hi:ByteArray)(mo:Int):Decidable (emayP o key vl lo hi mo):=by
 unfold emayP
 infer_instance
theorem engine_may_c (o:Int)(key vl lo hi:ByteArray)(mo:Int)(w:World):Calls Tryz.prog 132 #[.agg #[.int .i64 o,.string key,.string vl,.string lo,.string hi,.int .i64 mo]] w fun e w'=>e= .returned (.bool (decide (emayP o key vl lo hi mo)))∧Below w.heap.size w w':=by
 go_enter Tryz.func132,Tryz.ntmps132
 go_wp2_with fail
 all_goals
  go_ret
  refine⟨?_,by first|exact q_one _ _|exact q_two _ _ _⟩
  show Ending.returned (Value.bool _)=_
  refine congrArg (fun b=>Ending.returned (Value.bool b)) ?_
  rw[Bool.eq_iff_iff,decide_eq_true_eq (p:=emayP _ _ _ _ _ _)]
  unfold emayP
  try simp only[bne_iff_ne,bne_eq_false_iff_eq,beq_eq_false_iff_ne,beq_iff_eq,ne_eq] at *
  try simp only[decide_eq_true_eq,Bool.or_eq_true,Bool.and_eq_true,Bool.not_eq_true',decide_eq_false_iff_not,Bool.false_eq_true,Bool.true_eq_false,beq_iff_eq,false_iff,true_iff]
  try first|omega|(simp;done)|(simp;omega)
def engine_may.f (_:Nat)(o:Int)(key vl lo hi:ByteArray)(mo:Int):Option Bool:=some (decide (emayP o key vl lo hi mo))
theorem engine_may.calls (k:Nat)(o:Int)(key vl lo hi:ByteArray)(mo:Int)(r:Bool)(w:World)(h:engine_may.f k o key vl lo hi mo=some r):Calls Tryz.prog 132 #[.agg #[.int .i64 o,.string key,.string vl,.string lo,.string hi,.int .i64 mo]] w fun e w'=>e= .returned (.bool r)∧Below w.heap.size w w':=by
 obtain rfl:=Option.some.inj h
 exact engine_may_c o key vl lo hi mo w
def engine_wants.f (a0_0:Int)(a0_1:ByteArray)(a0_2:ByteArray)(a0_3:ByteArray)(a0_4:ByteArray)(a0_5:Int):Option (Int×ByteArray×ByteArray):=if a0_0=1 then((span_Key.f 1 a0_1).bind fun bt237=>(some (bt237.1,bt237.2.1,bt237.2.2)))else (if a0_0=4 then(some (1,a0_3,a0_4))else ((span_Key.f 2 a0_1).bind fun bt240=>(some (bt240.1,bt240.2.1,bt240.2.2))))
theorem engine_wants.calls (a0_0:Int)(a0_1:ByteArray)(a0_2:ByteArray)(a0_3:ByteArray)(a0_4:ByteArray)(a0_5:Int)(r1:Int)(r2:ByteArray)(r3:ByteArray)(w:World)(h:engine_wants.f a0_0 a0_1 a0_2 a0_3 a0_4 a0_5=some (r1,r2,r3)):
  Calls Tryz.prog 183 #[.agg #[.int .i64 a0_0,.string a0_1,.string a0_2,.string a0_3,.string a0_4,.int .i64 a0_5]] w fun e w'=>e= .returned (.agg #[.int .i64 r1,.string r2,.string r3])∧Below w.heap.size w w':=by
 have hu59:=Tryz.underlying59
 have hu312:=Tryz.underlying312
 have HB:=Aside0.mk (Below.refl w.heap.size w)
 have H:(if a0_0=1 then((span_Key.f 1 a0_1).bind fun bt237=>(some (bt237.1,bt237.2.1,bt237.2.2)))else (if a0_0=4 then(some (1,a0_3,a0_4))else ((span_Key.f 2 a0_1).bind fun bt240=>(some (bt240.1,bt240.2.1,bt240.2.2)))))=some (r1,r2,r3):=h
 clear h
 by_cases c2:a0_0=1
 ·rw [if_pos c2] at H
  have c2b0:(a0_0==1)=true:=beq_iff_eq.mpr c2
  have c2b1:(a0_0 != 1)=false:=bne_eq_false_iff_eq.mpr c2
  clear c2
  replace H:=Option.bind_eq_some_iff.mp H
  obtain⟨⟨t237,t238,t239⟩,A30,H⟩:=H
  replace H:(some (t237,t238,t239))=some (r1,r2,r3):=H
  have A3:=Aside0.mk A30
  clear A30
  simp only[Option.some.injEq,Prod.mk.injEq] at H
  obtain⟨rfl,rfl,rfl⟩:=H
  go_enter Tryz.func183,Tryz.ntmps183
  go_wp2_with (first|((with_reducible refine gate_dst (N:=1) rfl ?_);refine box_event ?hg (N:=1) ?hd (cs:=#[.int .i64 a0_0,.string a0_1,.string a0_2,.string a0_3,.string a0_4,.int .i64 a0_5]) (t:=59) ?hr ?_;(case hd=>rfl);(case hg=>rfl);(case hr=>first|(go_simp;done)|(go_simp;rfl));intro gb235 hg w4 hbox hb;have n0_:=Aside0.mk (below_step (by repeat (first|(with_reducible first|exact HB.out|apply below_alloc|apply pw_below_drewN|apply below_drew1)|exact HB.out)) hb);have n1_:=Aside0.mk (hbox);have n2_:=Aside0.mk ((by rw[hg];exact(below_size (by repeat (first|(with_reducible first|exact HB.out|apply below_alloc|apply pw_below_drewN|apply below_drew1)|exact HB.out))):w.heap.size≤gb235));have n3_:=Aside0.mk ((by rw[hg];exact(below_size (by repeat (first|(with_reducible first|exact HB.out|apply below_alloc|apply pw_below_drewN|apply below_drew1)|exact HB.out))):w.heap.size≤gb235));clear HB;have HB:=n0_;have BK235:=n1_;have GW235:=n2_;have GE235:=n3_;clear n0_ n1_ n2_ n3_;clear hb hbox hg)|((with_reducible refine gate_dst (N:=2) rfl ?_);refine box_event ?hg (N:=2) ?hd (cs:=#[.int .i64 0,.string (⟨#[]⟩:ByteArray),.string (⟨#[]⟩:ByteArray)]) (t:=312) ?hr ?_;(case hd=>rfl);(case hg=>rfl);(case hr=>first|(go_simp;done)|(go_simp;rfl));intro gb236 hg w5 hbox hb;have n0_:=Aside0.mk (blk_below (g:=gb235) (o:= .cells #[.int .i64 a0_0,.string a0_1,.string a0_2,.string a0_3,.string a0_4,.int .i64 a0_5] 59 (0,0)) (by(with_reducible repeat (first|refine blk_drewN ?_ _|refine blk_drew ?_|refine blk_alloc ?_ _));exact BK235.out) hb);have n1_:=Aside0.mk (below_step (by repeat (first|(with_reducible first|exact HB.out|apply below_alloc|apply pw_below_drewN|apply below_drew1|refine below_set ?_ GE235.out)|exact HB.out)) hb);have n2_:=Aside0.mk (hbox);have n3_:=Aside0.mk ((by rw[hg];exact(below_size (by repeat (first|(with_reducible first|exact HB.out|apply below_alloc|apply pw_below_drewN|apply below_drew1|refine below_set ?_ GE235.out)|exact HB.out))):w.heap.size≤gb236));have n4_:=Aside0.mk ((by rw[hg];exact(below_size (by repeat (first|(with_reducible first|exact HB.out|apply below_alloc|apply pw_below_drewN|apply below_drew1|refine below_set ?_ GE235.out)|exact HB.out))):w.heap.size≤gb236));have n5_:=Aside0.mk ((by rw[hg];exact Nat.ne_of_lt (blk_lt (g:=gb235) (o:= .cells #[.int .i64 a0_0,.string a0_1,.string a0_2,.string a0_3,.string a0_4,.int .i64 a0_5] 59 (0,0)) (by(with_reducible repeat (first|refine blk_drewN ?_ _|refine blk_drew ?_|refine blk_alloc ?_ _));exact BK235.out)):gb235≠gb236));have n6_:=Aside0.mk ((by rw[hg];exact Nat.ne_of_gt (blk_lt (g:=gb235) (o:= .cells #[.int .i64 a0_0,.string a0_1,.string a0_2,.string a0_3,.string a0_4,.int .i64 a0_5] 59 (0,0)) (by(with_reducible repeat (first|refine blk_drewN ?_ _|refine blk_drew ?_|refine blk_alloc ?_ _));exact BK235.out)):gb236≠gb235));clear BK235;clear HB;have BK235:=n0_;have HB:=n1_;have BK236:=n2_;have GW236:=n3_;have GE236:=n4_;have NB235_236:=n5_;have NB236_235:=n6_;clear n0_ n1_ n2_ n3_ n4_ n5_ n6_;clear hb hbox hg;have hnb6:=NB235_236.out;have hnc6:=NB236_235.out;have hcz7_0:w5.cell? ⟨gb235,0,none⟩=some (.int .i64 a0_0):=(blk_cell BK235.out 0).trans rfl;have hcz7_1:w5.cell? ⟨gb235,1,none⟩=some (.string a0_1):=(blk_cell BK235.out 1).trans rfl;have hcz7_2:w5.cell? ⟨gb235,2,none⟩=some (.string a0_2):=(blk_cell BK235.out 2).trans rfl;have hcz7_3:w5.cell? ⟨gb235,3,none⟩=some (.string a0_3):=(blk_cell BK235.out 3).trans rfl;have hcz7_4:w5.cell? ⟨gb235,4,none⟩=some (.string a0_4):=(blk_cell BK235.out 4).trans rfl;have hcz7_5:w5.cell? ⟨gb235,5,none⟩=some (.int .i64 a0_5):=(blk_cell BK235.out 5).trans rfl;have hfz7_0:=blk_frozen BK235.out 0;have hfz7_1:=blk_frozen BK235.out 1;have hfz7_2:=blk_frozen BK235.out 2;have hfz7_3:=blk_frozen BK235.out 3;have hfz7_4:=blk_frozen BK235.out 4;have hfz7_5:=blk_frozen BK235.out 5)|((with_reducible refine gate_callee (f:=220) rfl ?_);refine goesL_ (some 9) rfl rfl Tryz.func220 (by kernel_rfl) rfl #[.int .i64 1,.string a0_1] rfl (by(try simp only[List.map_toArray,List.map_cons,List.map_nil]);first|done|rfl|(simp only[List.length_drop,List.length_take];rfl)) ?_;(with_reducible refine(span_Key.calls 1 a0_1 t237 t238 t239 _ A3.out).mono ?_);rintro e w8 ⟨rfl,hb⟩;refine⟨_,rfl,?_⟩;have n0_:=Aside0.mk (blk_below (g:=gb235) (o:= .cells #[.int .i64 a0_0,.string a0_1,.string a0_2,.string a0_3,.string a0_4,.int .i64 a0_5] 59 (0,0)) (by(with_reducible repeat (first|refine blk_drewN ?_ _|refine blk_drew ?_|refine blk_alloc ?_ _));exact BK235.out) hb);have n1_:=Aside0.mk (blk_below (g:=gb236) (o:= .cells #[.int .i64 0,.string (⟨#[]⟩:ByteArray),.string (⟨#[]⟩:ByteArray)] 312 (0,0)) (by(with_reducible repeat (first|refine blk_drewN ?_ _|refine blk_drew ?_|refine blk_alloc ?_ _));exact BK236.out) hb);have n2_:=Aside0.mk (below_step (by repeat (first|(with_reducible first|exact HB.out|apply below_alloc|apply pw_below_drewN|apply below_drew1|refine below_set ?_ GE235.out|refine below_set ?_ GE236.out)|exact HB.out)) hb);clear BK235;clear BK236;clear HB;have BK235:=n0_;have BK236:=n1_;have HB:=n2_;clear n0_ n1_ n2_;(try clear hb);(try clear hb2);(try clear hk);(try clear hi);have hcz9_0:w8.cell? ⟨gb236,0,none⟩=some (.int .i64 0):=(blk_cell BK236.out 0).trans rfl;have hcz9_1:w8.cell? ⟨gb236,1,none⟩=some (.string (⟨#[]⟩:ByteArray)):=(blk_cell BK236.out 1).trans rfl;have hcz9_2:w8.cell? ⟨gb236,2,none⟩=some (.string (⟨#[]⟩:ByteArray)):=(blk_cell BK236.out 2).trans rfl;have hfz9_0:=blk_frozen BK236.out 0;have hfz9_1:=blk_frozen BK236.out 1;have hfz9_2:=blk_frozen BK236.out 2))
  refine bodyPost_ret (results_cell_row rfl _ _ gb236 312 #[.int .i64 t237,.string t238,.string t239] (0,0) _ rfl (by(with_reducible repeat (first|refine blk_drewN ?_ _|refine blk_drew ?_|refine blk_alloc ?_ _));refine blk_put (cs:=#[.int .i64 t237,.string t238,.string (⟨#[]⟩:ByteArray)]) ?_ 2 _ rfl;(with_reducible repeat (first|refine blk_drewN ?_ _|refine blk_drew ?_|refine blk_alloc ?_ _));refine blk_put (cs:=#[.int .i64 t237,.string (⟨#[]⟩:ByteArray),.string (⟨#[]⟩:ByteArray)]) ?_ 1 _ rfl;(with_reducible repeat (first|refine blk_drewN ?_ _|refine blk_drew ?_|refine blk_alloc ?_ _));refine blk_put (cs:=#[.int .i64 0,.string (⟨#[]⟩:ByteArray),.string (⟨#[]⟩:ByteArray)]) ?_ 0 _ rfl;(with_reducible repeat (first|refine blk_drewN ?_ _|refine blk_drew ?_|refine blk_alloc ?_ _));exact BK236.out) Tryz.underlying312 rfl (by kernel_rfl)) rfl ?_
  exact⟨by first|rfl|(simp[errW_none,errW_some] <;> rfl)|(simp[*,errW_none,errW_some] <;> rfl),by repeat (first|(with_reducible first|exact HB.out|apply below_alloc|apply pw_below_drewN|apply below_drew1|refine below_set ?_ GE235.out|refine below_set ?_ GE236.out)|exact HB.out)⟩
 ·rw [if_neg c2] at H
  have c2b0:(a0_0==1)=false:=beq_eq_false_iff_ne.mpr c2
  have c2b1:(a0_0 != 1)=true:=bne_iff_ne.mpr c2
  by_cases c10:a0_0=4
  ·rw [if_pos c10] at H
   have c10b0:(a0_0==4)=true:=beq_iff_eq.mpr c10
   have c10b1:(a0_0 != 4)=false:=bne_eq_false_iff_eq.mpr c10
   clear c10
   simp only[Option.some.injEq,Prod.mk.injEq] at H
   obtain⟨rfl,rfl,rfl⟩:=H
   go_enter Tryz.func183,Tryz.ntmps183
   go_wp2_with (first|((with_reducible refine gate_dst (N:=1) rfl ?_);refine box_event ?hg (N:=1) ?hd (cs:=#[.int .i64 a0_0,.string a0_1,.string a0_2,.string a0_3,.string a0_4,.int .i64 a0_5]) (t:=59) ?hr ?_;(case hd=>rfl);(case hg=>rfl);(case hr=>first|(go_simp;done)|(go_simp;rfl));intro gb235 hg w11 hbox hb;have n0_:=Aside0.mk (below_step (by repeat (first|(with_reducible first|exact HB.out|apply below_alloc|apply pw_below_drewN|apply below_drew1)|exact HB.out)) hb);have n1_:=Aside0.mk (hbox);have n2_:=Aside0.mk ((by rw[hg];exact(below_size (by repeat (first|(with_reducible first|exact HB.out|apply below_alloc|apply pw_below_drewN|apply below_drew1)|exact HB.out))):w.heap.size≤gb235));have n3_:=Aside0.mk ((by rw[hg];exact(below_size (by repeat (first|(with_reducible first|exact HB.out|apply below_alloc|apply pw_below_drewN|apply below_drew1)|exact HB.out))):w.heap.size≤gb235));clear HB;have HB:=n0_;have BK235:=n1_;have GW235:=n2_;have GE235:=n3_;clear n0_ n1_ n2_ n3_;clear hb hbox hg)|((with_reducible refine gate_dst (N:=2) rfl ?_);refine box_event ?hg (N:=2) ?hd (cs:=#[.int .i64 0,.string (⟨#[]⟩:ByteArray),.string (⟨#[]⟩:ByteArray)]) (t:=312) ?hr ?_;(case hd=>rfl);(case hg=>rfl);(case hr=>first|(go_simp;done)|(go_simp;rfl));intro gb236 hg w12 hbox hb;have n0_:=Aside0.mk (blk_below (g:=gb235) (o:= .cells #[.int .i64 a0_0,.string a0_1,.string a0_2,.string a0_3,.string a0_4,.int .i64 a0_5] 59 (0,0)) (by(with_reducible repeat (first|refine blk_drewN ?_ _|refine blk_drew ?_|refine blk_alloc ?_ _));exact BK235.out) hb);have n1_:=Aside0.mk (below_step (by repeat (first|(with_reducible first|exact HB.out|apply below_alloc|apply pw_below_drewN|apply below_drew1|refine below_set ?_ GE235.out)|exact HB.out)) hb);have n2_:=Aside0.mk (hbox);have n3_:=Aside0.mk ((by rw[hg];exact(below_size (by repeat (first|(with_reducible first|exact HB.out|apply below_alloc|apply pw_below_drewN|apply below_drew1|refine below_set ?_ GE235.out)|exact HB.out))):w.heap.size≤gb236));have n4_:=Aside0.mk ((by rw[hg];exact(below_size (by repeat (first|(with_reducible first|exact HB.out|apply below_alloc|apply pw_below_drewN|apply below_drew1|refine below_set ?_ GE235.out)|exact HB.out))):w.heap.size≤gb236));have n5_:=Aside0.mk ((by rw[hg];exact Nat.ne_of_lt (blk_lt (g:=gb235) (o:= .cells #[.int .i64 a0_0,.string a0_1,.string a0_2,.string a0_3,.string a0_4,.int .i64 a0_5] 59 (0,0)) (by(with_reducible repeat (first|refine blk_drewN ?_ _|refine blk_drew ?_|refine blk_alloc ?_ _));exact BK235.out)):gb235≠gb236));have n6_:=Aside0.mk ((by rw[hg];exact Nat.ne_of_gt (blk_lt (g:=gb235) (o:= .cells #[.int .i64 a0_0,.string a0_1,.string a0_2,.string a0_3,.string a0_4,.int .i64 a0_5] 59 (0,0)) (by(with_reducible repeat (first|refine blk_drewN ?_ _|refine blk_drew ?_|refine blk_alloc ?_ _));exact BK235.out)):gb236≠gb235));clear BK235;clear HB;have BK235:=n0_;have HB:=n1_;have BK236:=n2_;have GW236:=n3_;have GE236:=n4_;have NB235_236:=n5_;have NB236_235:=n6_;clear n0_ n1_ n2_ n3_ n4_ n5_ n6_;clear hb hbox hg;have hnb13:=NB235_236.out;have hnc13:=NB236_235.out;have hcz14_0:w12.cell? ⟨gb235,0,none⟩=some (.int .i64 a0_0):=(blk_cell BK235.out 0).trans rfl;have hcz14_1:w12.cell? ⟨gb235,1,none⟩=some (.string a0_1):=(blk_cell BK235.out 1).trans rfl;have hcz14_2:w12.cell? ⟨gb235,2,none⟩=some (.string a0_2):=(blk_cell BK235.out 2).trans rfl;have hcz14_3:w12.cell? ⟨gb235,3,none⟩=some (.string a0_3):=(blk_cell BK235.out 3).trans rfl;have hcz14_4:w12.cell? ⟨gb235,4,none⟩=some (.string a0_4):=(blk_cell BK235.out 4).trans rfl;have hcz14_5:w12.cell? ⟨gb235,5,none⟩=some (.int .i64 a0_5):=(blk_cell BK235.out 5).trans rfl;have hfz14_0:=blk_frozen BK235.out 0;have hfz14_1:=blk_frozen BK235.out 1;have hfz14_2:=blk_frozen BK235.out 2;have hfz14_3:=blk_frozen BK235.out 3;have hfz14_4:=blk_frozen BK235.out 4;have hfz14_5:=blk_frozen BK235.out 5;have hcz15_0:w12.cell? ⟨gb236,0,none⟩=some (.int .i64 0):=(blk_cell BK236.out 0).trans rfl;have hcz15_1:w12.cell? ⟨gb236,1,none⟩=some (.string (⟨#[]⟩:ByteArray)):=(blk_cell BK236.out 1).trans rfl;have hcz15_2:w12.cell? ⟨gb236,2,none⟩=some (.string (⟨#[]⟩:ByteArray)):=(blk_cell BK236.out 2).trans rfl;have hfz15_0:=blk_frozen BK236.out 0;have hfz15_1:=blk_frozen BK236.out 1;have hfz15_2:=blk_frozen BK236.out 2))
   refine bodyPost_ret (results_cell_row rfl _ _ gb236 312 #[.int .i64 1,.string a0_3,.string a0_4] (0,0) _ rfl (by(with_reducible repeat (first|refine blk_drewN ?_ _|refine blk_drew ?_|refine blk_alloc ?_ _));refine blk_put (cs:=#[.int .i64 1,.string a0_3,.string (⟨#[]⟩:ByteArray)]) ?_ 2 _ rfl;(with_reducible repeat (first|refine blk_drewN ?_ _|refine blk_drew ?_|refine blk_alloc ?_ _));refine blk_put (cs:=#[.int .i64 1,.string (⟨#[]⟩:ByteArray),.string (⟨#[]⟩:ByteArray)]) ?_ 1 _ rfl;(with_reducible repeat (first|refine blk_drewN ?_ _|refine blk_drew ?_|refine blk_alloc ?_ _));refine blk_put (cs:=#[.int .i64 0,.string (⟨#[]⟩:ByteArray),.string (⟨#[]⟩:ByteArray)]) ?_ 0 _ rfl;(with_reducible repeat (first|refine blk_drewN ?_ _|refine blk_drew ?_|refine blk_alloc ?_ _));exact BK236.out) Tryz.underlying312 rfl (by kernel_rfl)) rfl ?_
   exact⟨by first|rfl|(simp[errW_none,errW_some] <;> rfl)|(simp[*,errW_none,errW_some] <;> rfl),by repeat (first|(with_reducible first|exact HB.out|apply below_alloc|apply pw_below_drewN|apply below_drew1|refine below_set ?_ GE235.out|refine below_set ?_ GE236.out)|exact HB.out)⟩
  ·rw [if_neg c10] at H
   have c10b0:(a0_0==4)=false:=beq_eq_false_iff_ne.mpr c10
   have c10b1:(a0_0 != 4)=true:=bne_iff_ne.mpr c10
   replace H:=Option.bind_eq_some_iff.mp H
   obtain⟨⟨t240,t241,t242⟩,A160,H⟩:=H
   replace H:(some (t240,t241,t242))=some (r1,r2,r3):=H
   have A16:=Aside0.mk A160
   clear A160
   simp only[Option.some.injEq,Prod.mk.injEq] at H
   obtain⟨rfl,rfl,rfl⟩:=H
   go_enter Tryz.func183,Tryz.ntmps183
   go_wp2_with (first|((with_reducible refine gate_dst (N:=1) rfl ?_);refine box_event ?hg (N:=1) ?hd (cs:=#[.int .i64 a0_0,.string a0_1,.string a0_2,.string a0_3,.string a0_4,.int .i64 a0_5]) (t:=59) ?hr ?_;(case hd=>rfl);(case hg=>rfl);(case hr=>first|(go_simp;done)|(go_simp;rfl));intro gb235 hg w17 hbox hb;have n0_:=Aside0.mk (below_step (by repeat (first|(with_reducible first|exact HB.out|apply below_alloc|apply pw_below_drewN|apply below_drew1)|exact HB.out)) hb);have n1_:=Aside0.mk (hbox);have n2_:=Aside0.mk ((by rw[hg];exact(below_size (by repeat (first|(with_reducible first|exact HB.out|apply below_alloc|apply pw_below_drewN|apply below_drew1)|exact HB.out))):w.heap.size≤gb235));have n3_:=Aside0.mk ((by rw[hg];exact(below_size (by repeat (first|(with_reducible first|exact HB.out|apply below_alloc|apply pw_below_drewN|apply below_drew1)|exact HB.out))):w.heap.size≤gb235));clear HB;have HB:=n0_;have BK235:=n1_;have GW235:=n2_;have GE235:=n3_;clear n0_ n1_ n2_ n3_;clear hb hbox hg)|((with_reducible refine gate_dst (N:=2) rfl ?_);refine box_event ?hg (N:=2) ?hd (cs:=#[.int .i64 0,.string (⟨#[]⟩:ByteArray),.string (⟨#[]⟩:ByteArray)]) (t:=312) ?hr ?_;(case hd=>rfl);(case hg=>rfl);(case hr=>first|(go_simp;done)|(go_simp;rfl));intro gb236 hg w18 hbox hb;have n0_:=Aside0.mk (blk_below (g:=gb235) (o:= .cells #[.int .i64 a0_0,.string a0_1,.string a0_2,.string a0_3,.string a0_4,.int .i64 a0_5] 59 (0,0)) (by(with_reducible repeat (first|refine blk_drewN ?_ _|refine blk_drew ?_|refine blk_alloc ?_ _));exact BK235.out) hb);have n1_:=Aside0.mk (below_step (by repeat (first|(with_reducible first|exact HB.out|apply below_alloc|apply pw_below_drewN|apply below_drew1|refine below_set ?_ GE235.out)|exact HB.out)) hb);have n2_:=Aside0.mk (hbox);have n3_:=Aside0.mk ((by rw[hg];exact(below_size (by repeat (first|(with_reducible first|exact HB.out|apply below_alloc|apply pw_below_drewN|apply below_drew1|refine below_set ?_ GE235.out)|exact HB.out))):w.heap.size≤gb236));have n4_:=Aside0.mk ((by rw[hg];exact(below_size (by repeat (first|(with_reducible first|exact HB.out|apply below_alloc|apply pw_below_drewN|apply below_drew1|refine below_set ?_ GE235.out)|exact HB.out))):w.heap.size≤gb236));have n5_:=Aside0.mk ((by rw[hg];exact Nat.ne_of_lt (blk_lt (g:=gb235) (o:= .cells #[.int .i64 a0_0,.string a0_1,.string a0_2,.string a0_3,.string a0_4,.int .i64 a0_5] 59 (0,0)) (by(with_reducible repeat (first|refine blk_drewN ?_ _|refine blk_drew ?_|refine blk_alloc ?_ _));exact BK235.out)):gb235≠gb236));have n6_:=Aside0.mk ((by rw[hg];exact Nat.ne_of_gt (blk_lt (g:=gb235) (o:= .cells #[.int .i64 a0_0,.string a0_1,.string a0_2,.string a0_3,.string a0_4,.int .i64 a0_5] 59 (0,0)) (by(with_reducible repeat (first|refine blk_drewN ?_ _|refine blk_drew ?_|refine blk_alloc ?_ _));exact BK235.out)):gb236≠gb235));clear BK235;clear HB;have BK235:=n0_;have HB:=n1_;have BK236:=n2_;have GW236:=n3_;have GE236:=n4_;have NB235_236:=n5_;have NB236_235:=n6_;clear n0_ n1_ n2_ n3_ n4_ n5_ n6_;clear hb hbox hg;have hnb19:=NB235_236.out;have hnc19:=NB236_235.out;have hcz20_0:w18.cell? ⟨gb235,0,none⟩=some (.int .i64 a0_0):=(blk_cell BK235.out 0).trans rfl;have hcz20_1:w18.cell? ⟨gb235,1,none⟩=some (.string a0_1):=(blk_cell BK235.out 1).trans rfl;have hcz20_2:w18.cell? ⟨gb235,2,none⟩=some (.string a0_2):=(blk_cell BK235.out 2).trans rfl;have hcz20_3:w18.cell? ⟨gb235,3,none⟩=some (.string a0_3):=(blk_cell BK235.out 3).trans rfl;have hcz20_4:w18.cell? ⟨gb235,4,none⟩=some (.string a0_4):=(blk_cell BK235.out 4).trans rfl;have hcz20_5:w18.cell? ⟨gb235,5,none⟩=some (.int .i64 a0_5):=(blk_cell BK235.out 5).trans rfl;have hfz20_0:=blk_frozen BK235.out 0;have hfz20_1:=blk_frozen BK235.out 1;have hfz20_2:=blk_frozen BK235.out 2;have hfz20_3:=blk_frozen BK235.out 3;have hfz20_4:=blk_frozen BK235.out 4;have hfz20_5:=blk_frozen BK235.out 5)|((with_reducible refine gate_callee (f:=220) rfl ?_);refine goesL_ (some 19) rfl rfl Tryz.func220 (by kernel_rfl) rfl #[.int .i64 2,.string a0_1] rfl (by(try simp only[List.map_toArray,List.map_cons,List.map_nil]);first|done|rfl|(simp only[List.length_drop,List.length_take];rfl)) ?_;(with_reducible refine(span_Key.calls 2 a0_1 t240 t241 t242 _ A16.out).mono ?_);rintro e w21 ⟨rfl,hb⟩;refine⟨_,rfl,?_⟩;have n0_:=Aside0.mk (blk_below (g:=gb235) (o:= .cells #[.int .i64 a0_0,.string a0_1,.string a0_2,.string a0_3,.string a0_4,.int .i64 a0_5] 59 (0,0)) (by(with_reducible repeat (first|refine blk_drewN ?_ _|refine blk_drew ?_|refine blk_alloc ?_ _));exact BK235.out) hb);have n1_:=Aside0.mk (blk_below (g:=gb236) (o:= .cells #[.int .i64 0,.string (⟨#[]⟩:ByteArray),.string (⟨#[]⟩:ByteArray)] 312 (0,0)) (by(with_reducible repeat (first|refine blk_drewN ?_ _|refine blk_drew ?_|refine blk_alloc ?_ _));exact BK236.out) hb);have n2_:=Aside0.mk (below_step (by repeat (first|(with_reducible first|exact HB.out|apply below_alloc|apply pw_below_drewN|apply below_drew1|refine below_set ?_ GE235.out|refine below_set ?_ GE236.out)|exact HB.out)) hb);clear BK235;clear BK236;clear HB;have BK235:=n0_;have BK236:=n1_;have HB:=n2_;clear n0_ n1_ n2_;(try clear hb);(try clear hb2);(try clear hk);(try clear hi);have hcz22_0:w21.cell? ⟨gb236,0,none⟩=some (.int .i64 0):=(blk_cell BK236.out 0).trans rfl;have hcz22_1:w21.cell? ⟨gb236,1,none⟩=some (.string (⟨#[]⟩:ByteArray)):=(blk_cell BK236.out 1).trans rfl;have hcz22_2:w21.cell? ⟨gb236,2,none⟩=some (.string (⟨#[]⟩:ByteArray)):=(blk_cell BK236.out 2).trans rfl;have hfz22_0:=blk_frozen BK236.out 0;have hfz22_1:=blk_frozen BK236.out 1;have hfz22_2:=blk_frozen BK236.out 2))
   refine bodyPost_ret (results_cell_row rfl _ _ gb236 312 #[.int .i64 t240,.string t241,.string t242] (0,0) _ rfl (by(with_reducible repeat (first|refine blk_drewN ?_ _|refine blk_drew ?_|refine blk_alloc ?_ _));refine blk_put (cs:=#[.int .i64 t240,.string t241,.string (⟨#[]⟩:ByteArray)]) ?_ 2 _ rfl;(with_reducible repeat (first|refine blk_drewN ?_ _|refine blk_drew ?_|refine blk_alloc ?_ _));refine blk_put (cs:=#[.int .i64 t240,.string (⟨#[]⟩:ByteArray),.string (⟨#[]⟩:ByteArray)]) ?_ 1 _ rfl;(with_reducible repeat (first|refine blk_drewN ?_ _|refine blk_drew ?_|refine blk_alloc ?_ _));refine blk_put (cs:=#[.int .i64 0,.string (⟨#[]⟩:ByteArray),.string (⟨#[]⟩:ByteArray)]) ?_ 0 _ rfl;(with_reducible repeat (first|refine blk_drewN ?_ _|refine blk_drew ?_|refine blk_alloc ?_ _));exact BK236.out) Tryz.underlying312 rfl (by kernel_rfl)) rfl ?_
   exact⟨by first|rfl|(simp[errW_none,errW_some] <;> rfl)|(simp[*,errW_none,errW_some] <;> rfl),by repeat (first|(with_reducible first|exact HB.out|apply below_alloc|apply pw_below_drewN|apply below_drew1|refine below_set ?_ GE235.out|refine below_set ?_ GE236.out)|exact HB.out)⟩
def table_Between.f (a0:ByteArray)(a1:ByteArray)(a2:ByteArray):Option (Bool):=if((Op.bytesLess a0.toList a1.toList)=true)then (some false)else (if a2.toList=([]:List UInt8)then (some true)else (some (Op.bytesLess a0.toList a2.toList)))
theorem table_Between.calls (a0:ByteArray)(a1:ByteArray)(a2:ByteArray)(r:Bool)(w:World)(h:table_Between.f a0 a1 a2=some r):
  Calls Tryz.prog 264 #[.string a0,.string a1,.string a2] w fun e w'=>e= .returned (.bool r)∧Drawn0 w w':=by
 have H:(if((Op.bytesLess a0.toList a1.toList)=true)then (some false)else (if a2.toList=([]:List UInt8)then (some true)else (some (Op.bytesLess a0.toList a2.toList))))=some r:=h
 clear h
 by_cases c4:((Op.bytesLess a0.toList a1.toList)=true)
 ·rw [if_pos c4] at H
  have c4b0:(Op.bytesLess a0.toList a1.toList)=true:=c4
  clear c4
  obtain rfl:=Option.some.inj H
  go_enter Tryz.func264,Tryz.ntmps264
  go_wp2
  go_ret
  exact⟨by first|rfl|(simp;done)|(simp[*];done),by repeat (first|exact Drawn0.refl _|apply Drawn0.step)⟩
 ·rw [if_neg c4] at H
  have c4b0:(Op.bytesLess a0.toList a1.toList)=false:=by simpa using c4
  clear c4
  by_cases c5:a2.toList=([]:List UInt8)
  ·rw [if_pos c5] at H
   have c5b0:(a2.toList==([]:List UInt8))=true:=beq_iff_eq.mpr c5
   have c5b1:(a2.toList != ([]:List UInt8))=false:=bne_eq_false_iff_eq.mpr c5
   clear c5
   obtain rfl:=Option.some.inj H
   go_enter Tryz.func264,Tryz.ntmps264
   go_wp2
   go_ret
   exact⟨by first|rfl|(simp;done)|(simp[*];done),by repeat (first|exact Drawn0.refl _|apply Drawn0.step)⟩
  ·rw [if_neg c5] at H
   have c5b0:(a2.toList==([]:List UInt8))=false:=beq_eq_false_iff_ne.mpr c5
   have c5b1:(a2.toList != ([]:List UInt8))=true:=bne_iff_ne.mpr c5
   obtain rfl:=Option.some.inj H
   go_enter Tryz.func264,Tryz.ntmps264
   go_wp2
   go_ret
   exact⟨by first|rfl|(simp;done)|(simp[*];done),by repeat (first|exact Drawn0.refl _|apply Drawn0.step)⟩
end Go.Proofs.YtmgmdiekpmffbaaGreatDoor.QWi
namespace Go.Proofs.YtmgmdiekpmffbaaGreatDoor.Range
open Go Go.RowKit
variable {F:Fence} {n:Nat} {P:Program}
def SeqSt {α:Type}(F:Fence)(n:Nat)(P:Program)(g:Nat)(lb:Array Value)(encs:α→Array Value)(Bs:Nat)(xs:List α)(w:World):Prop:=
 ∀(l:Nat) (J:List α→World→Prop) (W:World),W.heap[Bs]? =w.heap[Bs]? →
  (∀s A B,J s A→A.grownBy B (some Bs)→J s B)→
  (∀pre x W1,J pre W1→pre.length<xs.length→YieldAt F (n - 1) P l (encs x) W1 fun e W'=>e= .returned (.bool true)∧J (pre++ [x]) W'∧W'.heap[Bs]? =W1.heap[Bs]?)→
  J [] W→CallsIn F n P g (#[.func (.yield l) #[] #[]]++lb) W fun e W'=>(∃v,e= .returned v)∧J xs W'
def RoundEnds {α:Type}(Bs:Nat)(I:List α→World→Prop)(xs:List α)(W:World)(e:Exit)(W':World):Prop:=
 e= .normal∧KeepsOthers W W'∧W'.heap[Bs]? =W.heap[Bs]? ∧I xs W'
def Abide {α:Type}(Bs D:Nat)(I:List α→World→Prop):Prop:=
 ∀s A B row,I s A→A.grownBy B row→(∀r,row=some r→r=Bs∨(D≤r∧∃o:Obj,A.heap[r]? =some o∧o.isCells=false))→I s B
theorem range_st {α:Type}{g:Operand}{ps:Array Tmp}{assign body:Code}{Q:Exit→Act→World→Prop}{a:Act}{w:World}
  (hro:F.round=none) (h1:1≤n) {gf:Nat} {lb:Array Value} (hg:a.eval g= .func (.func gf) #[] lb) (hFg:F.fn gf) (eg:∀args w,(callFunc gf args).run P w= .ok (.enter gf args) w)
  {encs:α→Array Value} {Bs:Nat} {xs:List α} (hseq:SeqSt F (n - 1) P gf lb encs Bs xs w) (hBs:Bs<w.heap.size) (hps:∀x,(encs x).size=ps.size)
  (I:List α→World→Prop) (hI:Abide Bs w.heap.size I) (h0:I [] w) (a₁:α→Act)
  (hassign:∀(l:Nat) (x:α) (W:World) (K:Act→World→Prop),K (a₁ x) W→
   assign.wpIn (F.inRound l) (n - 1 - 1) P (Exit.then K (fun _ _ _=>False)) { tmps:=(ps.zip (encs x)).foldl (fun t (p,v)=>t.setIfInBounds p v) a.tmps,defers:= [] } W)
  (hbody:∀(l:Nat) (pre:List α) (x:α) (W:World),I pre W→pre.length<xs.length→body.wpIn (F.inRound l) (n - 1 - 1) P (fun e _ W'=>RoundEnds Bs I (pre++ [x]) W e W') (a₁ x) W)
  (hdone:∀(D:Nat) (W:World),w.heap.size≤D→I xs W→W.heap[D]? =some (.deferred (some []))→Q .normal { a with defers:= { target:= .collected D,args:=#[] } :: a.defers } W):
  (Code.rangeFunc g ps assign body).wpIn F n P Q a w:=by
 refine wpIn_rangeFunc fun fn hfn=>?_
 rw[hro]
 let rec_:LoopState→Loop:=fun st=> { state:=st,pending:=none,fn:=fn,tmps:=a.tmps,params:=ps,assign:=assign,body:=body,defers:=w.heap.size }
 let W1:=(w.alloc (.deferred (some []))).alloc (.loop (rec_ .ready))
 have s1:W1.heap.size=w.heap.size+2:=by simp[W1]
 have l1:W1.heap[w.heap.size+1]? =some (.loop (rec_ .ready)):=by
  have h:=World.alloc_heap_new (w.alloc (.deferred (some []))) (.loop (rec_ .ready))
  rwa [World.size_alloc] at h
 have d1:W1.heap[w.heap.size]? =some (.deferred (some [])):=(Below.heap_alloc _ _ _ (by simp)).trans (World.alloc_heap_new w _)
 have i1:I [] W1:=hI _ _ _ none (hI _ _ _ none h0 (World.grownBy_alloc w _ none) (fun r e=>by cases e)) (World.grownBy_alloc _ _ none) (fun r e=>by cases e)
 have b1:W1.heap[Bs]? =w.heap[Bs]? :=(Below.heap_alloc _ _ _ (by simp;omega)).trans (Below.heap_alloc _ _ _ hBs)
 have turn:∀(s:List α) (W:World) (o o':Obj),W.heap[w.heap.size+1]? =some o→o.isCells=false→I s W→I s (W.putObj (w.heap.size+1) o'):=fun s W o o' ho hc hi=>
  hI s W _ (some (w.heap.size+1)) hi (grownBy_putObj' W _ o') (fun r e=>by cases e;exact .inr ⟨by omega,o,ho,hc⟩)
 refine⟨w.heap.size+1,[{ target:= .collected w.heap.size,args:=#[] }],W1,{ target:= .fn (.func gf) lb,args:=#[.func (.yield (w.heap.size+1)) #[] #[]] },W1,gf,
  #[.func (.yield (w.heap.size+1)) #[] #[]]++lb,W1,run_enterLoop_outer _ _ _ _ _,?_,?_,?_,fun _=>h1,?_⟩
 ·simp only[resolve,hg]
  simp[go_sem]
 ·intro f' hf'
  simp[Target.leads] at hf'
  subst hf'
  exact hFg
 ·simp [invoke,go_sem,eg]
 refine(hseq (w.heap.size+1) (fun s W=>I s W∧W.heap[w.heap.size+1]? =some (.loop (rec_ .ready))∧W.heap[w.heap.size]? =some (.deferred (some []))) W1 b1 ?_ ?_ ⟨i1,l1,d1⟩).mono ?_
 ·rintro s A B ⟨hi,hl,hd⟩ hgr
  refine⟨hI s A B _ hi hgr (fun r e=> .inl (by cases e;rfl)),?_,?_⟩
  ·exact(hgr.block _ (Array.getElem?_eq_some_iff.1 hl).1 (fun e=>by cases e;omega)).trans hl
  ·exact(hgr.block _ (Array.getElem?_eq_some_iff.1 hd).1 (fun e=>by cases e;omega)).trans hd
 ·rintro pre x W ⟨hi,hl,hd⟩ hlt
  have hin:w.heap.size+1<W.heap.size:=(Array.getElem?_eq_some_iff.1 hl).1
  have hl2:(W.putObj (w.heap.size+1) (.loop (rec_ .busy))).heap[w.heap.size+1]? =some (.loop (rec_ .busy)):=World.putObj_heap_same hin
  have hd2:(W.putObj (w.heap.size+1) (.loop (rec_ .busy))).heap[w.heap.size]? =some (.deferred (some [])):=(World.putObj_heap_other (by omega)).trans hd
  refine⟨fn,_,assign,body,run_yield (r:=rec_ .ready) hl (hps x),roundIn_of_wpIn hfn (hassign _ x W _ ⟨_,run_beginRound (r:=rec_ .ready) hl rfl,?_⟩)⟩
  refine wpIn_mono (hbody _ pre x _ (turn _ _ _ _ hl rfl hi) hlt) ?_
  rintro e a3 W3 ⟨rfl,hk,hB,hi3⟩
  have hl3:=hk.same _ _ hl2 rfl
  have hd3:=hk.same _ _ hd2 rfl
  refine⟨_,_,run_endRound (r:=rec_ .busy) none hl3,rfl,⟨turn _ _ _ _ hl3 rfl hi3,World.putObj_heap_same (Array.getElem?_eq_some_iff.1 hl3).1,(World.putObj_heap_other (by omega)).trans hd3⟩,?_⟩
  exact(World.putObj_heap_other (by omega)).trans (hB.trans (World.putObj_heap_other (by omega)))
 ·rintro e W2 ⟨⟨v,rfl⟩,hi,hl,hd⟩
  exact⟨none,_,run_endLoop (r:=rec_ .ready) hl (by simp[rec_]),hdone _ _ (Nat.le_refl _) (turn _ _ _ _ hl rfl hi) ((World.putObj_heap_other (by omega)).trans hd)⟩
end Go.Proofs.YtmgmdiekpmffbaaGreatDoor.Range
namespace Go.Proofs.YtmgmdiekpmffbaaGreatDoor.Fr
open Go Go.RowKit Go.Proofs.YtmgmdiekpmffbaaGreatDoor.DecM Go.Proofs.YtmgmdiekpmffbaaGreatDoor.Giv Go.Proofs.YtmgmdiekpmffbaaGreatDoor.DecPure
theorem text_lt (s:ByteArray)(most:Int)(h:(takeText s most).2.2=0):(takeText s most).2.1.size<s.size:=by
 obtain⟨e,_,h2⟩:=text_was s most h
 have hsz:s.size=(textS (takeText s most).1).size+(takeText s most).2.1.size:=by
  conv=>lhs;rw[e]
  exact ByteArray.size_append ..
 have h1:1≤(textS (takeText s most).1).size:=by
  unfold textS
  rw[ByteArray.size_append]
  have h:1≤(numS (takeText s most).1.size).size:=by
   rw[←len_size,numS_data,List.length_append]
   exact Nat.le_add_left 1 _
  omega
 omega
def framesF:Nat→ByteArray→List (ByteArray×ByteArray)
 |0,_=> []
 |k+1,s=>if(takeText s 2048).2.2=0 then((takeText s 2048).1,(takeText s 2048).2.1) :: framesF k (takeText s 2048).2.1 else []
def restF:Nat→ByteArray→ByteArray
 |0,s=>s
 |k+1,s=>if(takeText s 2048).2.2=0 then restF k (takeText s 2048).2.1 else s
theorem frames_fuel:∀(k j:Nat) (s:ByteArray),s.size<k→s.size<j→framesF k s=framesF j s∧restF k s=restF j s:=by
 intro k
 induction k with
 |zero=>intro j s h;omega
 |succ k ih=>
  intro j s h h'
  obtain⟨j,rfl⟩:∃i,j=i+1:=⟨j - 1,by omega⟩
  rw[framesF,framesF,restF,restF]
  by_cases hz:(takeText s 2048).2.2=0
  ·have hlt:=text_lt s 2048 hz
   obtain⟨e1,e2⟩:=ih j (takeText s 2048).2.1 (by omega) (by omega)
   rw[if_pos hz,if_pos hz,if_pos hz,if_pos hz,e1,e2]
   exact⟨rfl,rfl⟩
  ·rw [if_neg hz,if_neg hz,if_neg hz,if_neg hz]
   exact⟨rfl,rfl⟩
def pairs (s:ByteArray):List (ByteArray×ByteArray):=framesF (s.size+1) s
def rest (s:ByteArray):ByteArray:=restF (s.size+1) s
theorem pairs_ok {s:ByteArray}(hz:(takeText s 2048).2.2=0):pairs s=((takeText s 2048).1,(takeText s 2048).2.1) :: pairs (takeText s 2048).2.1:=by
 have hlt:=text_lt s 2048 hz
 unfold pairs
 rw[framesF,if_pos hz,(frames_fuel s.size ((takeText s 2048).2.1.size+1) _ hlt (by omega)).1]
theorem rest_ok {s:ByteArray}(hz:(takeText s 2048).2.2=0):rest s=rest (takeText s 2048).2.1:=by
 have hlt:=text_lt s 2048 hz
 unfold rest
 rw[restF,if_pos hz,(frames_fuel s.size ((takeText s 2048).2.1.size+1) _ hlt (by omega)).2]
theorem pairs_no {s:ByteArray}(hz:¬(takeText s 2048).2.2=0):pairs s= []:=by
 unfold pairs
 rw[framesF,if_neg hz]
theorem rest_no {s:ByteArray}(hz:¬(takeText s 2048).2.2=0):rest s=s:=by
 unfold rest
 rw[restF,if_neg hz]
theorem takeText_calls (s:ByteArray)(most:Int)(w:World)(hs:s.size≤9223372036854775807)(hm:most≤9223372036854775807):
  Calls Tryz.prog 61 #[.string s,.int .i64 most] w fun e w'=>e= .returned (.tuple #[.string (takeText s most).1,.string (takeText s most).2.1,.int .i64 (takeText s most).2.2])∧Below w.heap.size w w':=
 QDec.dec_TakeText.calls (0+1) s most _ _ _ w (text_some 0 s most hs hm)
theorem refTakeText_calls (s:ByteArray)(most:Int)(w:World)(hs:s.size≤9223372036854775807)(hm:most≤9223372036854775807):
  Calls Tryz.prog 41 #[.string s,.int .i64 most] w fun e w'=>e= .returned (.tuple #[.string (takeText s most).1,.string (takeText s most).2.1,.int .i64 (takeText s most).2.2])∧Below w.heap.size w w':=
 QDec.stanchionref01_TakeText.calls (0+1) s most _ _ _ w (reft_some 0 s most hs hm)
end Go.Proofs.YtmgmdiekpmffbaaGreatDoor.Fr
namespace Go.Proofs.YtmgmdiekpmffbaaGreatDoor.Fr
open Go Go.RowKit Go.Shelf Go.Proofs.YtmgmdiekpmffbaaGreatDoor.DecM Go.Proofs.YtmgmdiekpmffbaaGreatDoor.Giv Go.Proofs.YtmgmdiekpmffbaaGreatDoor.DecPure Go.Proofs.YtmgmdiekpmffbaaGreatDoor.Range
attribute [local go_sem] Oper.semAt_some
theorem grown_of_below {A B:World}(h:Below A.heap.size A B)(row:Option Nat):A.grownBy B row:=⟨h.os,h.tape,h.output,h.size,fun k hk _=>h.block k hk⟩
theorem boxed_below {A B:World}{b t:Nat}{v:Value}(h:Boxed A b t v)(hb:Below A.heap.size A B):Boxed B b t v:=(hb.block b h.lt).trans h
def left (Bs:Nat)(W:World):Nat:=match W.cell? ⟨Bs,0,none⟩with
 |some (.string s)=>s.size
 |_=>0
theorem left_eq {Bs t:Nat}{W:World}{s:ByteArray}(h:Boxed W Bs t (.string s)):left Bs W=s.size:=by
 unfold left
 rw[h.cell]
theorem each_in (n l Bs:Nat)(s0:ByteArray)(hs:s0.size≤4611686018427387904)(J:List (ByteArray×ByteArray)→World→Prop)(hJ:∀s A B,J s A→A.grownBy B (some Bs)→J s B)
  (hY:∀pre x W1,J pre W1→pre.length<(pairs s0).length→YieldAt Fence.wide (n - 1) Tryz.prog l #[.string x.1,.string x.2] W1 fun e W'=>e= .returned (.bool true)∧J (pre++ [x]) W'∧W'.heap[Bs]? =W1.heap[Bs]?)
  (W:World) (hb0:Boxed W Bs 9 (.string s0)) (h0:J [] W):
  CallsIn Fence.wide n Tryz.prog 112 #[.func (.yield l) #[] #[],.pointer (some ⟨Bs,0,none⟩)] W fun e W'=>(∃v,e= .returned v)∧J (pairs s0) W':=by
 refine callsIn_of_wp Tryz.func112 rfl trivial ?_ rfl
 simp only[Tryz.ntmps112,List.size_toArray,List.length_cons,List.length_nil,Nat.reduceAdd,Nat.reduceSub,Array.replicate_succ,Array.replicate_zero,List.push_toArray,List.append_toArray,List.nil_append,List.cons_append]
 have HJ:=Lib.hid hJ
 have HY:=Lib.hid hY
 clear hJ hY
 gi_wp2
 gi_loopw [3] (fun _ wr=>∃(pre:List (ByteArray×ByteArray)) (cur:ByteArray),Hid (pairs s0=pre++pairs cur)∧Hid (Boxed wr Bs 9 (.string cur))∧Hid (J pre wr)∧Hid (cur.size≤s0.size))
  (fun _ wr=>left Bs wr)
 case atStart=>exact⟨[],s0,Lib.hid rfl,Lib.hid hb0,Lib.hid h0,Lib.hid (Nat.le_refl _)⟩
 case round=>
  obtain⟨pre,cur,HP,HB,HJc,HL⟩:=hrel
  have HT:=Lib.hid fun w=>takeText_calls cur 2048 w (by have:=HL.out;omega) (by omega)
  by_cases hz:(takeText cur 2048).2.2=0
  ·have hlt:=Lib.hid (text_lt cur 2048 hz)
   have hpo:=Lib.hid (pairs_ok hz)
   generalize takeText cur 2048=r at HT hlt hpo hz
   obtain⟨t,rr,z⟩:=r
   simp only at hz
   subst hz
   have hc:=HB.out.cell
   gi_wp2_with (refine⟨trivial,(fun h=>absurd h (by decide)),?_⟩;gi_at_call 61;refine(callsIn_wide.2 (HT.out _)).mono ?_;rintro e w1 ⟨rfl,hb1⟩;have HB1:=Lib.hid (boxed_below HB.out hb1);have HJ1:=Lib.hid (HJ.out _ _ _ HJc.out (grown_of_below hb1 _));clear hb1 hc;obtain⟨fn,tmps,assign,body,hy,hR⟩:=HY.out pre (t,rr) w1 HJ1.out (by rw[HP.out,hpo.out];simp))
   refine⟨(fun h=>absurd h (by decide)),?_⟩
   refine hR.mono ?_
   rintro e W3 ⟨rfl,hJ3,hB3⟩
   have HB3:=Lib.hid (show Boxed W3 Bs 9 (.string cur)from hB3.trans HB1.out)
   have HJ3:=Lib.hid hJ3
   have c3:=HB3.out.cell
   have f3:=HB3.out.frozen
   clear hJ3 hB3 hR hy
   gi_wp2
   go_roundw
   case rel=>exact⟨pre++ [(t,rr)],rr,Lib.hid (by rw[HP.out,hpo.out];simp),Lib.hid (HB3.out.set _),Lib.hid (HJ.out _ _ _ HJ3.out (grownBy_setCell' _ _ _)),Lib.hid (by have:=hlt.out;have:=HL.out;omega)⟩
   case measure=>rw [left_eq (HB3.out.set _),left_eq HB.out];exact hlt.out
  ·have hpn:=Lib.hid (pairs_no hz)
   generalize takeText cur 2048=r at HT hpn hz
   obtain⟨t,rr,z⟩:=r
   simp only at hz
   have hz1:(z==0)=false:=by simpa using hz
   have hz2:(z != 0)=true:=by simpa using hz
   have hc:=HB.out.cell
   clear hz
   gi_wp2_with (refine⟨trivial,(fun h=>absurd h (by decide)),?_⟩;gi_at_call 61;refine(callsIn_wide.2 (HT.out _)).mono ?_;rintro e w1 ⟨rfl,hb1⟩;have HJ1:=Lib.hid (HJ.out _ _ _ HJc.out (grown_of_below hb1 _));clear hb1 hc)
   refine⟨(fun _ h=>(by cases h)),?_⟩
   gi_wp2
   refine bodyPost_ret (results_none rfl _ _ _) rfl ?_
   exact⟨⟨_,rfl⟩,by rw[HP.out,hpn.out,List.append_nil];exact HJ1.out⟩
theorem each_st (n Bs:Nat)(s0:ByteArray)(hs:s0.size≤4611686018427387904)(w:World)(hb:Boxed w Bs 9 (.string s0)):
  SeqSt Fence.wide n Tryz.prog 112 #[.pointer (some ⟨Bs,0,none⟩)] (fun x:ByteArray×ByteArray=>#[.string x.1,.string x.2]) Bs (pairs s0) w:=
 fun l J W hW hJ hY h0=>each_in n l Bs s0 hs J hJ hY W (hW.trans hb) h0
theorem each_calls (s:ByteArray)(w:World):
  Calls Tryz.prog 60 #[.string s] w fun e w'=>e= .returned (.func (.func 112) #[] #[.pointer (some ⟨w.heap.size,0,none⟩)])∧w'=w.alloc (.cells #[.string s] 9):=by
 go_enter Tryz.func60,Tryz.ntmps60
 go_wp2
 go_ret
 exact⟨rfl,rfl⟩
theorem infoStr:(Tryz.prog.info? 9).map (fun i=>(i.zero,i.size,i.bytes))=some (some (.string ByteArray.empty),1,16):=by kernel_rfl
end Go.Proofs.YtmgmdiekpmffbaaGreatDoor.Fr
namespace Go.Proofs.YtmgmdiekpmffbaaGreatDoor.Fr
open Go Go.RowKit Go.Shelf Go.Proofs.YtmgmdiekpmffbaaGreatDoor.DecM Go.Proofs.YtmgmdiekpmffbaaGreatDoor.Giv Go.Proofs.YtmgmdiekpmffbaaGreatDoor.DecPure Go.Proofs.YtmgmdiekpmffbaaGreatDoor.Range Go.Proofs.YtmgmdiekpmffbaaGreatDoorW.PrintWords
attribute [local go_sem] Oper.semAt_some
theorem own_lower {w:World}{D B:Nat}{e:TypeId}{size n:Nat}{v:Value}{xs:List Value}(h:w.ownsRow D e size v n xs)(hB:B≤D):w.ownsRow B e size v n xs:=by
 obtain⟨h1,h2⟩:=h
 refine⟨h1,h2.imp id ?_⟩
 rintro⟨g,cap,cur,e1,hg,r⟩
 exact⟨g,cap,cur,e1,Nat.le_trans hB hg,r⟩
theorem own_at {w:World}{D:Nat}{e:TypeId}{size n:Nat}{v:Value}{xs:List Value}(h:w.ownsRow D e size v n xs):∀b,v.ownBlock=some b→D≤b:=by
 intro b hb
 rcases h.2 with⟨rfl,_⟩|⟨g,cap,cur,rfl,hg,_⟩
 ·simp [Value.ownBlock] at hb
 ·obtain rfl:g=b:=by simpa [Value.ownBlock] using hb
  exact hg
def Took (n₀ D Bl k:Nat)(xs:List Value)(t r:ByteArray)(W W':World):Prop:=
 KeepsOthers W W'∧Below n₀ W W'∧(∃v',Boxed W' Bl 84 v'∧W'.ownsRow D 9 1 v' (k+1) (xs++ [.string t]))∧Boxed W' (Bl+1) 9 (.string r)∧
  ∀b,b<D→b≠Bl→b≠Bl+1→W'.heap[b]? =W.heap[b]?
theorem took {n₀ D Bl k:Nat}{xs:List Value}{t r r0:ByteArray}{W w1:World}{v v':Value}{tmp:Obj}(hl:Boxed W Bl 84 v)(hrow:W.ownsRow D 9 1 v k xs)(hr:Boxed W (Bl+1) 9 (.string r0))
  (h0:n₀≤Bl) (h1:Bl+1<D) (h2:D≤W.heap.size) (hown':w1.ownsRow D 9 1 v' (k+1) (xs++ [.string t])) (hg:(W.alloc tmp).grownBy w1 v.ownBlock):
  (Boxed w1 Bl 84 v∧Boxed (w1.setCell ⟨Bl,0,none⟩ v') (Bl+1) 9 (.string r0))∧Took n₀ D Bl k xs t r W ((w1.setCell ⟨Bl,0,none⟩ v').setCell ⟨Bl+1,0,none⟩ (.string r)):=by
 have keep:∀b,b<D→w1.heap[b]? =W.heap[b]? :=fun b hb=>
  (hg.block b (by rw[World.size_alloc];omega) (fun e=>by have:=own_at hrow b e.symm;omega)).trans (Below.heap_alloc W tmp b (by omega))
 have b1:Boxed w1 Bl 84 v:=(keep Bl (by omega)).trans hl
 have b2:Boxed w1 (Bl+1) 9 (.string r0):=(keep (Bl+1) h1).trans hr
 have g1:=grownBy_setCell' w1 Bl v'
 have b3:Boxed (w1.setCell ⟨Bl,0,none⟩ v') (Bl+1) 9 (.string r0):=b2.kept g1 (fun e=>by cases e)
 have b4:=b1.set v'
 have g2:=grownBy_setCell' (w1.setCell ⟨Bl,0,none⟩ v') (Bl+1) (.string r)
 have b5:=b4.kept g2 (fun e=>by cases e)
 have o1:(w1.setCell ⟨Bl,0,none⟩ v').ownsRow D 9 1 v' (k+1) (xs++ [.string t]):=own_move hown' (fun b hb=>g1.block b (by
  have h:=own_at hown' b hb
  rcases hown'.2 with⟨rfl,h⟩|⟨g,cap,cur,rfl,hg,hh,_⟩
  ·simp at h
  ·obtain rfl:g=b:=by simpa [Value.ownBlock] using hb
   exact(Array.getElem?_eq_some_iff.1 hh).1) (fun e=>by have:=own_at hown' b hb;cases e;omega))
 have o2:((w1.setCell ⟨Bl,0,none⟩ v').setCell ⟨Bl+1,0,none⟩ (.string r)).ownsRow D 9 1 v' (k+1) (xs++ [.string t]):=own_move o1 (fun b hb=>g2.block b (by
  rcases o1.2 with⟨rfl,h⟩|⟨g,cap,cur,rfl,hg,hh,_⟩
  ·simp at h
  ·obtain rfl:g=b:=by simpa [Value.ownBlock] using hb
   exact(Array.getElem?_eq_some_iff.1 hh).1) (fun e=>by have:=own_at hown' b hb;cases e;omega))
 have s1:W.heap.size≤w1.heap.size:=by have:=hg.size;rw[World.size_alloc] at this;omega
 refine⟨⟨b1,b3⟩,?_,?_,⟨v',b5,o2⟩,b3.set _,?_⟩
 ·refine(((KeepsOthers.alloc W tmp).trans (KeepsOthers.of_grownBy hg fun j o ej hj=>?_)).trans (KeepsOthers.setCell _ _ _)).trans (KeepsOthers.setCell _ _ _)
  rcases(hrow.alloc tmp).2 with⟨rfl,_⟩|⟨g,cap,cur,rfl,_,hgb,_⟩
  ·simp [Value.ownBlock] at ej
  ·obtain rfl:g=j:=by simpa [Value.ownBlock] using ej
   rw[hgb] at hj
   cases hj
   rfl
 ·have h:=(((Below.refl n₀ W).alloc (by omega) tmp).grown hg (by rw[World.size_alloc];omega) (fun j ej=>by have:=own_at hrow j ej;omega))
  exact(h.grown g1 (by omega) (fun j ej=>by cases ej;omega)).grown g2 (by have:=g1.size;omega) (fun j ej=>by cases ej;omega)
 ·intro b hb hne1 hne2
  have e1:=g1.block b (by omega) (fun e=>hne1 (by cases e;rfl))
  have e2:=g2.block b (by have:=g1.size;omega) (fun e=>hne2 (by cases e;rfl))
  exact e2.trans (e1.trans (keep b hb))
theorem take1_calls (n₀ D Bl k:Nat)(xs:List Value)(t r r0:ByteArray)(W:World)(v:Value)(hl:Boxed W Bl 84 v)(hrow:W.ownsRow D 9 1 v k xs)(hr:Boxed W (Bl+1) 9 (.string r0))
  (h0:n₀≤Bl) (h1:Bl+1<D) (h2:D≤W.heap.size) (hk:k≤4398046511104):
  Calls Tryz.prog 59 #[.string t,.string r,.pointer (some ⟨Bl,0,none⟩),.pointer (some ⟨Bl+1,0,none⟩)] W fun e W'=>e= .returned (.tuple #[])∧Took n₀ D Bl k xs t r W W':=by
 obtain⟨i0,hi,hz0,hz1,hz2⟩:=info_parts infoStr
 have hc:=hl.cell
 have HL:=Lib.hid hl
 have HR:=Lib.hid hr
 have HO:=Lib.hid hrow
 clear hl hr hrow
 go_enter Tryz.func59,Tryz.ntmps59
 go_wp2_with (at_builtin;refine wpList_append_own _ rfl _ _ 84 rfl D 9 i0 (.string ByteArray.empty) 1 16 Tryz.underlying84 hi hz0 hz1 hz2 rfl (by decide) _ _ _ rfl (HO.out.alloc _) ⟨W.heap.size,0,none⟩ 1 1 [.string t] rfl rfl (cell_one_new _ _ _) (by simp[Value.oneCell']) (by unfold maxLen;omega) (by omega) (by simp;omega) ?_;intro v' w1 hown' hgrow _;obtain⟨g',cap',rfl⟩:=ownsRow_succ hown';obtain⟨⟨hv1,hv3⟩,HT⟩:=took (r:=r) HL.out HO.out HR.out h0 h1 h2 hown' hgrow;have HT:=Lib.hid HT;have hc1:=hv1.cell;have hf1:=hv1.frozen;have hc3:=hv3.cell;have hf3:=hv3.frozen;clear hv1 hv3 hown' hgrow hc)
 go_end0
 exact⟨rfl,HT.out⟩
end Go.Proofs.YtmgmdiekpmffbaaGreatDoor.Fr
namespace Go.Proofs.YtmgmdiekpmffbaaGreatDoor.Fr
open Go Go.RowKit Go.Shelf Go.Proofs.YtmgmdiekpmffbaaGreatDoor.DecM Go.Proofs.YtmgmdiekpmffbaaGreatDoor.Giv Go.Proofs.YtmgmdiekpmffbaaGreatDoor.DecPure Go.Proofs.YtmgmdiekpmffbaaGreatDoor.Range Go.Proofs.YtmgmdiekpmffbaaGreatDoorW.PrintWords
attribute [local go_sem] Oper.semAt_some
def lastR (s:ByteArray)(pre:List (ByteArray×ByteArray)):ByteArray:=match pre.getLast? with
 |some x=>x.2
 |none=>s
theorem lastR_snoc (s:ByteArray)(pre:List (ByteArray×ByteArray))(x:ByteArray×ByteArray):lastR s (pre++ [x])=x.2:=by
 simp[lastR]
theorem lastR_cons (s t r:ByteArray)(l:List (ByteArray×ByteArray)):lastR s ((t,r) :: l)=lastR r l:=by
 unfold lastR
 cases l with
 |nil=>rfl
 |cons y l=>
  obtain⟨z,hz⟩:∃z,(y :: l).getLast? =some z:=⟨_,List.getLast?_eq_some_getLast (by simp)⟩
  rw[List.getLast?_cons_cons,hz]
theorem lastR_all:∀(k:Nat) (s:ByteArray),s.size<k→lastR s (pairs s)=rest s:=by
 intro k
 induction k with
 |zero=>intro s h;omega
 |succ k ih=>
  intro s h
  by_cases hz:(takeText s 2048).2.2=0
  ·have hlt:=text_lt s 2048 hz
   rw[pairs_ok hz,rest_ok hz,lastR_cons]
   exact ih _ (by omega)
  ·rw [pairs_no hz,rest_no hz]
   rfl
theorem pairs_len:∀(k:Nat) (s:ByteArray),s.size<k→(pairs s).length+(rest s).size≤s.size:=by
 intro k
 induction k with
 |zero=>intro s h;omega
 |succ k ih=>
  intro s h
  by_cases hz:(takeText s 2048).2.2=0
  ·have hlt:=text_lt s 2048 hz
   have h2:=ih (takeText s 2048).2.1 (by omega)
   rw[pairs_ok hz,rest_ok hz,List.length_cons]
   omega
  ·rw [pairs_no hz,rest_no hz]
   simp
def txt (pre:List (ByteArray×ByteArray)):List Value:=pre.map fun x=> .string x.1
theorem txt_snoc (pre:List (ByteArray×ByteArray))(t r:ByteArray):txt (pre++ [(t,r)])=txt pre++ [.string t]:=by simp[txt]
def Inv (s:ByteArray)(w0:World)(pre:List (ByteArray×ByteArray))(W:World):Prop:=
 (∃v,Boxed W w0.heap.size 84 v∧W.ownsRow (w0.heap.size+4) 9 1 v pre.length (txt pre))∧Boxed W (w0.heap.size+1) 9 (.string (lastR s pre))∧
  Boxed W (w0.heap.size+1+1) 145 (.func (.func 59) #[] #[.pointer (some ⟨w0.heap.size,0,none⟩),.pointer (some ⟨w0.heap.size+1,0,none⟩)])∧Below w0.heap.size w0 W∧w0.heap.size+4≤W.heap.size
theorem box_keep {A B:World}{b t Bs D:Nat}{row:Option Nat}{v:Value}(h:Boxed A b t v)(hg:A.grownBy B row)(hb:b≠Bs)(hr:∀r,row=some r→r=Bs∨(D≤r∧∃o:Obj,A.heap[r]? =some o∧o.isCells=false)):Boxed B b t v:=by
 refine h.kept hg (fun e=>?_)
 rcases hr b e.symm with h1|⟨_,o,ho,hc⟩
 ·exact hb h1
 ·rw [show A.heap[b]? =_ from h] at ho
  cases ho
  cases hc
theorem inv_abide (s:ByteArray)(w0:World)(D:Nat)(hD:w0.heap.size≤D):Abide (w0.heap.size+1+1+1) D (Inv s w0):=by
 rintro pre A B row ⟨⟨v,h1,h2⟩,h3,h4,h5,h6⟩ hg hr
 refine⟨⟨v,box_keep h1 hg (by omega) hr,?_⟩,box_keep h3 hg (by omega) hr,box_keep h4 hg (by omega) hr,h5.grown hg (by omega) (fun k e=>by rcases hr k e with h|⟨h,_⟩ <;> omega),by have:=hg.size;omega⟩
 refine own_move h2 (fun b hb=>?_)
 have hge:=own_at h2 b hb
 obtain⟨cells,hc⟩:=own_typed h2 b hb
 refine hg.block b (Array.getElem?_eq_some_iff.1 hc).1 (fun e=>?_)
 rcases hr b e.symm with h|⟨_,o,ho,hn⟩
 ·omega
 ·rw [hc] at ho
  cases ho
  cases hn
theorem inv_step {s:ByteArray}{w0 W W':World}{pre:List (ByteArray×ByteArray)}{t r:ByteArray}{v:Value}(h4:Boxed W (w0.heap.size+1+1) 145 v)
  (h5:Below w0.heap.size w0 W) (h6:w0.heap.size+4≤W.heap.size) (hv:v= .func (.func 59) #[] #[.pointer (some ⟨w0.heap.size,0,none⟩),.pointer (some ⟨w0.heap.size+1,0,none⟩)])
  (h:Took w0.heap.size (w0.heap.size+4) w0.heap.size pre.length (txt pre) t r W W'):RoundEnds (w0.heap.size+1+1+1) (Inv s w0) (pre++ [(t,r)]) W .normal W':=by
 obtain⟨k1,k2,⟨v',k3,k4⟩,k5,k6⟩:=h
 subst hv
 refine⟨rfl,k1,k6 _ (by omega) (by omega) (by omega),⟨v',k3,?_⟩,by rw[lastR_snoc];exact k5,(k6 _ (by omega) (by omega) (by omega)).trans h4,h5.trans k2,by have:=k2.size;omega⟩
 rw[txt_snoc,List.length_append]
 exact k4
def Whole (s:ByteArray)(w:World)(e:Ending)(w':World):Prop:=
 ∃v,e= .returned (.tuple #[v,.int .i64 ((s.size:Int) - ((rest s).size:Int)),.bool ((takeText (rest s) 2048).2.2==2)])∧w'.ownsRow w.heap.size 9 1 v (pairs s).length (txt (pairs s))∧Below w.heap.size w w'
theorem whole_in (s:ByteArray)(w:World)(hs:s.size≤1099511627776):CallsIn Fence.wide 5 Tryz.prog 31 #[.string s] w (Whole s w):=by
 have hpl:=pairs_len _ s (Nat.lt_succ_self _)
 have HLR:=Lib.hid (lastR_all _ s (Nat.lt_succ_self _))
 have HPL:=Lib.hid hpl
 have HT:=Lib.hid fun w=>takeText_calls (rest s) 2048 w (by omega) (by omega)
 have HW:Hid (∀(v:Value) (w':World),w'.ownsRow w.heap.size 9 1 v (pairs s).length (txt (pairs s))→Below w.heap.size w w'→Whole s w (.returned (.tuple #[v,.int .i64 ((s.size:Int) - ((rest s).size:Int)),.bool ((takeText (rest s) 2048).2.2==2)])) w'):=Lib.hid fun v w' h1 h2=>⟨v,rfl,h1,h2⟩
 clear hpl
 refine callsIn_of_wp_marks Tryz.func31 rfl trivial ?_ rfl
 simp only[Tryz.ntmps31,List.size_toArray,List.length_cons,List.length_nil,Nat.reduceAdd,Nat.reduceSub,Array.replicate_succ,Array.replicate_zero,List.push_toArray,List.append_toArray,List.nil_append,List.cons_append]
 gi_wp2_with (refine⟨trivial,?_⟩;gi_at_call 60;refine(callsIn_wide.2 (each_calls s _)).mono ?_;rintro e w' ⟨rfl,rfl⟩)
 have b0:=(((Boxed.new w 84 (.slice none 0 0)).alloc (.cells #[.string s] 9)).alloc (.cells #[.func (.func 59) #[] #[.pointer (some ⟨w.heap.size,0,none⟩),.pointer (some ⟨w.heap.size+1,0,none⟩)]] 145)).alloc (.cells #[.string s] 9)
 have b1:=((Boxed.new (w.alloc (.cells #[.slice none 0 0] 84)) 9 (.string s)).alloc (.cells #[.func (.func 59) #[] #[.pointer (some ⟨w.heap.size,0,none⟩),.pointer (some ⟨w.heap.size+1,0,none⟩)]] 145)).alloc (.cells #[.string s] 9)
 have b2:=(Boxed.new ((w.alloc (.cells #[.slice none 0 0] 84)).alloc (.cells #[.string s] 9)) 145 (.func (.func 59) #[] #[.pointer (some ⟨w.heap.size,0,none⟩),.pointer (some ⟨w.heap.size+1,0,none⟩)])).alloc (.cells #[.string s] 9)
 have b3:=Boxed.new (((w.alloc (.cells #[.slice none 0 0] 84)).alloc (.cells #[.string s] 9)).alloc (.cells #[.func (.func 59) #[] #[.pointer (some ⟨w.heap.size,0,none⟩),.pointer (some ⟨w.heap.size+1,0,none⟩)]] 145)) 9 (.string s)
 simp only[World.size_alloc] at b1 b2 b3
 have hB:Below w.heap.size w ((((w.alloc (.cells #[.slice none 0 0] 84)).alloc (.cells #[.string s] 9)).alloc (.cells #[.func (.func 59) #[] #[.pointer (some ⟨w.heap.size,0,none⟩),.pointer (some ⟨w.heap.size+1,0,none⟩)]] 145)).alloc (.cells #[.string s] 9)):=
  ((((Below.refl _ w).alloc (Nat.le_refl _) _).alloc (by simp) _).alloc (by simp;omega) _).alloc (by simp;omega) _
 refine range_st (Bs:=w.heap.size+1+1+1) rfl (by omega) (gf:=112) (lb:=#[.pointer (some ⟨w.heap.size+1+1+1,0,none⟩)]) rfl trivial (enters_of Tryz.func112 (by kernel_rfl) rfl)
  (each_st _ _ s (by omega) _ b3) (by simp) (fun _=>rfl) (Inv s w) (inv_abide s w _ (by simp;omega))
  ⟨⟨_,b0,World.ownsRow_nil _ _ _ _⟩,b1,b2,hB,by simp⟩
  (fun x=> { tmps:=#[.string s,undef,.slice none 0 0,.int .i64 0,.bool false,.pointer (some ⟨w.heap.size,0,none⟩),.pointer (some ⟨w.heap.size+1,0,none⟩),.pointer (some ⟨w.heap.size+1+1,0,none⟩),.string x.1,.string x.2,undef,undef,undef,.string s,.func (.func 59) #[] #[.pointer (some ⟨w.heap.size,0,none⟩),.pointer (some ⟨w.heap.size+1,0,none⟩)],.string s,.func (.func 112) #[] #[.pointer (some ⟨w.heap.size+1+1+1,0,none⟩)],.string x.1,.string x.2,undef,undef,undef,undef,undef,undef,undef,undef,undef,undef,undef,undef,undef,undef,undef,undef,undef,undef],defers:= [] }) ?assign ?body ?done
 case assign=>
  intro l x W K hK
  gi_wp2
  exact hK
 case body=>
  rintro l pre ⟨t,r⟩ W ⟨⟨v,h1,h2⟩,h3,h4,h5,h6⟩ hlt
  have hc:=h4.cell
  have H4:=Lib.hid h4
  have H5:=Lib.hid h5
  have H6:=Lib.hid h6
  have HC:=Lib.hid (take1_calls w.heap.size (w.heap.size+4) w.heap.size pre.length (txt pre) t r _ W v h1 h2 h3 (Nat.le_refl _) (by omega) h6 (by have:=HPL.out;omega))
  clear h1 h2 h3 h4 h5 h6 b0 b1 b2 b3 hB
  gi_wp2_with (refine⟨trivial,?_⟩;gi_at_call 59;refine(CallsIn.inRound l (callsIn_wide.2 HC.out)).mono ?_;rintro e w' ⟨rfl,h⟩;have HK:=Lib.hid h;clear h hc)
  exact inv_step H4.out H5.out H6.out rfl HK.out
 case done=>
  rintro D W hD ⟨⟨v,h1,h2⟩,h3,h4,h5,h6⟩ hK
  rw[HLR.out] at h3
  have hpl:=HPL.out
  have hRs:(rest s).size≤s.size:=by omega
  clear b0 b1 b2 b3 hB HLR HPL h4 h6 hpl
  generalize rest s=R at *
  generalize takeText R 2048=q at HT HW
  obtain⟨q1,q2,z⟩:=q
  have hc:=h3.cell
  have H1:=Lib.hid h1
  have H2:=Lib.hid h2
  have H3:=Lib.hid h3
  have H5:=Lib.hid h5
  have HKK:=Lib.hid hK
  have HD:=Lib.hid hD
  clear h1 h2 h3 h5 hK hD
  gi_wp2_with (refine⟨trivial,?_⟩;gi_at_call 61;refine(callsIn_wide.2 (HT.out _)).mono ?_;rintro e w2 ⟨rfl,hb2⟩;have HB2:=Lib.hid hb2;have c1:=(boxed_below H1.out hb2).cell;have c3:=(boxed_below H3.out hb2).cell;clear hb2 hc)
  have hsub:IntKind.i64.wrap ((s.size:Int) - (R.size:Int))=(s.size:Int) - (R.size:Int):=by
   rw[IntKind.wrap_i64]
   omega
  have hsub2:0≤(s.size:Int) - (R.size:Int):=by omega
  gi_quiet (fail)
  have hKd:(w2.drewN nq).heap[D]? =some (.deferred (some [])):=by
   rw[World.heap_drewN]
   exact(HB2.out.block D (Array.getElem?_eq_some_iff.1 HKK.out).1).trans HKK.out
  have hown:((w2.drewN nq).putObj D (.deferred none)).ownsRow w.heap.size 9 1 v (pairs s).length (txt (pairs s)):=by
   refine own_lower (B:=w.heap.size) (ownsRow_putObj (own_move (w1:=w2.drewN nq) H2.out (fun k hk=>?_)) _ hKd rfl) (by omega)
   obtain⟨cells,hc⟩:=own_typed H2.out k hk
   rw[World.heap_drewN]
   exact HB2.out.block k (Array.getElem?_eq_some_iff.1 hc).1
  have hbel:Below w.heap.size w ((w2.drewN nq).putObj D (.deferred none)):=by
   have hd:=HD.out
   simp only[World.size_alloc] at hd
   refine((H5.out.trans (HB2.out.mono H5.out.size)).trans (⟨rfl,rfl,rfl,Nat.le_refl _,fun _ _=>rfl⟩:Below w.heap.size w2 (w2.drewN nq))).grown (grownBy_putObj' _ D _) ?_ (fun k e=>by cases e;omega)
   rw[World.heap_drewN]
   have h1:=H5.out.size
   have h2:=HB2.out.size
   omega
  gi_wp2
  refine⟨by simp,.inl ⟨_,_,rfl,run_takeDeferred hKd,?_⟩⟩
  exact⟨_,by simp[results,Tryz.results31,go_sem],HW.out v _ hown hbel⟩
theorem whole_calls (s:ByteArray)(w:World)(hs:s.size≤1099511627776):Calls Tryz.prog 31 #[.string s] w (Whole s w):=callsIn_wide.1 (whole_in s w hs)
end Go.Proofs.YtmgmdiekpmffbaaGreatDoor.Fr
namespace Go.Proofs.YtmgmdiekpmffbaaGreatDoor.QWi
open Go.RowKit Go.Proofs.YtmgmdiekpmffbaaGreatDoorW.PrintWords Go.Proofs.YtmgmdiekpmffbaaGreatDoorW.PrintLast Go.Proofs.YtmgmdiekpmffbaaGreatDoorW.PrintMore
attribute [local go_sem] max2_int min2_int max_two min_two max_three min_three max_four min_four
set_option linter.unusedVariables false
set_option linter.unusedSimpArgs false
theorem eqA312 (d:Nat)(w:World)(x0 y0:Int)(x1 y1:ByteArray)(x2 y2:ByteArray):
  (Op.equalIn (d+2) 312 (.agg #[.int .i64 x0,.string x1,.string x2]) (.agg #[.int .i64 y0,.string y1,.string y2])).run Tryz.prog w= .ok (x0==y0&&(x1.toList==y1.toList&&(x2.toList==y2.toList))) w:=by
 refine eqA_of Tryz.underlying312 (by kernel_rfl) ?_
 refine eqf_cons (by rfl) (by go_simp;rfl) (by go_simp;rfl) (by go_simp) ?_
 refine eqf_cons (by rfl) (by go_simp;rfl) (by go_simp;rfl) (by go_simp) ?_
 exact eqf_last (by rfl) (by go_simp;rfl) (by go_simp;rfl) (by go_simp)
end Go.Proofs.YtmgmdiekpmffbaaGreatDoor.QWi
