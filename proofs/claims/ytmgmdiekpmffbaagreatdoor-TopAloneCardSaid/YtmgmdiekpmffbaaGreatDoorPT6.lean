/- Part of the proof of the statement TopAlone, as a card; what is proved, and on which condition, stands at the head of YtmgmdiekpmffbaaGreatDoorPT20 (texts QWix12, GivFeed, State) -/
import Derived.Lib.ConvBytes
import Derived.Lib.SmallJoins
import Derived.Laws.CopyOwn
import Derived.OneCell
import Derived.Below
import Derived.Handy
import Derived.Test.YtmgmdiekpmffbaaGreatDoorPT3
import Derived.Test.YtmgmdiekpmffbaaGreatDoorPT4
import Derived.Test.YtmgmdiekpmffbaaGreatDoorPT5
set_option maxHeartbeats 64000000
set_option maxRecDepth 100000
set_option linter.unusedVariables false
set_option linter.unusedSimpArgs false
namespace Go.Proofs.YtmgmdiekpmffbaaGreatDoor.QWi
open Go.RowKit Go.Proofs.YtmgmdiekpmffbaaGreatDoorW.PrintWords Go.Proofs.YtmgmdiekpmffbaaGreatDoorW.PrintLast Go.Proofs.YtmgmdiekpmffbaaGreatDoorW.PrintMore
attribute [local go_sem] max2_int min2_int max_two min_two max_three min_three max_four min_four
set_option linter.unusedVariables false
set_option linter.unusedSimpArgs false
attribute [local go_sem high] eqA312
def span_empty.f (a0_0:Int)(a0_1:ByteArray)(a0_2:ByteArray):Option (Bool):=if a0_2.toList=([]:List UInt8)then (some false)else (some (!(Op.bytesLess a0_1.toList a0_2.toList)))
theorem span_empty.calls (a0_0:Int)(a0_1:ByteArray)(a0_2:ByteArray)(r:Bool)(w:World)(h:span_empty.f a0_0 a0_1 a0_2=some r):
  Calls Tryz.prog 239 #[.agg #[.int .i64 a0_0,.string a0_1,.string a0_2]] w fun e w'=>e= .returned (.bool r)∧Below w.heap.size w w':=by
 have hu312:=Tryz.underlying312
 have HB:=Aside0.mk (Below.refl w.heap.size w)
 have H:(if a0_2.toList=([]:List UInt8)then (some false)else (some (!(Op.bytesLess a0_1.toList a0_2.toList))))=some r:=h
 clear h
 by_cases c2:a0_2.toList=([]:List UInt8)
 ·rw [if_pos c2] at H
  have c2b0:(a0_2.toList==([]:List UInt8))=true:=beq_iff_eq.mpr c2
  have c2b1:(a0_2.toList != ([]:List UInt8))=false:=bne_eq_false_iff_eq.mpr c2
  clear c2
  obtain rfl:=Option.some.inj H
  go_enter Tryz.func239,Tryz.ntmps239
  go_wp2_with (first|((with_reducible refine gate_dst (N:=1) rfl ?_);refine box_event ?hg (N:=1) ?hd (cs:=#[.int .i64 a0_0,.string a0_1,.string a0_2]) (t:=312) ?hr ?_;(case hd=>rfl);(case hg=>rfl);(case hr=>first|(go_simp;done)|(go_simp;rfl));intro gb228 hg w3 hbox hb;have n0_:=Aside0.mk (below_step (by repeat (first|(with_reducible first|exact HB.out|apply below_alloc|apply pw_below_drewN|apply below_drew1)|exact HB.out)) hb);have n1_:=Aside0.mk (hbox);have n2_:=Aside0.mk ((by rw[hg];exact(below_size (by repeat (first|(with_reducible first|exact HB.out|apply below_alloc|apply pw_below_drewN|apply below_drew1)|exact HB.out))):w.heap.size≤gb228));have n3_:=Aside0.mk ((by rw[hg];exact(below_size (by repeat (first|(with_reducible first|exact HB.out|apply below_alloc|apply pw_below_drewN|apply below_drew1)|exact HB.out))):w.heap.size≤gb228));clear HB;have HB:=n0_;have BK228:=n1_;have GW228:=n2_;have GE228:=n3_;clear n0_ n1_ n2_ n3_;clear hb hbox hg;have hcz4_0:w3.cell? ⟨gb228,0,none⟩=some (.int .i64 a0_0):=(blk_cell BK228.out 0).trans rfl;have hcz4_1:w3.cell? ⟨gb228,1,none⟩=some (.string a0_1):=(blk_cell BK228.out 1).trans rfl;have hcz4_2:w3.cell? ⟨gb228,2,none⟩=some (.string a0_2):=(blk_cell BK228.out 2).trans rfl;have hfz4_0:=blk_frozen BK228.out 0;have hfz4_1:=blk_frozen BK228.out 1;have hfz4_2:=blk_frozen BK228.out 2))
  go_ret
  exact⟨by first|rfl|(simp[errW_none,errW_some] <;> rfl)|(simp[*,errW_none,errW_some] <;> rfl),by repeat (first|(with_reducible first|exact HB.out|apply below_alloc|apply pw_below_drewN|apply below_drew1|refine below_set ?_ GE228.out)|exact HB.out)⟩
 ·rw [if_neg c2] at H
  have c2b0:(a0_2.toList==([]:List UInt8))=false:=beq_eq_false_iff_ne.mpr c2
  have c2b1:(a0_2.toList != ([]:List UInt8))=true:=bne_iff_ne.mpr c2
  obtain rfl:=Option.some.inj H
  go_enter Tryz.func239,Tryz.ntmps239
  go_wp2_with (first|((with_reducible refine gate_dst (N:=1) rfl ?_);refine box_event ?hg (N:=1) ?hd (cs:=#[.int .i64 a0_0,.string a0_1,.string a0_2]) (t:=312) ?hr ?_;(case hd=>rfl);(case hg=>rfl);(case hr=>first|(go_simp;done)|(go_simp;rfl));intro gb228 hg w5 hbox hb;have n0_:=Aside0.mk (below_step (by repeat (first|(with_reducible first|exact HB.out|apply below_alloc|apply pw_below_drewN|apply below_drew1)|exact HB.out)) hb);have n1_:=Aside0.mk (hbox);have n2_:=Aside0.mk ((by rw[hg];exact(below_size (by repeat (first|(with_reducible first|exact HB.out|apply below_alloc|apply pw_below_drewN|apply below_drew1)|exact HB.out))):w.heap.size≤gb228));have n3_:=Aside0.mk ((by rw[hg];exact(below_size (by repeat (first|(with_reducible first|exact HB.out|apply below_alloc|apply pw_below_drewN|apply below_drew1)|exact HB.out))):w.heap.size≤gb228));clear HB;have HB:=n0_;have BK228:=n1_;have GW228:=n2_;have GE228:=n3_;clear n0_ n1_ n2_ n3_;clear hb hbox hg;have hcz6_0:w5.cell? ⟨gb228,0,none⟩=some (.int .i64 a0_0):=(blk_cell BK228.out 0).trans rfl;have hcz6_1:w5.cell? ⟨gb228,1,none⟩=some (.string a0_1):=(blk_cell BK228.out 1).trans rfl;have hcz6_2:w5.cell? ⟨gb228,2,none⟩=some (.string a0_2):=(blk_cell BK228.out 2).trans rfl;have hfz6_0:=blk_frozen BK228.out 0;have hfz6_1:=blk_frozen BK228.out 1;have hfz6_2:=blk_frozen BK228.out 2))
  go_ret
  exact⟨by first|rfl|(simp[errW_none,errW_some] <;> rfl)|(simp[*,errW_none,errW_some] <;> rfl),by repeat (first|(with_reducible first|exact HB.out|apply below_alloc|apply pw_below_drewN|apply below_drew1|refine below_set ?_ GE228.out)|exact HB.out)⟩
def span_May.j0:Nat→Bool→Int→ByteArray→ByteArray→Option (Bool)
 |0,_,_,_,_=>none
 |k+1,x3,x230000,x230001,x230002=>if x3=true then(some false)else ((span_empty.f x230000 x230001 x230002).bind fun t230=>(if t230=true then(some false)else (some true)))
def span_May.f (k:Nat)(a0_0:Int)(a0_1:ByteArray)(a0_2:ByteArray):Option (Bool):=if a0_0=1 then(span_May.j0 k false a0_0 a0_1 a0_2)else (span_May.j0 k (a0_0 != 2) a0_0 a0_1 a0_2)
theorem span_May.calls (k:Nat)(a0_0:Int)(a0_1:ByteArray)(a0_2:ByteArray)(r:Bool)(w:World)(h:span_May.f k a0_0 a0_1 a0_2=some r):
  Calls Tryz.prog 214 #[.agg #[.int .i64 a0_0,.string a0_1,.string a0_2]] w fun e w'=>e= .returned (.bool r)∧Below w.heap.size w w':=by
 have hu312:=Tryz.underlying312
 have HB:=Aside0.mk (Below.refl w.heap.size w)
 have H:(if a0_0=1 then(span_May.j0 k false a0_0 a0_1 a0_2)else (span_May.j0 k (a0_0 != 2) a0_0 a0_1 a0_2))=some r:=h
 clear h
 have HC2:=Aside0.mk H
 clear H
 go_enter Tryz.func214,Tryz.ntmps214
 go_upto_region 1 with(first|((with_reducible refine gate_dst (N:=1) rfl ?_);refine box_event ?hg (N:=1) ?hd (cs:=#[.int .i64 a0_0,.string a0_1,.string a0_2]) (t:=312) ?hr ?_;(case hd=>rfl);(case hg=>rfl);(case hr=>first|(go_simp;done)|(go_simp;rfl));intro gb229 hg w3 hbox hb;have n0_:=Aside0.mk (below_step (by repeat (first|(with_reducible first|exact HB.out|apply below_alloc|apply pw_below_drewN|apply below_drew1)|exact HB.out)) hb);have n1_:=Aside0.mk (hbox);have n2_:=Aside0.mk ((by rw[hg];exact(below_size (by repeat (first|(with_reducible first|exact HB.out|apply below_alloc|apply pw_below_drewN|apply below_drew1)|exact HB.out))):w.heap.size≤gb229));have n3_:=Aside0.mk ((by rw[hg];exact(below_size (by repeat (first|(with_reducible first|exact HB.out|apply below_alloc|apply pw_below_drewN|apply below_drew1)|exact HB.out))):w.heap.size≤gb229));clear HB;have HB:=n0_;have BK229:=n1_;have GW229:=n2_;have GE229:=n3_;clear n0_ n1_ n2_ n3_;clear hb hbox hg))
 (try simp only[Act.put,List.setIfInBounds_toArray,List.set_cons_zero,List.set_cons_succ])
 go_cut [3] (fun v3 wc=>∃(kq:Nat) (x3_1:Bool),v3= .bool x3_1∧Aside0 (span_May.j0 kq x3_1 a0_0 a0_1 a0_2=some r)∧Aside0 (kq≤k)∧Aside0 (wc.heap[gb229]? =some (.cells #[.int .i64 a0_0,.string a0_1,.string a0_2] 312 (0,0)))∧Aside0 (Below w.heap.size w wc))
 case first=>
  have H:=HC2.out
  clear HC2
  by_cases c4:a0_0=1
  ·rw [if_pos c4] at H
   have c4b0:(a0_0==1)=true:=beq_iff_eq.mpr c4
   have c4b1:(a0_0 != 1)=false:=bne_eq_false_iff_eq.mpr c4
   clear c4
   (first|rw[c4b0]|(simp only[i64_w,i32_w];rw[c4b0])|skip)
   have H':=Aside0.mk H
   clear H
   have hcz5_0:w3.cell? ⟨gb229,0,none⟩=some (.int .i64 a0_0):=(blk_cell BK229.out 0).trans rfl
   have hcz5_1:w3.cell? ⟨gb229,1,none⟩=some (.string a0_1):=(blk_cell BK229.out 1).trans rfl
   have hcz5_2:w3.cell? ⟨gb229,2,none⟩=some (.string a0_2):=(blk_cell BK229.out 2).trans rfl
   have hfz5_0:=blk_frozen BK229.out 0
   have hfz5_1:=blk_frozen BK229.out 1
   have hfz5_2:=blk_frozen BK229.out 2
   go_wp2
   go_meet
   case rel=>exact⟨_,(false),(by first|rfl|(simp;done)|(simp[*];done)),H',⟨by first|omega|exact Nat.le_refl _⟩,⟨by(with_reducible repeat (first|refine blk_drewN ?_ _|refine blk_drew ?_|refine blk_alloc ?_ _));exact BK229.out⟩,⟨by repeat (first|(with_reducible first|exact HB.out|apply below_alloc|apply pw_below_drewN|apply below_drew1|refine below_set ?_ GE229.out)|exact HB.out)⟩⟩
  ·rw [if_neg c4] at H
   have c4b0:(a0_0==1)=false:=beq_eq_false_iff_ne.mpr c4
   have c4b1:(a0_0 != 1)=true:=bne_iff_ne.mpr c4
   (first|rw[c4b0]|(simp only[i64_w,i32_w];rw[c4b0])|skip)
   have H':=Aside0.mk H
   clear H
   have hcz6_0:w3.cell? ⟨gb229,0,none⟩=some (.int .i64 a0_0):=(blk_cell BK229.out 0).trans rfl
   have hcz6_1:w3.cell? ⟨gb229,1,none⟩=some (.string a0_1):=(blk_cell BK229.out 1).trans rfl
   have hcz6_2:w3.cell? ⟨gb229,2,none⟩=some (.string a0_2):=(blk_cell BK229.out 2).trans rfl
   have hfz6_0:=blk_frozen BK229.out 0
   have hfz6_1:=blk_frozen BK229.out 1
   have hfz6_2:=blk_frozen BK229.out 2
   go_wp2
   go_meet
   case rel=>exact⟨_,((a0_0 != 2)),(by first|rfl|(simp;done)|(simp[*];done)),H',⟨by first|omega|exact Nat.le_refl _⟩,⟨by(with_reducible repeat (first|refine blk_drewN ?_ _|refine blk_drew ?_|refine blk_alloc ?_ _));exact BK229.out⟩,⟨by repeat (first|(with_reducible first|exact HB.out|apply below_alloc|apply pw_below_drewN|apply below_drew1|refine below_set ?_ GE229.out)|exact HB.out)⟩⟩
 case rest=>
  clear HC2
  try clear c2
  try clear p2
  try clear c4
  try clear c4b0
  try clear c4b1
  try clear hcz5_0
  try clear hcz5_1
  try clear hcz5_2
  try clear hcz6_0
  try clear hcz6_1
  try clear hcz6_2
  try clear hfz5_0
  try clear hfz5_1
  try clear hfz5_2
  try clear hfz6_0
  try clear hfz6_1
  try clear hfz6_2
  obtain⟨kq,x3_1,rfl,HA,HJ1,BK229,HB⟩:=hcut
  cases kq with
  |zero=>exact absurd HA.out (by simp[span_May.j0])
  |succ kj1=>
   have H:=HA.out
   clear HA
   simp only[span_May.j0] at H
   by_cases c7:x3_1=true
   ·subst c7
    have H1:(some false)=some r:=by rw[if_pos rfl] at H;exact H
    clear H
    have H:=H1
    clear H1
    obtain rfl:=Option.some.inj H
    go_wp2
    go_ret
    exact⟨by first|rfl|(simp[errW_none,errW_some] <;> rfl)|(simp[*,errW_none,errW_some] <;> rfl),by repeat (first|(with_reducible first|exact HB.out|apply below_alloc|apply pw_below_drewN|apply below_drew1|refine below_set ?_ GE229.out)|exact HB.out)⟩
   ·replace c7:=Bool.eq_false_iff.mpr c7
    subst c7
    have H1:((span_empty.f a0_0 a0_1 a0_2).bind fun t230=>(if t230=true then(some false)else (some true)))=some r:=by rw[if_neg (show¬(false=true)by decide)] at H;exact H
    clear H
    have H:=H1
    clear H1
    replace H:=Option.bind_eq_some_iff.mp H
    obtain⟨t230,A80,H⟩:=H
    replace H:(if t230=true then(some false)else (some true))=some r:=H
    have A8:=Aside0.mk A80
    clear A80
    by_cases c9:t230=true
    ·subst c9
     have H1:(some false)=some r:=by rw[if_pos rfl] at H;exact H
     clear H
     have H:=H1
     clear H1
     obtain rfl:=Option.some.inj H
     have hcz10_0:wc.cell? ⟨gb229,0,none⟩=some (.int .i64 a0_0):=(blk_cell BK229.out 0).trans rfl
     have hcz10_1:wc.cell? ⟨gb229,1,none⟩=some (.string a0_1):=(blk_cell BK229.out 1).trans rfl
     have hcz10_2:wc.cell? ⟨gb229,2,none⟩=some (.string a0_2):=(blk_cell BK229.out 2).trans rfl
     have hfz10_0:=blk_frozen BK229.out 0
     have hfz10_1:=blk_frozen BK229.out 1
     have hfz10_2:=blk_frozen BK229.out 2
     go_wp2_with (first|((with_reducible refine gate_callee (f:=239) rfl ?_);refine goesL_ (some 14) rfl rfl Tryz.func239 (by kernel_rfl) rfl #[.agg #[.int .i64 a0_0,.string a0_1,.string a0_2]] rfl (by(try simp only[List.map_toArray,List.map_cons,List.map_nil]);first|done|rfl|(simp only[List.length_drop,List.length_take];rfl)) ?_;(with_reducible refine(span_empty.calls a0_0 a0_1 a0_2 true _ A8.out).mono ?_);rintro e w11 ⟨rfl,hb⟩;refine⟨_,rfl,?_⟩;have n0_:=Aside0.mk (blk_below (g:=gb229) (o:= .cells #[.int .i64 a0_0,.string a0_1,.string a0_2] 312 (0,0)) (by(with_reducible repeat (first|refine blk_drewN ?_ _|refine blk_drew ?_|refine blk_alloc ?_ _));exact BK229.out) hb);have n1_:=Aside0.mk (below_step (by repeat (first|(with_reducible first|exact HB.out|apply below_alloc|apply pw_below_drewN|apply below_drew1|refine below_set ?_ GE229.out)|exact HB.out)) hb);clear BK229;clear HB;have BK229:=n0_;have HB:=n1_;clear n0_ n1_;(try clear hb);(try clear hb2);(try clear hk);(try clear hi)))
     go_ret
     exact⟨by first|rfl|(simp[errW_none,errW_some] <;> rfl)|(simp[*,errW_none,errW_some] <;> rfl),by repeat (first|(with_reducible first|exact HB.out|apply below_alloc|apply pw_below_drewN|apply below_drew1|refine below_set ?_ GE229.out)|exact HB.out)⟩
    ·replace c9:=Bool.eq_false_iff.mpr c9
     subst c9
     have H1:(some true)=some r:=by rw[if_neg (show¬(false=true)by decide)] at H;exact H
     clear H
     have H:=H1
     clear H1
     obtain rfl:=Option.some.inj H
     have hcz12_0:wc.cell? ⟨gb229,0,none⟩=some (.int .i64 a0_0):=(blk_cell BK229.out 0).trans rfl
     have hcz12_1:wc.cell? ⟨gb229,1,none⟩=some (.string a0_1):=(blk_cell BK229.out 1).trans rfl
     have hcz12_2:wc.cell? ⟨gb229,2,none⟩=some (.string a0_2):=(blk_cell BK229.out 2).trans rfl
     have hfz12_0:=blk_frozen BK229.out 0
     have hfz12_1:=blk_frozen BK229.out 1
     have hfz12_2:=blk_frozen BK229.out 2
     go_wp2_with (first|((with_reducible refine gate_callee (f:=239) rfl ?_);refine goesL_ (some 14) rfl rfl Tryz.func239 (by kernel_rfl) rfl #[.agg #[.int .i64 a0_0,.string a0_1,.string a0_2]] rfl (by(try simp only[List.map_toArray,List.map_cons,List.map_nil]);first|done|rfl|(simp only[List.length_drop,List.length_take];rfl)) ?_;(with_reducible refine(span_empty.calls a0_0 a0_1 a0_2 false _ A8.out).mono ?_);rintro e w13 ⟨rfl,hb⟩;refine⟨_,rfl,?_⟩;have n0_:=Aside0.mk (blk_below (g:=gb229) (o:= .cells #[.int .i64 a0_0,.string a0_1,.string a0_2] 312 (0,0)) (by(with_reducible repeat (first|refine blk_drewN ?_ _|refine blk_drew ?_|refine blk_alloc ?_ _));exact BK229.out) hb);have n1_:=Aside0.mk (below_step (by repeat (first|(with_reducible first|exact HB.out|apply below_alloc|apply pw_below_drewN|apply below_drew1|refine below_set ?_ GE229.out)|exact HB.out)) hb);clear BK229;clear HB;have BK229:=n0_;have HB:=n1_;clear n0_ n1_;(try clear hb);(try clear hb2);(try clear hk);(try clear hi)))
     go_ret
     exact⟨by first|rfl|(simp[errW_none,errW_some] <;> rfl)|(simp[*,errW_none,errW_some] <;> rfl),by repeat (first|(with_reducible first|exact HB.out|apply below_alloc|apply pw_below_drewN|apply below_drew1|refine below_set ?_ GE229.out)|exact HB.out)⟩
def span_Covers.j0:Nat→Bool→Int→ByteArray→ByteArray→Int→ByteArray→ByteArray→Option (Bool)
 |0,_,_,_,_,_,_,_=>none
 |k+1,x9,x232000,x232001,x232002,x233000,x233001,x233002=>if x9=true then(some false)else (if(x232000==x233000&&(x232001.toList==x233001.toList&&(x232002.toList==x233002.toList)))=true then(some true)else (if((Op.bytesLess x233001.toList x232001.toList)=true)then (some false)else (if x232002.toList=([]:List UInt8)then (some true)else (if x233002.toList=([]:List UInt8)then (some false)else (some (!(Op.bytesLess x232002.toList x233002.toList)))))))
def span_Covers.f (k:Nat)(a0_0:Int)(a0_1:ByteArray)(a0_2:ByteArray)(a1_0:Int)(a1_1:ByteArray)(a1_2:ByteArray):Option (Bool):=(span_May.f k a1_0 a1_1 a1_2).bind fun t233=>(if t233=true then(if a0_0=2 then(span_Covers.j0 k false a0_0 a0_1 a0_2 a1_0 a1_1 a1_2)else (span_Covers.j0 k (a1_0==2) a0_0 a0_1 a0_2 a1_0 a1_1 a1_2))else (some false))
theorem span_Covers.calls (k:Nat)(a0_0:Int)(a0_1:ByteArray)(a0_2:ByteArray)(a1_0:Int)(a1_1:ByteArray)(a1_2:ByteArray)(r:Bool)(w:World)(h:span_Covers.f k a0_0 a0_1 a0_2 a1_0 a1_1 a1_2=some r):
  Calls Tryz.prog 213 #[.agg #[.int .i64 a0_0,.string a0_1,.string a0_2],.agg #[.int .i64 a1_0,.string a1_1,.string a1_2]] w fun e w'=>e= .returned (.bool r)∧Below w.heap.size w w':=by
 have hu312:=Tryz.underlying312
 have HB:=Aside0.mk (Below.refl w.heap.size w)
 have H:((span_May.f k a1_0 a1_1 a1_2).bind fun t233=>(if t233=true then(if a0_0=2 then(span_Covers.j0 k false a0_0 a0_1 a0_2 a1_0 a1_1 a1_2)else (span_Covers.j0 k (a1_0==2) a0_0 a0_1 a0_2 a1_0 a1_1 a1_2))else (some false)))=some r:=h
 clear h
 replace H:=Option.bind_eq_some_iff.mp H
 obtain⟨t233,A30,H⟩:=H
 replace H:(if t233=true then(if a0_0=2 then(span_Covers.j0 k false a0_0 a0_1 a0_2 a1_0 a1_1 a1_2)else (span_Covers.j0 k (a1_0==2) a0_0 a0_1 a0_2 a1_0 a1_1 a1_2))else (some false))=some r:=H
 have A3:=Aside0.mk A30
 clear A30
 by_cases c4:t233=true
 ·subst c4
  have H1:(if a0_0=2 then(span_Covers.j0 k false a0_0 a0_1 a0_2 a1_0 a1_1 a1_2)else (span_Covers.j0 k (a1_0==2) a0_0 a0_1 a0_2 a1_0 a1_1 a1_2))=some r:=by rw[if_pos rfl] at H;exact H
  clear H
  have H:=H1
  clear H1
  have HC5:=Aside0.mk H
  clear H
  go_enter Tryz.func213,Tryz.ntmps213
  go_upto_region 2 with(first|((with_reducible refine gate_dst (N:=2) rfl ?_);refine box_event ?hg (N:=2) ?hd (cs:=#[.int .i64 a0_0,.string a0_1,.string a0_2]) (t:=312) ?hr ?_;(case hd=>rfl);(case hg=>rfl);(case hr=>first|(go_simp;done)|(go_simp;rfl));intro gb231 hg w6 hbox hb;have n0_:=Aside0.mk (below_step (by repeat (first|(with_reducible first|exact HB.out|apply below_alloc|apply pw_below_drewN|apply below_drew1)|exact HB.out)) hb);have n1_:=Aside0.mk (hbox);have n2_:=Aside0.mk ((by rw[hg];exact(below_size (by repeat (first|(with_reducible first|exact HB.out|apply below_alloc|apply pw_below_drewN|apply below_drew1)|exact HB.out))):w.heap.size≤gb231));have n3_:=Aside0.mk ((by rw[hg];exact(below_size (by repeat (first|(with_reducible first|exact HB.out|apply below_alloc|apply pw_below_drewN|apply below_drew1)|exact HB.out))):w.heap.size≤gb231));clear HB;have HB:=n0_;have BK231:=n1_;have GW231:=n2_;have GE231:=n3_;clear n0_ n1_ n2_ n3_;clear hb hbox hg)|((with_reducible refine gate_dst (N:=3) rfl ?_);refine box_event ?hg (N:=3) ?hd (cs:=#[.int .i64 a1_0,.string a1_1,.string a1_2]) (t:=312) ?hr ?_;(case hd=>rfl);(case hg=>rfl);(case hr=>first|(go_simp;done)|(go_simp;rfl));intro gb232 hg w7 hbox hb;have n0_:=Aside0.mk (blk_below (g:=gb231) (o:= .cells #[.int .i64 a0_0,.string a0_1,.string a0_2] 312 (0,0)) (by(with_reducible repeat (first|refine blk_drewN ?_ _|refine blk_drew ?_|refine blk_alloc ?_ _));exact BK231.out) hb);have n1_:=Aside0.mk (below_step (by repeat (first|(with_reducible first|exact HB.out|apply below_alloc|apply pw_below_drewN|apply below_drew1|refine below_set ?_ GE231.out)|exact HB.out)) hb);have n2_:=Aside0.mk (hbox);have n3_:=Aside0.mk ((by rw[hg];exact(below_size (by repeat (first|(with_reducible first|exact HB.out|apply below_alloc|apply pw_below_drewN|apply below_drew1|refine below_set ?_ GE231.out)|exact HB.out))):w.heap.size≤gb232));have n4_:=Aside0.mk ((by rw[hg];exact(below_size (by repeat (first|(with_reducible first|exact HB.out|apply below_alloc|apply pw_below_drewN|apply below_drew1|refine below_set ?_ GE231.out)|exact HB.out))):w.heap.size≤gb232));have n5_:=Aside0.mk ((by rw[hg];exact Nat.ne_of_lt (blk_lt (g:=gb231) (o:= .cells #[.int .i64 a0_0,.string a0_1,.string a0_2] 312 (0,0)) (by(with_reducible repeat (first|refine blk_drewN ?_ _|refine blk_drew ?_|refine blk_alloc ?_ _));exact BK231.out)):gb231≠gb232));have n6_:=Aside0.mk ((by rw[hg];exact Nat.ne_of_gt (blk_lt (g:=gb231) (o:= .cells #[.int .i64 a0_0,.string a0_1,.string a0_2] 312 (0,0)) (by(with_reducible repeat (first|refine blk_drewN ?_ _|refine blk_drew ?_|refine blk_alloc ?_ _));exact BK231.out)):gb232≠gb231));clear BK231;clear HB;have BK231:=n0_;have HB:=n1_;have BK232:=n2_;have GW232:=n3_;have GE232:=n4_;have NB231_232:=n5_;have NB232_231:=n6_;clear n0_ n1_ n2_ n3_ n4_ n5_ n6_;clear hb hbox hg;have hnb8:=NB232_231.out;have hnc8:=NB231_232.out;have hcz9_0:w7.cell? ⟨gb232,0,none⟩=some (.int .i64 a1_0):=(blk_cell BK232.out 0).trans rfl;have hcz9_1:w7.cell? ⟨gb232,1,none⟩=some (.string a1_1):=(blk_cell BK232.out 1).trans rfl;have hcz9_2:w7.cell? ⟨gb232,2,none⟩=some (.string a1_2):=(blk_cell BK232.out 2).trans rfl;have hfz9_0:=blk_frozen BK232.out 0;have hfz9_1:=blk_frozen BK232.out 1;have hfz9_2:=blk_frozen BK232.out 2)|((with_reducible refine gate_callee (f:=214) rfl ?_);refine goesL_ (some 7) rfl rfl Tryz.func214 (by kernel_rfl) rfl #[.agg #[.int .i64 a1_0,.string a1_1,.string a1_2]] rfl (by(try simp only[List.map_toArray,List.map_cons,List.map_nil]);first|done|rfl|(simp only[List.length_drop,List.length_take];rfl)) ?_;(with_reducible refine(span_May.calls k a1_0 a1_1 a1_2 true _ A3.out).mono ?_);rintro e w10 ⟨rfl,hb⟩;refine⟨_,rfl,?_⟩;have n0_:=Aside0.mk (blk_below (g:=gb231) (o:= .cells #[.int .i64 a0_0,.string a0_1,.string a0_2] 312 (0,0)) (by(with_reducible repeat (first|refine blk_drewN ?_ _|refine blk_drew ?_|refine blk_alloc ?_ _));exact BK231.out) hb);have n1_:=Aside0.mk (blk_below (g:=gb232) (o:= .cells #[.int .i64 a1_0,.string a1_1,.string a1_2] 312 (0,0)) (by(with_reducible repeat (first|refine blk_drewN ?_ _|refine blk_drew ?_|refine blk_alloc ?_ _));exact BK232.out) hb);have n2_:=Aside0.mk (below_step (by repeat (first|(with_reducible first|exact HB.out|apply below_alloc|apply pw_below_drewN|apply below_drew1|refine below_set ?_ GE231.out|refine below_set ?_ GE232.out)|exact HB.out)) hb);clear BK231;clear BK232;clear HB;have BK231:=n0_;have BK232:=n1_;have HB:=n2_;clear n0_ n1_ n2_;(try clear hb);(try clear hb2);(try clear hk);(try clear hi)))
  (try simp only[Act.put,List.setIfInBounds_toArray,List.set_cons_zero,List.set_cons_succ])
  go_cut [9] (fun v9 wc=>∃(kq:Nat) (x9_4:Bool),v9= .bool x9_4∧Aside0 (span_Covers.j0 kq x9_4 a0_0 a0_1 a0_2 a1_0 a1_1 a1_2=some r)∧Aside0 (kq≤k)∧Aside0 (wc.heap[gb231]? =some (.cells #[.int .i64 a0_0,.string a0_1,.string a0_2] 312 (0,0)))∧Aside0 (wc.heap[gb232]? =some (.cells #[.int .i64 a1_0,.string a1_1,.string a1_2] 312 (0,0)))∧Aside0 (Below w.heap.size w wc))
  case first=>
   have H:=HC5.out
   clear HC5
   by_cases c11:a0_0=2
   ·rw [if_pos c11] at H
    have c11b0:(a0_0==2)=true:=beq_iff_eq.mpr c11
    have c11b1:(a0_0 != 2)=false:=bne_eq_false_iff_eq.mpr c11
    clear c11
    (first|rw[c11b0]|(simp only[i64_w,i32_w];rw[c11b0])|skip)
    have H':=Aside0.mk H
    clear H
    have hnb12:=NB231_232.out
    have hnc12:=NB232_231.out
    have hcz13_0:w10.cell? ⟨gb231,0,none⟩=some (.int .i64 a0_0):=(blk_cell BK231.out 0).trans rfl
    have hcz13_1:w10.cell? ⟨gb231,1,none⟩=some (.string a0_1):=(blk_cell BK231.out 1).trans rfl
    have hcz13_2:w10.cell? ⟨gb231,2,none⟩=some (.string a0_2):=(blk_cell BK231.out 2).trans rfl
    have hfz13_0:=blk_frozen BK231.out 0
    have hfz13_1:=blk_frozen BK231.out 1
    have hfz13_2:=blk_frozen BK231.out 2
    go_wp2
    go_meet
    case rel=>exact⟨_,(false),(by first|rfl|(simp;done)|(simp[*];done)),H',⟨by first|omega|exact Nat.le_refl _⟩,⟨by(with_reducible repeat (first|refine blk_drewN ?_ _|refine blk_drew ?_|refine blk_alloc ?_ _));exact BK231.out⟩,⟨by(with_reducible repeat (first|refine blk_drewN ?_ _|refine blk_drew ?_|refine blk_alloc ?_ _));exact BK232.out⟩,⟨by repeat (first|(with_reducible first|exact HB.out|apply below_alloc|apply pw_below_drewN|apply below_drew1|refine below_set ?_ GE231.out|refine below_set ?_ GE232.out)|exact HB.out)⟩⟩
   ·rw [if_neg c11] at H
    have c11b0:(a0_0==2)=false:=beq_eq_false_iff_ne.mpr c11
    have c11b1:(a0_0 != 2)=true:=bne_iff_ne.mpr c11
    (first|rw[c11b0]|(simp only[i64_w,i32_w];rw[c11b0])|skip)
    have H':=Aside0.mk H
    clear H
    have hnb14:=NB231_232.out
    have hnc14:=NB232_231.out
    have hcz15_0:w10.cell? ⟨gb231,0,none⟩=some (.int .i64 a0_0):=(blk_cell BK231.out 0).trans rfl
    have hcz15_1:w10.cell? ⟨gb231,1,none⟩=some (.string a0_1):=(blk_cell BK231.out 1).trans rfl
    have hcz15_2:w10.cell? ⟨gb231,2,none⟩=some (.string a0_2):=(blk_cell BK231.out 2).trans rfl
    have hfz15_0:=blk_frozen BK231.out 0
    have hfz15_1:=blk_frozen BK231.out 1
    have hfz15_2:=blk_frozen BK231.out 2
    have hcz16_0:w10.cell? ⟨gb232,0,none⟩=some (.int .i64 a1_0):=(blk_cell BK232.out 0).trans rfl
    have hcz16_1:w10.cell? ⟨gb232,1,none⟩=some (.string a1_1):=(blk_cell BK232.out 1).trans rfl
    have hcz16_2:w10.cell? ⟨gb232,2,none⟩=some (.string a1_2):=(blk_cell BK232.out 2).trans rfl
    have hfz16_0:=blk_frozen BK232.out 0
    have hfz16_1:=blk_frozen BK232.out 1
    have hfz16_2:=blk_frozen BK232.out 2
    go_wp2
    go_meet
    case rel=>exact⟨_,((a1_0==2)),(by first|rfl|(simp;done)|(simp[*];done)),H',⟨by first|omega|exact Nat.le_refl _⟩,⟨by(with_reducible repeat (first|refine blk_drewN ?_ _|refine blk_drew ?_|refine blk_alloc ?_ _));exact BK231.out⟩,⟨by(with_reducible repeat (first|refine blk_drewN ?_ _|refine blk_drew ?_|refine blk_alloc ?_ _));exact BK232.out⟩,⟨by repeat (first|(with_reducible first|exact HB.out|apply below_alloc|apply pw_below_drewN|apply below_drew1|refine below_set ?_ GE231.out|refine below_set ?_ GE232.out)|exact HB.out)⟩⟩
  case rest=>
   clear HC5
   try clear c1
   try clear c2
   try clear p2
   try clear c4
   try clear c8
   try clear c11
   try clear c11b0
   try clear c11b1
   try clear c12
   try clear c14
   try clear hcz13_0
   try clear hcz13_1
   try clear hcz13_2
   try clear hcz15_0
   try clear hcz15_1
   try clear hcz15_2
   try clear hcz16_0
   try clear hcz16_1
   try clear hcz16_2
   try clear hcz9_0
   try clear hcz9_1
   try clear hcz9_2
   try clear hfz13_0
   try clear hfz13_1
   try clear hfz13_2
   try clear hfz15_0
   try clear hfz15_1
   try clear hfz15_2
   try clear hfz16_0
   try clear hfz16_1
   try clear hfz16_2
   try clear hfz9_0
   try clear hfz9_1
   try clear hfz9_2
   obtain⟨kq,x9_4,rfl,HA,HJ4,BK231,BK232,HB⟩:=hcut
   cases kq with
   |zero=>exact absurd HA.out (by simp[span_Covers.j0])
   |succ kj4=>
    have H:=HA.out
    clear HA
    simp only[span_Covers.j0] at H
    by_cases c17:x9_4=true
    ·subst c17
     have H1:(some false)=some r:=by rw[if_pos rfl] at H;exact H
     clear H
     have H:=H1
     clear H1
     obtain rfl:=Option.some.inj H
     go_wp2
     go_ret
     exact⟨by first|rfl|(simp[errW_none,errW_some] <;> rfl)|(simp[*,errW_none,errW_some] <;> rfl),by repeat (first|(with_reducible first|exact HB.out|apply below_alloc|apply pw_below_drewN|apply below_drew1|refine below_set ?_ GE231.out|refine below_set ?_ GE232.out)|exact HB.out)⟩
    ·replace c17:=Bool.eq_false_iff.mpr c17
     subst c17
     have H1:(if(a0_0==a1_0&&(a0_1.toList==a1_1.toList&&(a0_2.toList==a1_2.toList)))=true then(some true)else (if((Op.bytesLess a1_1.toList a0_1.toList)=true)then (some false)else (if a0_2.toList=([]:List UInt8)then (some true)else (if a1_2.toList=([]:List UInt8)then (some false)else (some (!(Op.bytesLess a0_2.toList a1_2.toList)))))))=some r:=by rw[if_neg (show¬(false=true)by decide)] at H;exact H
     clear H
     have H:=H1
     clear H1
     by_cases c18:(a0_0==a1_0&&(a0_1.toList==a1_1.toList&&(a0_2.toList==a1_2.toList)))=true
     ·rw [if_pos c18] at H
      have c18b0:(a0_0==a1_0&&(a0_1.toList==a1_1.toList&&(a0_2.toList==a1_2.toList)))=true:=c18
      (try(have c18b1:decide (a0_0=a1_0&&(a0_1.toList==a1_1.toList&&(a0_2.toList==a1_2.toList)))=true:=by simpa using c18))
      (try(have c18b2:(a0_0==a1_0&&(a0_1.toList==a1_1.toList&&(a0_2.toList==a1_2.toList)))=true:=by simpa using c18))
      clear c18
      obtain rfl:=Option.some.inj H
      have hnb19:=NB231_232.out
      have hnc19:=NB232_231.out
      have hcz20_0:wc.cell? ⟨gb231,0,none⟩=some (.int .i64 a0_0):=(blk_cell BK231.out 0).trans rfl
      have hcz20_1:wc.cell? ⟨gb231,1,none⟩=some (.string a0_1):=(blk_cell BK231.out 1).trans rfl
      have hcz20_2:wc.cell? ⟨gb231,2,none⟩=some (.string a0_2):=(blk_cell BK231.out 2).trans rfl
      have hfz20_0:=blk_frozen BK231.out 0
      have hfz20_1:=blk_frozen BK231.out 1
      have hfz20_2:=blk_frozen BK231.out 2
      have hcz21_0:wc.cell? ⟨gb232,0,none⟩=some (.int .i64 a1_0):=(blk_cell BK232.out 0).trans rfl
      have hcz21_1:wc.cell? ⟨gb232,1,none⟩=some (.string a1_1):=(blk_cell BK232.out 1).trans rfl
      have hcz21_2:wc.cell? ⟨gb232,2,none⟩=some (.string a1_2):=(blk_cell BK232.out 2).trans rfl
      have hfz21_0:=blk_frozen BK232.out 0
      have hfz21_1:=blk_frozen BK232.out 1
      have hfz21_2:=blk_frozen BK232.out 2
      go_wp2
      go_ret
      exact⟨by first|rfl|(simp[errW_none,errW_some] <;> rfl)|(simp[*,errW_none,errW_some] <;> rfl),by repeat (first|(with_reducible first|exact HB.out|apply below_alloc|apply pw_below_drewN|apply below_drew1|refine below_set ?_ GE231.out|refine below_set ?_ GE232.out)|exact HB.out)⟩
     ·rw [if_neg c18] at H
      have c18b0:(a0_0==a1_0&&(a0_1.toList==a1_1.toList&&(a0_2.toList==a1_2.toList)))=false:=by simpa using c18
      (try(have c18b1:decide (a0_0=a1_0&&(a0_1.toList==a1_1.toList&&(a0_2.toList==a1_2.toList)))=false:=by simpa using c18))
      (try(have c18b2:(a0_0==a1_0&&(a0_1.toList==a1_1.toList&&(a0_2.toList==a1_2.toList)))=false:=by simpa using c18))
      (try(have c18b3:¬(a0_0=a1_0&&(a0_1.toList==a1_1.toList&&(a0_2.toList==a1_2.toList))):=by simpa using c18))
      clear c18
      by_cases c22:((Op.bytesLess a1_1.toList a0_1.toList)=true)
      ·rw [if_pos c22] at H
       have c22b0:(Op.bytesLess a1_1.toList a0_1.toList)=true:=c22
       clear c22
       obtain rfl:=Option.some.inj H
       have hnb23:=NB231_232.out
       have hnc23:=NB232_231.out
       have hcz24_0:wc.cell? ⟨gb231,0,none⟩=some (.int .i64 a0_0):=(blk_cell BK231.out 0).trans rfl
       have hcz24_1:wc.cell? ⟨gb231,1,none⟩=some (.string a0_1):=(blk_cell BK231.out 1).trans rfl
       have hcz24_2:wc.cell? ⟨gb231,2,none⟩=some (.string a0_2):=(blk_cell BK231.out 2).trans rfl
       have hfz24_0:=blk_frozen BK231.out 0
       have hfz24_1:=blk_frozen BK231.out 1
       have hfz24_2:=blk_frozen BK231.out 2
       have hcz25_0:wc.cell? ⟨gb232,0,none⟩=some (.int .i64 a1_0):=(blk_cell BK232.out 0).trans rfl
       have hcz25_1:wc.cell? ⟨gb232,1,none⟩=some (.string a1_1):=(blk_cell BK232.out 1).trans rfl
       have hcz25_2:wc.cell? ⟨gb232,2,none⟩=some (.string a1_2):=(blk_cell BK232.out 2).trans rfl
       have hfz25_0:=blk_frozen BK232.out 0
       have hfz25_1:=blk_frozen BK232.out 1
       have hfz25_2:=blk_frozen BK232.out 2
       go_wp2
       go_ret
       exact⟨by first|rfl|(simp[errW_none,errW_some] <;> rfl)|(simp[*,errW_none,errW_some] <;> rfl),by repeat (first|(with_reducible first|exact HB.out|apply below_alloc|apply pw_below_drewN|apply below_drew1|refine below_set ?_ GE231.out|refine below_set ?_ GE232.out)|exact HB.out)⟩
      ·rw [if_neg c22] at H
       have c22b0:(Op.bytesLess a1_1.toList a0_1.toList)=false:=by simpa using c22
       clear c22
       by_cases c26:a0_2.toList=([]:List UInt8)
       ·rw [if_pos c26] at H
        have c26b0:(a0_2.toList==([]:List UInt8))=true:=beq_iff_eq.mpr c26
        have c26b1:(a0_2.toList != ([]:List UInt8))=false:=bne_eq_false_iff_eq.mpr c26
        clear c26
        obtain rfl:=Option.some.inj H
        have hnb27:=NB231_232.out
        have hnc27:=NB232_231.out
        have hcz28_0:wc.cell? ⟨gb231,0,none⟩=some (.int .i64 a0_0):=(blk_cell BK231.out 0).trans rfl
        have hcz28_1:wc.cell? ⟨gb231,1,none⟩=some (.string a0_1):=(blk_cell BK231.out 1).trans rfl
        have hcz28_2:wc.cell? ⟨gb231,2,none⟩=some (.string a0_2):=(blk_cell BK231.out 2).trans rfl
        have hfz28_0:=blk_frozen BK231.out 0
        have hfz28_1:=blk_frozen BK231.out 1
        have hfz28_2:=blk_frozen BK231.out 2
        have hcz29_0:wc.cell? ⟨gb232,0,none⟩=some (.int .i64 a1_0):=(blk_cell BK232.out 0).trans rfl
        have hcz29_1:wc.cell? ⟨gb232,1,none⟩=some (.string a1_1):=(blk_cell BK232.out 1).trans rfl
        have hcz29_2:wc.cell? ⟨gb232,2,none⟩=some (.string a1_2):=(blk_cell BK232.out 2).trans rfl
        have hfz29_0:=blk_frozen BK232.out 0
        have hfz29_1:=blk_frozen BK232.out 1
        have hfz29_2:=blk_frozen BK232.out 2
        go_wp2
        go_ret
        exact⟨by first|rfl|(simp[errW_none,errW_some] <;> rfl)|(simp[*,errW_none,errW_some] <;> rfl),by repeat (first|(with_reducible first|exact HB.out|apply below_alloc|apply pw_below_drewN|apply below_drew1|refine below_set ?_ GE231.out|refine below_set ?_ GE232.out)|exact HB.out)⟩
       ·rw [if_neg c26] at H
        have c26b0:(a0_2.toList==([]:List UInt8))=false:=beq_eq_false_iff_ne.mpr c26
        have c26b1:(a0_2.toList != ([]:List UInt8))=true:=bne_iff_ne.mpr c26
        by_cases c30:a1_2.toList=([]:List UInt8)
        ·rw [if_pos c30] at H
         have c30b0:(a1_2.toList==([]:List UInt8))=true:=beq_iff_eq.mpr c30
         have c30b1:(a1_2.toList != ([]:List UInt8))=false:=bne_eq_false_iff_eq.mpr c30
         clear c30
         obtain rfl:=Option.some.inj H
         have hnb31:=NB231_232.out
         have hnc31:=NB232_231.out
         have hcz32_0:wc.cell? ⟨gb231,0,none⟩=some (.int .i64 a0_0):=(blk_cell BK231.out 0).trans rfl
         have hcz32_1:wc.cell? ⟨gb231,1,none⟩=some (.string a0_1):=(blk_cell BK231.out 1).trans rfl
         have hcz32_2:wc.cell? ⟨gb231,2,none⟩=some (.string a0_2):=(blk_cell BK231.out 2).trans rfl
         have hfz32_0:=blk_frozen BK231.out 0
         have hfz32_1:=blk_frozen BK231.out 1
         have hfz32_2:=blk_frozen BK231.out 2
         have hcz33_0:wc.cell? ⟨gb232,0,none⟩=some (.int .i64 a1_0):=(blk_cell BK232.out 0).trans rfl
         have hcz33_1:wc.cell? ⟨gb232,1,none⟩=some (.string a1_1):=(blk_cell BK232.out 1).trans rfl
         have hcz33_2:wc.cell? ⟨gb232,2,none⟩=some (.string a1_2):=(blk_cell BK232.out 2).trans rfl
         have hfz33_0:=blk_frozen BK232.out 0
         have hfz33_1:=blk_frozen BK232.out 1
         have hfz33_2:=blk_frozen BK232.out 2
         go_wp2
         go_ret
         exact⟨by first|rfl|(simp[errW_none,errW_some] <;> rfl)|(simp[*,errW_none,errW_some] <;> rfl),by repeat (first|(with_reducible first|exact HB.out|apply below_alloc|apply pw_below_drewN|apply below_drew1|refine below_set ?_ GE231.out|refine below_set ?_ GE232.out)|exact HB.out)⟩
        ·rw [if_neg c30] at H
         have c30b0:(a1_2.toList==([]:List UInt8))=false:=beq_eq_false_iff_ne.mpr c30
         have c30b1:(a1_2.toList != ([]:List UInt8))=true:=bne_iff_ne.mpr c30
         obtain rfl:=Option.some.inj H
         have hnb34:=NB231_232.out
         have hnc34:=NB232_231.out
         have hcz35_0:wc.cell? ⟨gb231,0,none⟩=some (.int .i64 a0_0):=(blk_cell BK231.out 0).trans rfl
         have hcz35_1:wc.cell? ⟨gb231,1,none⟩=some (.string a0_1):=(blk_cell BK231.out 1).trans rfl
         have hcz35_2:wc.cell? ⟨gb231,2,none⟩=some (.string a0_2):=(blk_cell BK231.out 2).trans rfl
         have hfz35_0:=blk_frozen BK231.out 0
         have hfz35_1:=blk_frozen BK231.out 1
         have hfz35_2:=blk_frozen BK231.out 2
         have hcz36_0:wc.cell? ⟨gb232,0,none⟩=some (.int .i64 a1_0):=(blk_cell BK232.out 0).trans rfl
         have hcz36_1:wc.cell? ⟨gb232,1,none⟩=some (.string a1_1):=(blk_cell BK232.out 1).trans rfl
         have hcz36_2:wc.cell? ⟨gb232,2,none⟩=some (.string a1_2):=(blk_cell BK232.out 2).trans rfl
         have hfz36_0:=blk_frozen BK232.out 0
         have hfz36_1:=blk_frozen BK232.out 1
         have hfz36_2:=blk_frozen BK232.out 2
         go_wp2
         go_ret
         exact⟨by first|rfl|(simp[errW_none,errW_some] <;> rfl)|(simp[*,errW_none,errW_some] <;> rfl),by repeat (first|(with_reducible first|exact HB.out|apply below_alloc|apply pw_below_drewN|apply below_drew1|refine below_set ?_ GE231.out|refine below_set ?_ GE232.out)|exact HB.out)⟩
 ·replace c4:=Bool.eq_false_iff.mpr c4
  subst c4
  have H1:(some false)=some r:=by rw[if_neg (show¬(false=true)by decide)] at H;exact H
  clear H
  have H:=H1
  clear H1
  obtain rfl:=Option.some.inj H
  go_enter Tryz.func213,Tryz.ntmps213
  go_wp2_with (first|((with_reducible refine gate_dst (N:=2) rfl ?_);refine box_event ?hg (N:=2) ?hd (cs:=#[.int .i64 a0_0,.string a0_1,.string a0_2]) (t:=312) ?hr ?_;(case hd=>rfl);(case hg=>rfl);(case hr=>first|(go_simp;done)|(go_simp;rfl));intro gb231 hg w37 hbox hb;have n0_:=Aside0.mk (below_step (by repeat (first|(with_reducible first|exact HB.out|apply below_alloc|apply pw_below_drewN|apply below_drew1)|exact HB.out)) hb);have n1_:=Aside0.mk (hbox);have n2_:=Aside0.mk ((by rw[hg];exact(below_size (by repeat (first|(with_reducible first|exact HB.out|apply below_alloc|apply pw_below_drewN|apply below_drew1)|exact HB.out))):w.heap.size≤gb231));have n3_:=Aside0.mk ((by rw[hg];exact(below_size (by repeat (first|(with_reducible first|exact HB.out|apply below_alloc|apply pw_below_drewN|apply below_drew1)|exact HB.out))):w.heap.size≤gb231));clear HB;have HB:=n0_;have BK231:=n1_;have GW231:=n2_;have GE231:=n3_;clear n0_ n1_ n2_ n3_;clear hb hbox hg)|((with_reducible refine gate_dst (N:=3) rfl ?_);refine box_event ?hg (N:=3) ?hd (cs:=#[.int .i64 a1_0,.string a1_1,.string a1_2]) (t:=312) ?hr ?_;(case hd=>rfl);(case hg=>rfl);(case hr=>first|(go_simp;done)|(go_simp;rfl));intro gb232 hg w38 hbox hb;have n0_:=Aside0.mk (blk_below (g:=gb231) (o:= .cells #[.int .i64 a0_0,.string a0_1,.string a0_2] 312 (0,0)) (by(with_reducible repeat (first|refine blk_drewN ?_ _|refine blk_drew ?_|refine blk_alloc ?_ _));exact BK231.out) hb);have n1_:=Aside0.mk (below_step (by repeat (first|(with_reducible first|exact HB.out|apply below_alloc|apply pw_below_drewN|apply below_drew1|refine below_set ?_ GE231.out)|exact HB.out)) hb);have n2_:=Aside0.mk (hbox);have n3_:=Aside0.mk ((by rw[hg];exact(below_size (by repeat (first|(with_reducible first|exact HB.out|apply below_alloc|apply pw_below_drewN|apply below_drew1|refine below_set ?_ GE231.out)|exact HB.out))):w.heap.size≤gb232));have n4_:=Aside0.mk ((by rw[hg];exact(below_size (by repeat (first|(with_reducible first|exact HB.out|apply below_alloc|apply pw_below_drewN|apply below_drew1|refine below_set ?_ GE231.out)|exact HB.out))):w.heap.size≤gb232));have n5_:=Aside0.mk ((by rw[hg];exact Nat.ne_of_lt (blk_lt (g:=gb231) (o:= .cells #[.int .i64 a0_0,.string a0_1,.string a0_2] 312 (0,0)) (by(with_reducible repeat (first|refine blk_drewN ?_ _|refine blk_drew ?_|refine blk_alloc ?_ _));exact BK231.out)):gb231≠gb232));have n6_:=Aside0.mk ((by rw[hg];exact Nat.ne_of_gt (blk_lt (g:=gb231) (o:= .cells #[.int .i64 a0_0,.string a0_1,.string a0_2] 312 (0,0)) (by(with_reducible repeat (first|refine blk_drewN ?_ _|refine blk_drew ?_|refine blk_alloc ?_ _));exact BK231.out)):gb232≠gb231));clear BK231;clear HB;have BK231:=n0_;have HB:=n1_;have BK232:=n2_;have GW232:=n3_;have GE232:=n4_;have NB231_232:=n5_;have NB232_231:=n6_;clear n0_ n1_ n2_ n3_ n4_ n5_ n6_;clear hb hbox hg;have hnb39:=NB232_231.out;have hnc39:=NB231_232.out;have hcz40_0:w38.cell? ⟨gb232,0,none⟩=some (.int .i64 a1_0):=(blk_cell BK232.out 0).trans rfl;have hcz40_1:w38.cell? ⟨gb232,1,none⟩=some (.string a1_1):=(blk_cell BK232.out 1).trans rfl;have hcz40_2:w38.cell? ⟨gb232,2,none⟩=some (.string a1_2):=(blk_cell BK232.out 2).trans rfl;have hfz40_0:=blk_frozen BK232.out 0;have hfz40_1:=blk_frozen BK232.out 1;have hfz40_2:=blk_frozen BK232.out 2)|((with_reducible refine gate_callee (f:=214) rfl ?_);refine goesL_ (some 7) rfl rfl Tryz.func214 (by kernel_rfl) rfl #[.agg #[.int .i64 a1_0,.string a1_1,.string a1_2]] rfl (by(try simp only[List.map_toArray,List.map_cons,List.map_nil]);first|done|rfl|(simp only[List.length_drop,List.length_take];rfl)) ?_;(with_reducible refine(span_May.calls k a1_0 a1_1 a1_2 false _ A3.out).mono ?_);rintro e w41 ⟨rfl,hb⟩;refine⟨_,rfl,?_⟩;have n0_:=Aside0.mk (blk_below (g:=gb231) (o:= .cells #[.int .i64 a0_0,.string a0_1,.string a0_2] 312 (0,0)) (by(with_reducible repeat (first|refine blk_drewN ?_ _|refine blk_drew ?_|refine blk_alloc ?_ _));exact BK231.out) hb);have n1_:=Aside0.mk (blk_below (g:=gb232) (o:= .cells #[.int .i64 a1_0,.string a1_1,.string a1_2] 312 (0,0)) (by(with_reducible repeat (first|refine blk_drewN ?_ _|refine blk_drew ?_|refine blk_alloc ?_ _));exact BK232.out) hb);have n2_:=Aside0.mk (below_step (by repeat (first|(with_reducible first|exact HB.out|apply below_alloc|apply pw_below_drewN|apply below_drew1|refine below_set ?_ GE231.out|refine below_set ?_ GE232.out)|exact HB.out)) hb);clear BK231;clear BK232;clear HB;have BK231:=n0_;have BK232:=n1_;have HB:=n2_;clear n0_ n1_ n2_;(try clear hb);(try clear hb2);(try clear hk);(try clear hi)))
  go_ret
  exact⟨by first|rfl|(simp[errW_none,errW_some] <;> rfl)|(simp[*,errW_none,errW_some] <;> rfl),by repeat (first|(with_reducible first|exact HB.out|apply below_alloc|apply pw_below_drewN|apply below_drew1|refine below_set ?_ GE231.out|refine below_set ?_ GE232.out)|exact HB.out)⟩
end Go.Proofs.YtmgmdiekpmffbaaGreatDoor.QWi
namespace Go.Proofs.YtmgmdiekpmffbaaGreatDoor.Fr
open Go Go.RowKit Go.Proofs.YtmgmdiekpmffbaaGreatDoor.DecM Go.Proofs.YtmgmdiekpmffbaaGreatDoor.Giv Go.Proofs.YtmgmdiekpmffbaaGreatDoor.DecPure Go.Proofs.YtmgmdiekpmffbaaGreatDoor.Range Go.Proofs.YtmgmdiekpmffbaaGreatDoorW.PrintWords
theorem cell_heap {w:World}{b:Nat}{cs:Array Value}{T:TypeId}{fr:Nat×Nat}(hb:w.heap[b]? =some (.cells cs T fr))(j:Nat):w.cell? ⟨b,j,none⟩=cs[j]? :=by
 simp[World.cell?,hb]
theorem frozen_heap {w:World}{b:Nat}{cs:Array Value}{T:TypeId}(hb:w.heap[b]? =some (.cells cs T (0,0)))(j:Nat):w.frozen? ⟨b,j,none⟩=false:=by
 simp[World.frozen?,hb]
theorem res_cells {w:World}{b:Nat}{u0 u1 x y:Value}(d0:w.cell? ⟨b,0,none⟩=some u0)(d1:w.cell? ⟨b,1,none⟩=some u1):
  (w.setCell ⟨b,0,none⟩ x).cell? ⟨b,0,none⟩=some x∧((w.setCell ⟨b,0,none⟩ x).setCell ⟨b,1,none⟩ y).cell? ⟨b,1,none⟩=some y:=by
 have h:(w.setCell ⟨b,0,none⟩ x).cell? ⟨b,1,none⟩=some u1:=by
  rw[World.cell?_setCell_other w ⟨b,0,none⟩ ⟨b,1,none⟩ x (by intro e;cases e)]
  exact d1
 exact⟨World.cell?_setCell_same w ⟨b,0,none⟩ x d0,World.cell?_setCell_same _ ⟨b,1,none⟩ y h⟩
theorem grown_set (W:World)(b o:Nat)(v:Value):W.grownBy (W.setCell ⟨b,o,none⟩ v) (some b):=by
 refine⟨rfl,rfl,rfl,by simp[World.setCell],fun k hk hne=>?_⟩
 have hb:k≠b:=fun e=>hne (by rw[e])
 exact Below.heap_setCell W _ _ _ hb
theorem own_set {W:World}{D:Nat}{e:TypeId}{size n:Nat}{v:Value}{xs:List Value}(h:W.ownsRow D e size v n xs)(b o:Nat)(hb:b<D)(x:Value):(W.setCell ⟨b,o,none⟩ x).ownsRow D e size v n xs:=by
 refine own_move h (fun k hk=>?_)
 have hge:=own_at h k hk
 obtain⟨cells,hc⟩:=own_typed h k hk
 exact(grown_set W b o x).block k (Array.getElem?_eq_some_iff.1 hc).1 (fun e=>by cases e;omega)
theorem infoByte:(Tryz.prog.info? 5).map (fun i=>(i.zero,i.size,i.bytes))=some (some (.int .u8 0),1,1):=by kernel_rfl
def Fed (w:World)(r:ByteArray)(b:Bool)(l:List (ByteArray×ByteArray))(z:Int)(e:Ending)(w':World):Prop:=
 ∃v,e= .returned (.tuple #[.agg #[.string r,.bool b],v,.int .i64 z])∧w'.ownsRow w.heap.size 9 1 v l.length (txt l)∧Below w.heap.size w w'
theorem conv_run (s:ByteArray)(W:World):(convert 9 108 (.string s)).run Tryz.prog W= .ok (.slice (some ⟨W.heap.size,0,none⟩) s.size (grownCap W s.size 0 5)) (Lib.bytesWorld W 5 s):=
 Lib.run_convert_string_bytes W 9 108 5 s Tryz.underlying9 Tryz.underlying108 Tryz.underlying5
theorem nums_back (l:List UInt8):strOfNums (l.map fun c=>(c.toNat:Int))=⟨l.toArray⟩:=by
 apply ByteArray.ext
 apply Array.ext'
 rw[strOfNums_data,List.map_map]
 show _=l
 conv=>rhs;rw[←List.map_id l]
 apply List.map_congr_left
 intro b _
 simp
theorem back_run (W:World)(s:ByteArray)(b off n cap:Nat)(hn:s.size=n)(h:∀i,i<n→W.cell? ⟨b,off+i,none⟩=some (.int .u8 (s.data.toList.getD i 0).toNat)):
  (convert 108 9 (.slice (some ⟨b,off,none⟩) n cap)).run Tryz.prog W= .ok (.string s) W:=by
 subst hn
 have hl:s.data.toList.length=s.size:=by rw[Array.length_toList];rfl
 have h1:=run_convert_bytes_arg W 108 5 Tryz.underlying108 Tryz.underlying5 b off s.size cap (s.data.toList.map fun b=>(b.toNat:Int)) (by rw[List.length_map,hl]) (fun i hi=>by
  rw[h i hi]
  have hi':i<s.data.toList.length:=by omega
  simp only[List.getD,List.getElem?_map,List.getElem?_eq_getElem hi',Option.map_some,Option.getD_some]) 9 Tryz.underlying9
 rw[h1,nums_back]
theorem feed_form (r0 c s R:ByteArray)(l:List (ByteArray×ByteArray))(w:World)(hse:r0++c=s)(hsz:r0.size+c.size≤1099511627776)
  (hW:∀W,Calls Tryz.prog 31 #[.string s] W fun e w'=>∃v,e= .returned (.tuple #[v,.int .i64 ((s.size:Int) - (R.size:Int)),.bool false])∧w'.ownsRow W.heap.size 9 1 v l.length (txt l)∧Below W.heap.size W w'):
  Calls Tryz.prog 15 #[.agg #[.string r0,.bool false],.string c] w (Fed w ByteArray.empty true l 3):=by
 have HW:=Lib.hid hW
 have HSE:=Lib.hid hse
 have HF:Hid (∀(v:Value) (w':World),w'.ownsRow w.heap.size 9 1 v l.length (txt l)→Below w.heap.size w w'→Fed w ByteArray.empty true l 3 (.returned (.tuple #[.agg #[.string ByteArray.empty,.bool true],v,.int .i64 3])) w'):=Lib.hid fun v w' h1 h2=>⟨_,rfl,h1,h2⟩
 clear hW hse
 go_enter Tryz.func15,Tryz.ntmps15
 go_wp2
 rw[HSE.out,conv_run s]
 simp only[Result.andThen]
 rw[Oper.upon_value]
 obtain⟨W2,hW2⟩:∃W2,(w.alloc (.cells #[.string r0,.bool false] 83)).alloc (.cells #[.string { data:=#[] },.bool false] 83)=W2:=⟨_,rfl⟩
 have hs2:W2.heap.size=w.heap.size+1+1:=by rw[←hW2,World.size_alloc,World.size_alloc]
 have hb2:Below w.heap.size w W2:=by rw[←hW2];exact((Below.refl _ _).alloc (Nat.le_refl _) _).alloc (by simp) _
 have hr2:W2.heap[w.heap.size+1]? =some (.cells #[.string { data:=#[] },.bool false] 83 (0,0)):=by
  have h:=World.alloc_heap_new (w.alloc (.cells #[.string r0,.bool false] 83)) (.cells #[.string { data:=#[] },.bool false] 83)
  rw[World.size_alloc,hW2] at h
  exact h
 rw[hW2]
 clear hW2
 obtain⟨W3,hW3⟩:∃W3,Lib.bytesWorld W2 5 s=W3:=⟨_,rfl⟩
 have hs3:W3.heap.size=W2.heap.size+1:=by rw[←hW3,Lib.bytesWorld_size]
 have hr3:W3.heap[w.heap.size+1]? =some (.cells #[.string { data:=#[] },.bool false] 83 (0,0)):=by rw[←hW3,Lib.bytesWorld_at_old _ _ _ _ (by omega)];exact hr2
 have hb3:Below w.heap.size w W3:=by rw[←hW3];exact hb2.trans (Joins.below_bytesWorld _ _ _ _ hb2.size)
 have hc3:∀i,i<s.size→W3.cell? ⟨W2.heap.size,i,none⟩=some (.int .u8 (s.data.toList.getD i 0).toNat):=fun i hi=>by rw[←hW3];exact Lib.bytesWorld_cell W2 5 s i hi
 rw[hW3]
 clear hW3
 have hcap:s.size≤grownCap W2 s.size 0 5:=grownCap_ge _ _ _ _
 generalize grownCap W2 s.size 0 5=cap at hcap⊢
 have hst:=back_run W3 s W2.heap.size 0 s.size cap rfl (fun i hi=>by rw[Nat.zero_add];exact hc3 i hi)
 have HB3:=Lib.hid hb3
 have HR3:=Lib.hid hr3
 have HC3:=Lib.hid hc3
 have HS2:=Lib.hid hs2
 have HS3:=Lib.hid hs3
 have HCAP:=Lib.hid hcap
 clear hs2 hb2 hr2 hs3 hr3 hb3 hc3 hcap
 go_wp2_with fail
 refine(HW.out _).mono ?_
 rintro e w4 ⟨v,rfl,hown,hbel⟩
 have HO:=Lib.hid hown
 have HB4:=Lib.hid hbel
 have hr4:=(hbel.block (w.heap.size+1) (by have:=HS2.out;have:=HS3.out;omega)).trans HR3.out
 have d0:w4.cell? ⟨w.heap.size+1,0,none⟩=some (.string { data:=#[] }):=cell_heap hr4 0
 have d1:w4.cell? ⟨w.heap.size+1,1,none⟩=some (.bool false):=cell_heap hr4 1
 have f0:=frozen_heap hr4 0
 have f1:=frozen_heap hr4 1
 have HR4:=Lib.hid hr4
 clear hst hown hbel hr4
 go_wp2
 obtain⟨k0,k1⟩:=res_cells (x:= .string { data:=#[] }) (y:= .bool true) d0 d1
 refine bodyPost_ret (v:= .tuple #[.agg #[.string ByteArray.empty,.bool true],v,.int .i64 3]) (by simp[results,Tryz.results15,go_sem,k0,k1];rfl) rfl (HF.out _ _ ?_ ?_)
 ·have h2:=HS2.out
  have h3:=HS3.out
  exact own_lower (own_set (own_set HO.out _ _ (by omega) _) _ _ (by omega) _) (by omega)
 ·exact((HB3.out.trans (HB4.out.mono HB3.out.size)).setCell (p:=⟨w.heap.size+1,0,none⟩) (Nat.le_succ _) _).setCell (p:=⟨w.heap.size+1,1,none⟩) (Nat.le_succ _) _
end Go.Proofs.YtmgmdiekpmffbaaGreatDoor.Fr
namespace Go.Proofs.YtmgmdiekpmffbaaGreatDoor.Fr
open Go Go.RowKit Go.Proofs.YtmgmdiekpmffbaaGreatDoor.DecM Go.Proofs.YtmgmdiekpmffbaaGreatDoor.Giv Go.Proofs.YtmgmdiekpmffbaaGreatDoor.DecPure Go.Proofs.YtmgmdiekpmffbaaGreatDoor.Range Go.Proofs.YtmgmdiekpmffbaaGreatDoorW.PrintWords
theorem byteSize:(Tryz.prog.info? 5).map (·.size)=some 1:=by kernel_rfl
def cellsOf (s:ByteArray):List Value:=s.data.toList.map fun b=> .int .u8 b.toNat
theorem cellsOf_len (s:ByteArray):(cellsOf s).length=s.size:=by
 unfold cellsOf
 rw[List.length_map,Array.length_toList]
 rfl
theorem cellsOf_at (s:ByteArray)(j:Nat)(h:j<s.size):(cellsOf s)[j]? =some (.int .u8 (s.data.toList.getD j 0).toNat):=by
 have hl:j<s.data.toList.length:=by rw[Array.length_toList];exact h
 unfold cellsOf
 simp only[List.getElem?_map,List.getD,List.getElem?_eq_getElem hl,Option.map_some,Option.getD_some]
theorem cellsOf_one (s:ByteArray):∀v∈cellsOf s,v.oneCell'=true:=by
 intro v hv
 unfold cellsOf at hv
 obtain⟨b,_,rfl⟩:=List.mem_map.1 hv
 rfl
theorem make_run (s n m:Nat)(h:n+m=s)(hs:s≤1099511627776):∀u:World,(Instr.makeSlice 108 (.int .i64 ((s:Int) - (n:Int))) (.int .i64 ((s:Int) - (n:Int)))).run Tryz.prog u =
  .ok (.slice (some ⟨u.heap.size,0,none⟩) m m) (u.alloc (.cells (madeCells #[.int .u8 0] m) 5)):=fun u=>by
 obtain⟨i0,hi,hz0,hz1,hz2⟩:=info_parts infoByte
 have h1:=run_make (P:=Tryz.prog) u 108 5 i0 (.int .u8 0) Tryz.underlying108 hi hz0 .i64 .i64 ((s:Int) - (n:Int)) ((s:Int) - (n:Int)) (by omega) (Int.le_refl _) (by rw[hz2];omega) (by omega)
 have e:((s:Int) - (n:Int)).toNat=m:=by omega
 rw[e] at h1
 simpa [hz1,Value.cells] using h1
theorem feed_ok (r0 c s R:ByteArray)(n:Nat)(l:List (ByteArray×ByteArray))(w:World)(hse:r0++c=s)(hsz:r0.size+c.size≤1099511627776)(hn:n+R.size=s.size)(hR:0<R.size)(hRs:R.data.toList=s.data.toList.drop n)
  (hW:∀W,Calls Tryz.prog 31 #[.string s] W fun e w'=>∃v,e= .returned (.tuple #[v,.int .i64 (n:Int),.bool true])∧w'.ownsRow W.heap.size 9 1 v l.length (txt l)∧Below W.heap.size W w'):
  Calls Tryz.prog 15 #[.agg #[.string r0,.bool false],.string c] w (Fed w R false l 0):=by
 have HW:=Lib.hid hW
 have HSE:=Lib.hid hse
 have hss:s.size=r0.size+c.size:=by rw[←hse,ByteArray.size_append]
 have hmk:=make_run s.size n R.size hn (by omega)
 have HF:Hid (∀(v:Value) (w':World),w'.ownsRow w.heap.size 9 1 v l.length (txt l)→Below w.heap.size w w'→Fed w R false l 0 (.returned (.tuple #[.agg #[.string R,.bool false],v,.int .i64 0])) w'):=Lib.hid fun v w' h1 h2=>⟨_,rfl,h1,h2⟩
 have hns:n<s.size:=by omega
 have hs40:s.size≤1099511627776:=by omega
 have HN:=Lib.hid hn
 clear hW hse hss hn
 go_enter Tryz.func15,Tryz.ntmps15
 go_wp2
 rw[HSE.out,conv_run s]
 simp only[Result.andThen]
 rw[Oper.upon_value]
 obtain⟨W2,hW2⟩:∃W2,(w.alloc (.cells #[.string r0,.bool false] 83)).alloc (.cells #[.string { data:=#[] },.bool false] 83)=W2:=⟨_,rfl⟩
 have hs2:W2.heap.size=w.heap.size+1+1:=by rw[←hW2,World.size_alloc,World.size_alloc]
 have hb2:Below w.heap.size w W2:=by rw[←hW2];exact((Below.refl _ _).alloc (Nat.le_refl _) _).alloc (by simp) _
 have hr2:W2.heap[w.heap.size+1]? =some (.cells #[.string { data:=#[] },.bool false] 83 (0,0)):=by
  have h:=World.alloc_heap_new (w.alloc (.cells #[.string r0,.bool false] 83)) (.cells #[.string { data:=#[] },.bool false] 83)
  rw[World.size_alloc,hW2] at h
  exact h
 rw[hW2]
 clear hW2
 obtain⟨W3,hW3⟩:∃W3,Lib.bytesWorld W2 5 s=W3:=⟨_,rfl⟩
 have hs3:W3.heap.size=W2.heap.size+1:=by rw[←hW3,Lib.bytesWorld_size]
 have hr3:W3.heap[w.heap.size+1]? =some (.cells #[.string { data:=#[] },.bool false] 83 (0,0)):=by rw[←hW3,Lib.bytesWorld_at_old _ _ _ _ (by omega)];exact hr2
 have hb3:Below w.heap.size w W3:=by rw[←hW3];exact hb2.trans (Joins.below_bytesWorld _ _ _ _ hb2.size)
 have hc3:∀i,i<s.size→W3.cell? ⟨W2.heap.size,i,none⟩=some (.int .u8 (s.data.toList.getD i 0).toNat):=fun i hi=>by rw[←hW3];exact Lib.bytesWorld_cell W2 5 s i hi
 rw[hW3]
 clear hW3
 have hcap:s.size≤grownCap W2 s.size 0 5:=grownCap_ge _ _ _ _
 generalize grownCap W2 s.size 0 5=cap at hcap⊢
 have hst:=back_run W3 s W2.heap.size 0 s.size cap rfl (fun i hi=>by rw[Nat.zero_add];exact hc3 i hi)
 have HB3:=Lib.hid hb3
 have HR3:=Lib.hid hr3
 have HC3:=Lib.hid hc3
 have HS2:=Lib.hid hs2
 have HS3:=Lib.hid hs3
 have HCAP:=Lib.hid hcap
 clear hs2 hb2 hr2 hs3 hr3 hb3 hc3 hcap
 go_wp2_with fail
 refine(HW.out _).mono ?_
 rintro e w4 ⟨v,rfl,hown,hbel⟩
 have HO:=Lib.hid hown
 have HB4:=Lib.hid hbel
 have hr4:=(hbel.block (w.heap.size+1) (by have:=HS2.out;have:=HS3.out;omega)).trans HR3.out
 have d0:w4.cell? ⟨w.heap.size+1,0,none⟩=some (.string { data:=#[] }):=cell_heap hr4 0
 have d1:w4.cell? ⟨w.heap.size+1,1,none⟩=some (.bool false):=cell_heap hr4 1
 have f0:=frozen_heap hr4 0
 have f1:=frozen_heap hr4 1
 have HR4:=Lib.hid hr4
 clear hst hown hbel hr4
 go_wp2
 have hg5:(w4.alloc (.cells (madeCells #[.int .u8 0] R.size) 5)).heap[w4.heap.size]? =some (.cells (madeCells #[.int .u8 0] R.size) 5 (0,0)):=World.alloc_heap_new w4 _
 have hcp:=run_copy_row (P:=Tryz.prog) (w4.alloc (.cells (madeCells #[.int .u8 0] R.size) 5)) 108 108 3 5 w4.heap.size 0 R.size R.size ⟨W2.heap.size,n,none⟩ (s.size - n) (s.size - n) (madeCells #[.int .u8 0] R.size) 5 (cellsOf R)
  Tryz.underlying108 byteSize hg5 (by rw[cellsOf_len];have:=HN.out;show _=min _ _;omega) (by
   intro j v hj
   have hl:=(List.getElem?_eq_some_iff.1 hj).1
   rw[cellsOf_len] at hl
   rw[cellsOf_at R j hl] at hj
   have h3:=HC3.out (n+j) (by have:=HN.out;omega)
   have e:s.data.toList.getD (n+j) 0=R.data.toList.getD j 0:=by
    rw[hRs,List.getD_eq_getElem?_getD,List.getD_eq_getElem?_getD,List.getElem?_drop]
   have hlt:W2.heap.size<W3.heap.size:=by have:=HS3.out;omega
   have h4:w4.cell? ⟨W2.heap.size,n+j,none⟩=W3.cell? ⟨W2.heap.size,n+j,none⟩:=HB4.out.cell (p:=⟨W2.heap.size,n+j,none⟩) hlt
   rw[h3,e,hj] at h4
   have h5:(w4.alloc (.cells (madeCells #[.int .u8 0] R.size) 5)).cell? ⟨W2.heap.size,n+j,none⟩=w4.cell? ⟨W2.heap.size,n+j,none⟩:=((Below.refl w4.heap.size w4).alloc (Nat.le_refl _) _).cell (p:=⟨W2.heap.size,n+j,none⟩) (by have:=HB4.out.size;show W2.heap.size<_;omega)
   have ea:(⟨W2.heap.size,n,none⟩:Addr).add j=⟨W2.heap.size,n+j,none⟩:=by unfold Addr.add;split <;> simp_all
   rw[ea,h5,h4]) (by rw[cellsOf_len,size_madeCells];omega) (cellsOf_one R)
 rw[hcp]
 simp only[Result.andThen]
 rw[Oper.upon_value]
 obtain⟨W6,hW6⟩:∃W6,(w4.alloc (.cells (madeCells #[.int .u8 0] R.size) 5)).setRow w4.heap.size ((madeCells #[.int .u8 0] R.size).toList.take 0++cellsOf R++(madeCells #[.int .u8 0] R.size).toList.drop (0+(cellsOf R).length)).toArray=W6:=⟨_,rfl⟩
 rw[hW6]
 have hg6:W6.heap[w4.heap.size]? =some (.cells (cellsOf R).toArray 5 (0,0)):=by
  rw[←hW6,setRow_heap _ _ _ _ _ _ hg5]
  have e1:(madeCells #[.int .u8 0] R.size).toList.drop (0+(cellsOf R).length)= []:=List.drop_of_length_le (by rw[Array.length_toList,size_madeCells,cellsOf_len];omega)
  rw[e1,List.take_zero,List.nil_append,List.append_nil]
 have hb6:Below w4.heap.size w4 W6:=by rw[←hW6];exact below_setRow ((Below.refl _ w4).alloc (Nat.le_refl _) _) (Nat.le_refl _) _
 have HB6:=Lib.hid hb6
 have hbk:=back_run W6 R w4.heap.size 0 R.size R.size rfl (fun i hi=>by
  rw[Nat.zero_add,cell_heap hg6 i]
  have h:=cellsOf_at R i hi
  rw[←h]
  exact List.getElem?_toArray ..)
 have hlt4:w.heap.size+1<w4.heap.size:=by have h1:=HS2.out;have h2:=HS3.out;have h3:=HB4.out.size;omega
 have hr6:=(hb6.block (w.heap.size+1) hlt4).trans HR4.out
 have d0:W6.cell? ⟨w.heap.size+1,0,none⟩=some (.string { data:=#[] }):=cell_heap hr6 0
 have d1:W6.cell? ⟨w.heap.size+1,1,none⟩=some (.bool false):=cell_heap hr6 1
 have f0:=frozen_heap hr6 0
 have f1:=frozen_heap hr6 1
 have HO6:=Lib.hid (own_move HO.out (fun k hk=>hb6.block k (by
  obtain⟨cells,hc⟩:=own_typed HO.out k hk
  exact(Array.getElem?_eq_some_iff.1 hc).1)))
 have HLT:=Lib.hid hlt4
 clear hcp hg5 hW6 hg6 hb6 hr6 hlt4
 go_wp2
 obtain⟨k0,k1⟩:=res_cells (x:= .string R) (y:= .bool false) d0 d1
 refine bodyPost_ret (v:= .tuple #[.agg #[.string R,.bool false],v,.int .i64 0]) (by simp[results,Tryz.results15,go_sem,k0,k1];try rfl) rfl (HF.out _ _ ?_ ?_)
 ·have h2:=HS2.out
  have h3:=HS3.out
  exact own_lower (own_set (own_set HO6.out _ _ (by omega) _) _ _ (by omega) _) (by omega)
 ·exact((((HB3.out.trans (HB4.out.mono HB3.out.size)).trans (HB6.out.mono (by have:=HLT.out;omega))).setCell (p:=⟨w.heap.size+1,0,none⟩) (Nat.le_succ _) _).setCell (p:=⟨w.heap.size+1,1,none⟩) (Nat.le_succ _) _)
end Go.Proofs.YtmgmdiekpmffbaaGreatDoor.Fr
namespace Go.Proofs.YtmgmdiekpmffbaaGreatDoor.Fr
open Go Go.RowKit Go.Proofs.YtmgmdiekpmffbaaGreatDoor.DecM Go.Proofs.YtmgmdiekpmffbaaGreatDoor.Giv Go.Proofs.YtmgmdiekpmffbaaGreatDoor.DecPure Go.Proofs.YtmgmdiekpmffbaaGreatDoor.Range Go.Proofs.YtmgmdiekpmffbaaGreatDoorW.PrintWords
theorem make_run0:∀u:World,(Instr.makeSlice 108 (.int .i64 0) (.int .i64 0)).run Tryz.prog u= .ok (.slice (some ⟨u.heap.size,0,none⟩) 0 0) (u.alloc (.cells (madeCells #[.int .u8 0] 0) 5)):=make_run 0 0 0 rfl (by omega)
theorem feed_ok0 (r0 c s:ByteArray)(l:List (ByteArray×ByteArray))(w:World)(hse:r0++c=s)(hsz:r0.size+c.size≤1099511627776)
  (hW:∀W,Calls Tryz.prog 31 #[.string s] W fun e w'=>∃v,e= .returned (.tuple #[v,.int .i64 (s.size:Int),.bool true])∧w'.ownsRow W.heap.size 9 1 v l.length (txt l)∧Below W.heap.size W w'):
  Calls Tryz.prog 15 #[.agg #[.string r0,.bool false],.string c] w (Fed w ByteArray.empty false l 0):=by
 have HW:=Lib.hid hW
 have HSE:=Lib.hid hse
 have hss:s.size=r0.size+c.size:=by rw[←hse,ByteArray.size_append]
 have hmk:=make_run0
 have HF:Hid (∀(v:Value) (w':World),w'.ownsRow w.heap.size 9 1 v l.length (txt l)→Below w.heap.size w w'→Fed w ByteArray.empty false l 0 (.returned (.tuple #[.agg #[.string ByteArray.empty,.bool false],v,.int .i64 0])) w'):=Lib.hid fun v w' h1 h2=>⟨_,rfl,h1,h2⟩
 have hs40:s.size≤1099511627776:=by omega
 clear hW hse hss
 go_enter Tryz.func15,Tryz.ntmps15
 go_wp2
 rw[HSE.out,conv_run s]
 simp only[Result.andThen]
 rw[Oper.upon_value]
 obtain⟨W2,hW2⟩:∃W2,(w.alloc (.cells #[.string r0,.bool false] 83)).alloc (.cells #[.string { data:=#[] },.bool false] 83)=W2:=⟨_,rfl⟩
 have hs2:W2.heap.size=w.heap.size+1+1:=by rw[←hW2,World.size_alloc,World.size_alloc]
 have hb2:Below w.heap.size w W2:=by rw[←hW2];exact((Below.refl _ _).alloc (Nat.le_refl _) _).alloc (by simp) _
 have hr2:W2.heap[w.heap.size+1]? =some (.cells #[.string { data:=#[] },.bool false] 83 (0,0)):=by
  have h:=World.alloc_heap_new (w.alloc (.cells #[.string r0,.bool false] 83)) (.cells #[.string { data:=#[] },.bool false] 83)
  rw[World.size_alloc,hW2] at h
  exact h
 rw[hW2]
 clear hW2
 obtain⟨W3,hW3⟩:∃W3,Lib.bytesWorld W2 5 s=W3:=⟨_,rfl⟩
 have hs3:W3.heap.size=W2.heap.size+1:=by rw[←hW3,Lib.bytesWorld_size]
 have hr3:W3.heap[w.heap.size+1]? =some (.cells #[.string { data:=#[] },.bool false] 83 (0,0)):=by rw[←hW3,Lib.bytesWorld_at_old _ _ _ _ (by omega)];exact hr2
 have hb3:Below w.heap.size w W3:=by rw[←hW3];exact hb2.trans (Joins.below_bytesWorld _ _ _ _ hb2.size)
 have hc3:∀i,i<s.size→W3.cell? ⟨W2.heap.size,i,none⟩=some (.int .u8 (s.data.toList.getD i 0).toNat):=fun i hi=>by rw[←hW3];exact Lib.bytesWorld_cell W2 5 s i hi
 rw[hW3]
 clear hW3
 have hcap:s.size≤grownCap W2 s.size 0 5:=grownCap_ge _ _ _ _
 generalize grownCap W2 s.size 0 5=cap at hcap⊢
 have hst:=back_run W3 s W2.heap.size 0 s.size cap rfl (fun i hi=>by rw[Nat.zero_add];exact hc3 i hi)
 have HB3:=Lib.hid hb3
 have HR3:=Lib.hid hr3
 have HC3:=Lib.hid hc3
 have HS2:=Lib.hid hs2
 have HS3:=Lib.hid hs3
 have HCAP:=Lib.hid hcap
 clear hs2 hb2 hr2 hs3 hr3 hb3 hc3 hcap
 go_wp2_with fail
 refine(HW.out _).mono ?_
 rintro e w4 ⟨v,rfl,hown,hbel⟩
 have HO:=Lib.hid hown
 have HB4:=Lib.hid hbel
 have hr4:=(hbel.block (w.heap.size+1) (by have:=HS2.out;have:=HS3.out;omega)).trans HR3.out
 have d0:w4.cell? ⟨w.heap.size+1,0,none⟩=some (.string { data:=#[] }):=cell_heap hr4 0
 have d1:w4.cell? ⟨w.heap.size+1,1,none⟩=some (.bool false):=cell_heap hr4 1
 have f0:=frozen_heap hr4 0
 have f1:=frozen_heap hr4 1
 have HR4:=Lib.hid hr4
 clear hst hown hbel hr4
 go_wp2
 have hg5:(w4.alloc (.cells (madeCells #[.int .u8 0] 0) 5)).heap[w4.heap.size]? =some (.cells (madeCells #[.int .u8 0] 0) 5 (0,0)):=World.alloc_heap_new w4 _
 have hcp:=run_copy_row (P:=Tryz.prog) (w4.alloc (.cells (madeCells #[.int .u8 0] 0) 5)) 108 108 3 5 w4.heap.size 0 0 0 ⟨W2.heap.size,0,none⟩ 0 0 (madeCells #[.int .u8 0] 0) 5 []
  Tryz.underlying108 byteSize hg5 rfl (fun j v hj=>by simp at hj) (by simp) (fun v hv=>by cases hv)
 rw[hcp]
 simp only[Result.andThen]
 rw[Oper.upon_value]
 obtain⟨W6,hW6⟩:∃W6,(w4.alloc (.cells (madeCells #[.int .u8 0] 0) 5)).setRow w4.heap.size ((madeCells #[.int .u8 0] 0).toList.take 0++ []++(madeCells #[.int .u8 0] 0).toList.drop (0+([]:List Value).length)).toArray=W6:=⟨_,rfl⟩
 rw[hW6]
 have hb6:Below w4.heap.size w4 W6:=by rw[←hW6];exact below_setRow ((Below.refl _ w4).alloc (Nat.le_refl _) _) (Nat.le_refl _) _
 have HB6:=Lib.hid hb6
 have hbk:=back_run W6 ByteArray.empty w4.heap.size 0 0 0 rfl (fun i hi=>absurd hi (Nat.not_lt_zero i))
 have hlt4:w.heap.size+1<w4.heap.size:=by have h1:=HS2.out;have h2:=HS3.out;have h3:=HB4.out.size;omega
 have hr6:=(hb6.block (w.heap.size+1) hlt4).trans HR4.out
 have d0:W6.cell? ⟨w.heap.size+1,0,none⟩=some (.string { data:=#[] }):=cell_heap hr6 0
 have d1:W6.cell? ⟨w.heap.size+1,1,none⟩=some (.bool false):=cell_heap hr6 1
 have f0:=frozen_heap hr6 0
 have f1:=frozen_heap hr6 1
 have HO6:=Lib.hid (own_move HO.out (fun k hk=>hb6.block k (by
  obtain⟨cells,hc⟩:=own_typed HO.out k hk
  exact(Array.getElem?_eq_some_iff.1 hc).1)))
 have HLT:=Lib.hid hlt4
 clear hcp hg5 hW6 hb6 hr6 hlt4
 go_wp2
 obtain⟨j0,j1⟩:=res_cells (x:= .string ByteArray.empty) (y:= .bool false) d0 d1
 refine bodyPost_ret (v:= .tuple #[.agg #[.string ByteArray.empty,.bool false],v,.int .i64 0]) (by simp[results,Tryz.results15,go_sem,j0,j1];try rfl) rfl (HF.out _ _ ?_ ?_)
 ·have h2:=HS2.out
  have h3:=HS3.out
  exact own_lower (own_set (own_set HO6.out _ _ (by omega) _) _ _ (by omega) _) (by omega)
 ·exact((((HB3.out.trans (HB4.out.mono HB3.out.size)).trans (HB6.out.mono (by have:=HLT.out;omega))).setCell (p:=⟨w.heap.size+1,0,none⟩) (Nat.le_succ _) _).setCell (p:=⟨w.heap.size+1,1,none⟩) (Nat.le_succ _) _)
end Go.Proofs.YtmgmdiekpmffbaaGreatDoor.Fr
namespace Go.Proofs.YtmgmdiekpmffbaaGreatDoor.Fr
open Go Go.RowKit Go.Proofs.YtmgmdiekpmffbaaGreatDoor.DecM Go.Proofs.YtmgmdiekpmffbaaGreatDoor.Giv Go.Proofs.YtmgmdiekpmffbaaGreatDoor.DecPure Go.Proofs.YtmgmdiekpmffbaaGreatDoor.Range Go.Proofs.YtmgmdiekpmffbaaGreatDoorW.PrintWords
theorem prefix_of:∀(k:Nat) (s:ByteArray),s.size<k→∃p:ByteArray,s=p++rest s:=by
 intro k
 induction k with
 |zero=>intro s h;omega
 |succ k ih=>
  intro s h
  by_cases hz:(takeText s 2048).2.2=0
  ·have hlt:=text_lt s 2048 hz
   obtain⟨p,hp⟩:=ih (takeText s 2048).2.1 (by omega)
   have hw:=(text_was s 2048 hz).1
   refine⟨textS (takeText s 2048).1++p,?_⟩
   rw[rest_ok hz,ByteArray.append_assoc,←hp]
   exact hw
  ·exact⟨ByteArray.empty,by rw[rest_no hz,ByteArray.empty_append]⟩
theorem rest_size (s:ByteArray):(rest s).size≤s.size:=by
 have:=pairs_len _ s (Nat.lt_succ_self _)
 omega
theorem rest_data (s:ByteArray):(rest s).data.toList=s.data.toList.drop (s.size - (rest s).size):=by
 obtain⟨p,hp⟩:=prefix_of _ s (Nat.lt_succ_self _)
 have hsz:s.size=p.size+(rest s).size:=by
  conv=>lhs;rw[hp]
  exact ByteArray.size_append ..
 have e:s.data.toList=p.data.toList++(rest s).data.toList:=by
  conv=>lhs;rw[hp]
  rw[data_append]
 have hl:s.size - (rest s).size=p.data.toList.length:=by rw[len_size];omega
 rw[hl,e,List.drop_left]
def more (s:ByteArray):Bool:=(takeText (rest s) 2048).2.2==2
theorem feed_calls (r0 c:ByteArray)(w:World)(hsz:r0.size+c.size≤1099511627776):
  Calls Tryz.prog 15 #[.agg #[.string r0,.bool false],.string c] w (if more (r0++c)=true then Fed w (rest (r0++c)) false (pairs (r0++c)) 0 else Fed w ByteArray.empty true (pairs (r0++c)) 3):=by
 have hs:(r0++c).size≤1099511627776:=by rw[ByteArray.size_append];exact hsz
 have hW:=fun W=>whole_calls (r0++c) W hs
 have hd:=rest_data (r0++c)
 have hr:=rest_size (r0++c)
 unfold Whole at hW
 unfold more
 generalize hse:r0++c=s at *
 generalize rest s=R at *
 generalize pairs s=l at *
 generalize ((takeText R 2048).2.2==2)=m at *
 cases m with
 |false=>
  rw[if_neg (by decide)]
  exact feed_form r0 c s R l w hse hsz hW
 |true=>
  rw[if_pos rfl]
  by_cases h0:R.size=0
  ·have e:R=ByteArray.empty:=by
    apply bytes_ext
    have:R.data.toList.length=0:=by rw[len_size];exact h0
    rw[List.eq_nil_of_length_eq_zero this]
    rfl
   subst e
   refine feed_ok0 r0 c s l w hse hsz fun W=>(hW W).mono ?_
   rintro e w' ⟨v,rfl,h⟩
   exact⟨v,by rw[h0];simp,h⟩
  ·refine feed_ok r0 c s R (s.size - R.size) l w hse hsz (by omega) (by omega) hd fun W=>(hW W).mono ?_
   rintro e w' ⟨v,rfl,h⟩
   exact⟨v,by rw[show((s.size - R.size:Nat):Int)=(s.size:Int) - (R.size:Int)by omega],h⟩
end Go.Proofs.YtmgmdiekpmffbaaGreatDoor.Fr
namespace Go.Proofs.YtmgmdiekpmffbaaGreatDoor.QFr
open Go Go.RowKit Go.Proofs.YtmgmdiekpmffbaaGreatDoor.DecM Go.Proofs.YtmgmdiekpmffbaaGreatDoor.Giv Go.Proofs.YtmgmdiekpmffbaaGreatDoor.DecPure Go.Proofs.YtmgmdiekpmffbaaGreatDoor.Fr Go.Proofs.YtmgmdiekpmffbaaGreatDoorW.PrintWords
def dec_TakeText.f (a0:ByteArray)(a1:Int):Option (ByteArray×ByteArray×Int):=if a0.size≤9223372036854775807∧a1≤9223372036854775807 then some (takeText a0 a1)else none
theorem dec_TakeText.calls (a0:ByteArray)(a1:Int)(r1:ByteArray)(r2:ByteArray)(r3:Int)(w:World)(h:dec_TakeText.f a0 a1=some (r1,r2,r3)):
  Calls Tryz.prog 61 #[.string a0,.int .i64 a1] w fun e w'=>e= .returned (.tuple #[.string r1,.string r2,.int .i64 r3])∧Below w.heap.size w w':=by
 unfold dec_TakeText.f at h
 by_cases hs:a0.size≤9223372036854775807∧a1≤9223372036854775807
 ·rw [if_pos hs] at h
  have hc:=takeText_calls a0 a1 w hs.1 hs.2
  rw[Option.some.inj h] at hc
  exact hc
 ·rw [if_neg hs] at h
  cases h
def stanchionref01_TakeText.f (a0:ByteArray)(a1:Int):Option (ByteArray×ByteArray×Int):=if a0.size≤9223372036854775807∧a1≤9223372036854775807 then some (takeText a0 a1)else none
theorem stanchionref01_TakeText.calls (a0:ByteArray)(a1:Int)(r1:ByteArray)(r2:ByteArray)(r3:Int)(w:World)(h:stanchionref01_TakeText.f a0 a1=some (r1,r2,r3)):
  Calls Tryz.prog 41 #[.string a0,.int .i64 a1] w fun e w'=>e= .returned (.tuple #[.string r1,.string r2,.int .i64 r3])∧Below w.heap.size w w':=by
 unfold stanchionref01_TakeText.f at h
 by_cases hs:a0.size≤9223372036854775807∧a1≤9223372036854775807
 ·rw [if_pos hs] at h
  have hc:=refTakeText_calls a0 a1 w hs.1 hs.2
  rw[Option.some.inj h] at hc
  exact hc
 ·rw [if_neg hs] at h
  cases h
def stanchionref01_Text.f (a0:ByteArray):Option (ByteArray):=if a0.size≤4611686018427387904 then some (textS a0)else none
theorem stanchionref01_Text.calls (a0:ByteArray)(r:ByteArray)(w:World)(h:stanchionref01_Text.f a0=some r):
  Calls Tryz.prog 40 #[.string a0] w fun e w'=>e= .returned (.string r)∧Below w.heap.size w w':=QDec.stanchionref01_Text.calls a0 r w h
end Go.Proofs.YtmgmdiekpmffbaaGreatDoor.QFr
namespace Go.Proofs.YtmgmdiekpmffbaaGreatDoor.Reader
open Go Go.RowKit Go.Proofs.YtmgmdiekpmffbaaGreatDoor.DecM Go.Proofs.YtmgmdiekpmffbaaGreatDoor.Giv Go.Proofs.YtmgmdiekpmffbaaGreatDoor.Err Go.Proofs.YtmgmdiekpmffbaaGreatDoorW.PrintWords Go.Proofs.YtmgmdiekpmffbaaGreatDoorW.PrintLast
structure CellsAt (w:World)(b:Nat)(l:List Value):Prop where
 c:∀(j:Nat) (h:j<l.length),w.cell? ⟨b,j,none⟩=some l[j]
 f:∀o,w.frozen? ⟨b,o,none⟩=false
theorem CellsAt.only {w w':World}{b t:Nat}{l:List Value}(h:CellsAt w b l)(hl:0<l.length)(k:Only t w w')(hne:b≠t):CellsAt w' b l:=by
 have hb:b<w.heap.size:=cell_lt (h.c 0 hl)
 exact⟨fun j hj=>(k.cell (p:=⟨b,j,none⟩) hb hne).trans (h.c j hj),fun o=>(k.frozen (p:=⟨b,o,none⟩) hb hne).trans (h.f o)⟩
theorem CellsAt.set {w:World}{b:Nat}{l:List Value}(h:CellsAt w b l)(j:Nat)(hj:j<l.length)(v:Value):CellsAt (w.setCell ⟨b,j,none⟩ v) b (l.set j v):=by
 refine⟨fun i hi=>?_,fun o=>?_⟩
 ·rw [List.length_set] at hi
  by_cases e:j=i
  ·subst e
   rw[set_same (h.c j hj),List.getElem_set_self]
  ·rw [set_other e,h.c i hi,List.getElem_set_ne e]
 ·rw [World.frozen?_setCell]
  exact h.f o
theorem Rd.sub {w:World}{b:Nat}{av av':List Nat}{s:ByteArray}{n:Int}{bad:Bool}(h:Rd w b av s n bad)(hm:b∈av')(hs:∀a∈av',a∈av):Rd w b av' s n bad:=by
 obtain⟨⟨ev,h1,h2⟩,h3,h4⟩:=h
 refine⟨⟨ev,h1,?_⟩,hm,fun a ha=>h4 a (hs a ha)⟩
 cases bad with
 |false=>exact h2
 |true=>
  obtain⟨c,k,e,k1,k2⟩:=h2
  exact⟨c,k,e,fun hc=>k1 (hs c hc),k2⟩
structure St (w0:World)(r q:Nat)(ks:List (Nat×List Value))(w:World)(s:ByteArray)(n:Int)(bad:Bool)(cq:List Value):Prop where
 rd:Rd w r (ks.map Prod.fst++ [q,r]) s n bad
 bel:Below w0.heap.size w0 w
 hg:Handle w
 qc:CellsAt w q cq
 kc:∀x∈ks,CellsAt w x.1 x.2∧0<x.2.length∧x.1≠r∧x.1≠q
 hq:0<cq.length
 r0:w0.heap.size≤r
 q0:w0.heap.size≤q
 qr:q≠r
 w00:0<w0.heap.size
theorem St.call {w0 w w':World}{r q:Nat}{ks:List (Nat×List Value)}{s s':ByteArray}{n n':Int}{bad bad':Bool}{cq:List Value}(h:St w0 r q ks w s n bad cq)(hr:Rd w' r (ks.map Prod.fst++ [q,r]) s' n' bad')(ho:Only r w w'):St w0 r q ks w' s' n' bad' cq:=
 ⟨hr,h.bel.trans (ho.below h.r0 h.bel.size),h.hg.only ho (by have:=h.r0;have:=h.w00;omega),h.qc.only h.hq ho h.qr,fun x hx=>⟨(h.kc x hx).1.only (h.kc x hx).2.1 ho (h.kc x hx).2.2.1,(h.kc x hx).2⟩,h.hq,h.r0,h.q0,h.qr,h.w00⟩
theorem St.store {w0 w:World}{r q:Nat}{ks:List (Nat×List Value)}{s:ByteArray}{n:Int}{bad:Bool}{cq:List Value}(h:St w0 r q ks w s n bad cq)(j:Nat)(hj:j<cq.length)(v:Value):St w0 r q ks (w.setCell ⟨q,j,none⟩ v) s n bad (cq.set j v):=by
 have ho:Only q w (w.setCell ⟨q,j,none⟩ v):=(Only.refl q w).set j v
 exact⟨h.rd.other (t:=q) (by simp) h.qr ho,h.bel.setCell h.q0 v,h.hg.only ho (by have:=h.q0;have:=h.w00;omega),h.qc.set j hj v,fun x hx=>⟨(h.kc x hx).1.only (h.kc x hx).2.1 ho (h.kc x hx).2.2.2,(h.kc x hx).2⟩,by rw[List.length_set];exact h.hq,h.r0,h.q0,h.qr,h.w00⟩
theorem CellsAt.below {w w':World}{b:Nat}{l:List Value}(h:CellsAt w b l)(hl:0<l.length)(k:Below w.heap.size w w'):CellsAt w' b l:=by
 have hb:b<w.heap.size:=cell_lt (h.c 0 hl)
 exact⟨fun j hj=>(k.cell (p:=⟨b,j,none⟩) hb).trans (h.c j hj),fun o=>(k.frozen (p:=⟨b,o,none⟩) hb).trans (h.f o)⟩
theorem cells_new (w:World)(l:Array Value)(t:TypeId):CellsAt (w.alloc (.cells l t)) w.heap.size l.toList:=by
 refine⟨fun j hj=>?_,fun o=>by simp⟩
 rw[World.cell?_alloc_new]
 simp
theorem St.push {w0 w:World}{r q:Nat}{ks:List (Nat×List Value)}{s:ByteArray}{n:Int}{bad:Bool}{cq:List Value}(h:St w0 r q ks w s n bad cq)(l:Array Value)(t:TypeId)(hl:0<l.toList.length):St w0 r q ((w.heap.size,l.toList) :: ks) (w.alloc (.cells l t)) s n bad cq:=by
 have hb:=(Below.refl w.heap.size w).alloc (Nat.le_refl _) (.cells l t)
 have hqw:q<w.heap.size:=cell_lt (h.qc.c 0 h.hq)
 have hrw:r<w.heap.size:=h.rd.lt r h.rd.mem
 refine⟨h.rd.push _,h.bel.trans (hb.mono h.bel.size),h.hg.below hb,h.qc.below h.hq hb,fun x hx=>?_,h.hq,h.r0,h.q0,h.qr,h.w00⟩
 rcases List.mem_cons.mp hx with e|e
 ·subst e
  exact⟨cells_new w l t,hl,by dsimp only;omega,by dsimp only;omega⟩
 ·exact⟨(h.kc x e).1.below (h.kc x e).2.1 hb,(h.kc x e).2⟩
theorem numR_size (s:ByteArray)(bad:Bool)(most:Int):(numR s bad most).2.1.size≤s.size:=by
 unfold numR
 split
 ·exact Nat.le_refl _
 ·exact(take_first s).2.2
theorem textR_size (s:ByteArray)(bad:Bool)(most:Int):(textR s bad most).2.1.size≤s.size:=by
 unfold textR
 split
 ·exact Nat.le_refl _
 ·exact(DecPure.takeText_size s most).2
def zeroReq:Array Value:=#[.int .i64 0,.int .i64 0,.int .i64 0,.int .i64 0,.string ⟨#[]⟩,.int .i64 0,.string ⟨#[]⟩,.string ⟨#[]⟩,.string ⟨#[]⟩,.string ⟨#[]⟩,.int .i64 0]
theorem St.swap {w0 w:World}{r q q':Nat}{s:ByteArray}{n:Int}{bad:Bool}{cq l:List Value}(h:St w0 r q [(q',l)] w s n bad cq)(hq0:w0.heap.size≤q'):St w0 r q' [(q,cq)] w s n bad l:=by
 have h1:=h.kc (q',l) (List.mem_cons_self ..)
 refine⟨h.rd.sub (by simp) (fun a ha=>?_),h.bel,h.hg,h1.1,fun x hx=>?_,h1.2.1,h.r0,hq0,h1.2.2.1,h.w00⟩
 ·simp at ha⊢
  rcases ha with e|e|e
  ·exact .inr (.inl e)
  ·exact .inl e
  ·exact .inr (.inr e)
 ·rw [List.mem_singleton] at hx
  subst hx
  exact⟨h.qc,h.hq,h.qr,fun e=>h1.2.2.2 e.symm⟩
theorem results_cell_tmp {fn:Func}{t u:Tmp}{ty:TypeId}(h:fn.results= #[.cell t ty,.tmp u])(tmps:Array Value)(P:Program)(w:World)(a:Addr)(v:Value)(ha:tmps.getD t undef= .pointer (some a))(hl:(loadVar ty a).run P w= .ok v w):
  (results fn tmps).run P w= .ok (.tuple #[v,tmps.getD u undef]) w:=by
 have ha':tmps[t]?.getD undef= .pointer (some a):=by simpa using ha
 simp[results,h,ha',asAddr,hl,Result.andThen]
theorem load_req (W:World)(b:Nat)(l:List Value)(h:CellsAt W b l)(v0 v1 v2 v3 v4 v5 v6 v7 v8 v9 v10:Value)(hl:l= [v0,v1,v2,v3,v4,v5,v6,v7,v8,v9,v10]):
  (loadVar 61 ⟨b,0,none⟩).run Tryz.prog W= .ok (.agg #[v0,v1,v2,v3,v4,v5,v6,v7,v8,v9,v10]) W:=by
 subst hl
 have x0:W.cell? ⟨b,0,none⟩=some v0:=h.c 0 (by simp)
 have x1:W.cell? ⟨b,1,none⟩=some v1:=h.c 1 (by simp)
 have x2:W.cell? ⟨b,2,none⟩=some v2:=h.c 2 (by simp)
 have x3:W.cell? ⟨b,3,none⟩=some v3:=h.c 3 (by simp)
 have x4:W.cell? ⟨b,4,none⟩=some v4:=h.c 4 (by simp)
 have x5:W.cell? ⟨b,5,none⟩=some v5:=h.c 5 (by simp)
 have x6:W.cell? ⟨b,6,none⟩=some v6:=h.c 6 (by simp)
 have x7:W.cell? ⟨b,7,none⟩=some v7:=h.c 7 (by simp)
 have x8:W.cell? ⟨b,8,none⟩=some v8:=h.c 8 (by simp)
 have x9:W.cell? ⟨b,9,none⟩=some v9:=h.c 9 (by simp)
 have x10:W.cell? ⟨b,10,none⟩=some v10:=h.c 10 (by simp)
 clear h
 go_simp
theorem start_st (w:World)(s:ByteArray)(z:Array Value)(t:TypeId)(hz0:0<z.toList.length)(hg:Handle w):St w (w.heap.size+1) w.heap.size [] ((w.alloc (.cells z t)).alloc (.cells #[.string s,.int .i64 0,.nilIface] 155)) s 0 false z.toList:=by
 have h00:0<w.heap.size:=Nat.lt_of_le_of_lt (Nat.zero_le _) (cell_lt hg)
 have b1:=(Below.refl w.heap.size w).alloc (Nat.le_refl _) (.cells z t)
 have hz:(w.alloc (.cells z t)).heap.size=w.heap.size+1:=by simp
 have b2:=(Below.refl (w.alloc (.cells z t)).heap.size (w.alloc (.cells z t))).alloc (Nat.le_refl _) (.cells #[.string s,.int .i64 0,.nilIface] 155)
 have R:=cells_new (w.alloc (.cells z t)) #[.string s,.int .i64 0,.nilIface] 155
 rw[hz] at R
 refine⟨⟨⟨.nilIface,⟨R.c 0 (by simp),R.c 1 (by simp),R.c 2 (by simp),R.f⟩,rfl⟩,by simp,fun a ha=>?_⟩,b1.trans (b2.mono (by omega)),(hg.below b1).below b2,(cells_new w z t).below hz0 b2,fun x hx=>(by cases hx),hz0,by omega,Nat.le_refl _,by omega,h00⟩
 simp only[List.map_nil,List.nil_append,List.mem_cons,List.not_mem_nil,or_false] at ha
 have hz2:((w.alloc (.cells z t)).alloc (.cells #[.string s,.int .i64 0,.nilIface] 155)).heap.size=w.heap.size+2:=by simp
 omega
end Go.Proofs.YtmgmdiekpmffbaaGreatDoor.Reader
