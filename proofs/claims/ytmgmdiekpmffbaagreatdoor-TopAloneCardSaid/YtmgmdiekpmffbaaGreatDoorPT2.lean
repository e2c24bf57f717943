/- Part of the proof of the statement TopAlone, as a card; what is proved, and on which condition, stands at the head of YtmgmdiekpmffbaaGreatDoorPT20 (texts OpenRow, Of, Build, Shelf, Num, Nums, Err, QTx0, QTx1, QTx) -/
import Derived.Test.YtmgmdiekpmffbaaGreatDoorRows
import Derived.SliceStrings
import Derived.ChangeSlices
import Derived.Test.YtmgmdiekpmffbaaGreatDoorProg
import Derived.WalkKit
import Derived.LoopTactic
import Derived.IntWalk
import Derived.Lib.Hide
import Derived.KernelRfl
import Derived.Laws.BitsAllLaws
import Derived.Shelf.Strings.Builder1
import Derived.Lib.Strings
import Derived.Lib.Slices
import Derived.Lib.Walk
import Derived.Lib.Builder
import Derived.Lib.AppendStr
import Derived.Lib.UnsafeStr
import Derived.Lib.MakeNoZero
import Derived.Laws.Externs
import Derived.Laws.IdiomCopy
import Derived.Laws.BitsLemmas
import Derived.Shelf.Strings.BuilderF
import Derived.Shelf.Strings.BuilderK
import Derived.Lib.SmallJoins
import Derived.Deep.QuietTactic
import Derived.BigQuiet
import Derived.Deep.LoopGhost
import Derived.LaidEql
import Derived.Stop.Asserts
import Derived.RowKitTokens
import Derived.Below
import Derived.Deep.Draws
import Derived.Deep.AppendLies
import Derived.Maps.AppendAt
import Derived.OwnWalk
import Derived.Laws.BytesArg
import Derived.Laws.MakeOwn
import Derived.Laws.OwnMore
import Derived.Deep.OwnRows
import Derived.Tactics
import Derived.Lib.ConvBytes
import Derived.Laws.Slices
import Derived.RowKit3
import Derived.WideLaws
import Derived.Deep.DeepCutAuto
import Derived.Deep.CutBlock
import Derived.Deep.RegionHeld3
import Derived.Laws.Rows
import Derived.ArgAppend
import Derived.OrdersHeld
import Derived.RowKit
import Derived.Test.YtmgmdiekpmffbaaGreatDoorPT0
import Derived.Test.YtmgmdiekpmffbaaGreatDoorPT1
set_option maxHeartbeats 64000000
set_option maxRecDepth 100000
set_option linter.unusedVariables false
set_option linter.unusedSimpArgs false
namespace Go.Proofs.YtmgmdiekpmffbaaGreatDoor.OpenRow
open Go Go.ChangeShapes Go.WideShapes Go.RowKit Go.Proofs.YtmgmdiekpmffbaaGreatDoorW.PrintWords
theorem one_le {H:Type}(d:DataW H):1≤Rows.uptoBulk d:=by
 cases d with
 |lit l=>cases l <;> simp[Rows.uptoBulk]
 |nil=>simp [Rows.uptoBulk]
 |ptr d=>simp [Rows.uptoBulk]
 |slice elems spare=>simp [Rows.uptoBulk]
 |agg parts=>simp [Rows.uptoBulk]
 |iface t d=>simp [Rows.uptoBulk]
 |map entries=>simp [Rows.uptoBulk]
 |held h=>simp [Rows.uptoBulk]
theorem length_le {H:Type}(l:List (DataW H)):l.length≤Rows.uptoBulkAll l:=by
 induction l with
 |nil=>simp [Rows.uptoBulkAll]
 |cons x r ih=>
  have:=one_le x
  simp only[Rows.uptoBulkAll,List.length_cons]
  omega
theorem bound {H:Type}{l:List (DataW H)}(hk:Rows.uptoSmall H l=true):Rows.uptoBulkAll l≤1048576:=of_decide_eq_true hk
section
variable {H:Type} {enc:TypeId×Value→H} {P:Program} {W:World} {t e:TypeId} {fuel:Nat} {A0:Option Addr} {n0 c0:Nat} {x:DataW H×List MemPlace}
theorem slice_value {cs:List Value}(ht:P.underlying t=some (.slice e))(h:DataW.trod enc P W 0 (fun _=>true) true fuel t cs=some x):∃A n c,cs= [.slice A n c]:=by
 rcases DataW.trod_slice ht h with⟨h0,_⟩|⟨a,len,cap,_,_,_,_,h0,_⟩
 ·exact⟨_,_,_,h0⟩
 ·exact⟨_,_,_,h0⟩
theorem slice_value1 {v:Value}(ht:P.underlying t=some (.slice e))(h:DataW.trod enc P W 0 (fun _=>true) true fuel t [v]=some x):∃A n c,v= .slice A n c:=by
 obtain⟨A,n,c,h⟩:=slice_value ht h
 exact⟨A,n,c,by simpa using h⟩
end
theorem agg_bulk {H:Type}{d:DataW H}{p:List MemPlace}{xs:List (DataW H×List MemPlace)}(h:(d,p)=(.agg (xs.map (·.1)),xs.flatMap (·.2))):Rows.uptoBulk d=Rows.uptoBulkAll (xs.map (·.1))+1:=by
 obtain rfl:=(Prod.mk.inj h).1
 simp only[Rows.uptoBulk]
theorem str_bulk0 {H:Type}(s:ByteArray):Rows.uptoBulk (DataW.lit (H:=H) (.string s.data.toList))=s.size+1:=by
 simp only[Rows.uptoBulk]
 rw[Array.length_toList]
 rfl
theorem str_bulk {H:Type}{y:DataW H×List MemPlace}{s:ByteArray}(h:y=(.lit (.string s.data.toList),[])):Rows.uptoBulk y.1=s.size+1:=by
 subst h
 exact str_bulk0 s
end Go.Proofs.YtmgmdiekpmffbaaGreatDoor.OpenRow
namespace Go.Proofs.YtmgmdiekpmffbaaGreatDoor.Giv
open Go Go.RowKit Go.Proofs.YtmgmdiekpmffbaaGreatDoor.SumM Go.Proofs.YtmgmdiekpmffbaaGreatDoorW.PrintWords Go.Proofs.YtmgmdiekpmffbaaGreatDoorW.PrintLast
theorem add_calls (c:Int)(a b:Nat)(B:Nat)(w:World)(hc:0≤c∧c≤255)(ha:a<65521)(hb:b<65521)(hB:w.heap[B]? =some (.cells #[.int .u32 a,.int .u32 b] 265 (0,0))):
  Calls Tryz.prog 145 #[.int .u8 c,.pointer (some ⟨B,0,none⟩)] w fun e w'=>e= .returned (.tuple #[])∧w'.heap[B]? =some (.cells #[.int .u32 ((a+c) % 65521),.int .u32 ((b+(a+c)) % 65521)] 265 (0,0))∧(∀n,n≤B→Below n w w'):=by
 obtain⟨hc0,hc1⟩:=hc
 have h0:w.cell? ⟨B,0,none⟩=some (.int .u32 a):=blk_cell hB 0
 have h1:w.cell? ⟨B,1,none⟩=some (.int .u32 b):=blk_cell hB 1
 have f0:=blk_frozen hB 0
 have f1:=blk_frozen hB 1
 have HB:=Lib.hid hB
 clear hB
 go_enter Tryz.func145,Tryz.ntmps145
 go_wp2
 go_end0
 exact⟨rfl,blk_set (blk_set HB.out 0 _) 1 _,fun n hn=>((Below.refl n w).setCell hn _).setCell hn _⟩
theorem or_halves (a b:Nat)(ha:a<65536):b*65536 ||| a=b*65536+a:=by
 have h:=Nat.two_pow_add_eq_or_of_lt (i:=16) (b:=a) ha b
 rw[show(2:Nat) ^ 16=65536 from rfl,Nat.mul_comm 65536 b] at h
 exact h.symm
theorem or32 (a b:Nat)(ha:a<65521)(hb:b<65521):bits .or .u32 ((b:Int)*65536) (a:Int)=(sumV (a,b):Int):=by
 rw[show(b:Int)*65536=((b*65536:Nat):Int)by omega,u32_or_nat (b*65536) a (by omega) (by omega),or_halves a b (by omega)]
 unfold sumV
 simp only[]
 omega
theorem of_calls (s:ByteArray)(w:World)(hs:s.size≤9223372036854775807):
  Calls Tryz.prog 89 #[.string s] w fun e w'=>e= .returned (.int .u32 (ofS s))∧Below w.heap.size w w':=by
 go_enter Tryz.func89,Tryz.ntmps89
 go_wp2
 go_loopw [10] (fun x wr=>∃k a b:Nat,k≤s.size∧x= .int .i64 k∧a<65521∧b<65521∧Hid (sumL (1,0) (s.data.toList.take k)=(a,b))∧wr.heap[w.heap.size]? =some (.cells #[.int .u32 a,.int .u32 b] 265 (0,0))∧Below w.heap.size w wr) (fun x _=>s.size - (intOf x).toNat)
 case atStart=>exact⟨0,1,0,by omega,rfl,by omega,by omega,Lib.hid rfl,blk_new w _,(Below.refl _ _).alloc (Nat.le_refl _) _⟩
 case round=>
  obtain⟨k,a,b,hk,rfl,ha,hb,HP,hblk,hB⟩:=hrel
  have HB:=Lib.hid hB
  by_cases hkn:k<s.size
  ·have hc:(0:Int)≤(s[k].toNat:Int)∧(s[k].toNat:Int)≤255:=by have:=s[k].toNat_lt;omega
   have HC:=Lib.hid (add_calls (s[k].toNat:Int) a b w.heap.size wr hc ha hb hblk)
   have HN:Hid (sumL (1,0) (s.data.toList.take (k+1))=((a+s[k].toNat) % 65521,(b+(a+s[k].toNat)) % 65521)):=by
    refine Lib.hid ?_
    rw[take_next s k hkn,sumL_append,HP.out,sumL_cons,sumL_nil]
    unfold stepS
    simp
   clear hblk hB hc
   go_wp2_with (go_at_call 145;refine HC.out.mono ?_;rintro e w1 ⟨rfl,hb1,hb2⟩;have HB1:=Lib.hid hb1;have HB2:=Lib.hid hb2;clear hb1 hb2)
   go_roundw
   case rel=>exact⟨k+1,(a+s[k].toNat) % 65521,(b+(a+s[k].toNat)) % 65521,by omega,by go_num,by omega,by omega,HN,HB1.out,HB.out.trans (HB2.out _ (Nat.le_refl _))⟩
   case measure=>simp [intOf];omega
  ·have h0:wr.cell? ⟨w.heap.size,0,none⟩=some (.int .u32 a):=blk_cell hblk 0
   have h1:wr.cell? ⟨w.heap.size,1,none⟩=some (.int .u32 b):=blk_cell hblk 1
   obtain rfl:k=s.size:=by omega
   have HV:Hid (ofS s=sumV (a,b)):=by
    refine Lib.hid ?_
    unfold ofS
    have:=HP.out
    rw[List.take_of_length_le (by rw[data_length];omega)] at this
    rw[this]
   have HO:=Lib.hid (or32 a b ha hb)
   clear hblk hB HP
   go_wp2
   go_ret
   refine⟨?_,HB.out⟩
   show Ending.returned (.int .u32 (bits .or .u32 ((b:Int)*65536) (a:Int)))=_
   rw[HO.out,HV.out]
end Go.Proofs.YtmgmdiekpmffbaaGreatDoor.Giv
namespace Go.Proofs.YtmgmdiekpmffbaaGreatDoor.Build
open Go Go.RowKit
theorem sizeBuilder:(Tryz.prog.info? 257).map (·.size)=some 2:=by kernel_rfl
theorem liesBuilder:liesAt Tryz.prog Tryz.prog.depth 257 (2 / Tryz.prog.cellsOf 257) 0 257 1=true:=by kernel_rfl
theorem infoByte:(Tryz.prog.info? 5).map (fun i=>(i.zero,i.size,i.bytes))=some (some (.int .u8 0),1,1):=by kernel_rfl
theorem copyCheck_used (b:Nat)(w:World)(h0:w.cell? ⟨b,0,none⟩=some (.pointer (some ⟨b,0,none⟩))):
  Calls Tryz.prog 189 #[.pointer (some ⟨b,0,none⟩)] w fun e w'=>e= .returned (.tuple #[])∧w'=w:=by
 obtain⟨j,hj,_⟩:=Option.map_eq_some_iff.1 sizeBuilder
 go_enter Tryz.func189,Tryz.ntmps189
 go_wp2
 rw[Lib.run_neq_ptr_same w _ Tryz.underlying255 hj]
 go_wp2
 go_end0
 exact⟨rfl,rfl⟩
theorem copyCheck_fresh (b:Nat)(w:World)(h0:w.cell? ⟨b,0,none⟩=some (.pointer none))(hsh:w.shape? b=some (257,2))(hfz:w.frozen? ⟨b,0,none⟩=false):
  Calls Tryz.prog 189 #[.pointer (some ⟨b,0,none⟩)] w fun e w'=>e= .returned (.tuple #[])∧w'=w.setCell ⟨b,0,none⟩ (.pointer (some ⟨b,0,none⟩)):=by
 obtain⟨j,hj,hjs⟩:=Option.map_eq_some_iff.1 sizeBuilder
 go_enter Tryz.func189,Tryz.ntmps189
 go_wp2
 rw[Lib.run_to_unsafe w ⟨b,0,none⟩ Tryz.underlying255 Tryz.underlying288 hj (by rw[hjs];decide) hsh (Nat.zero_lt_succ 1)]
 simp only[Result.andThen]
 rw[Oper.upon_value]
 go_wp2
 rw[run_callFunc_extern Tryz.func227 (by kernel_rfl) (by kernel_rfl) (by kernel_rfl) (e:=Extern.AbiNoEscape.same) (by kernel_rfl)]
 rw[Lib.run_noEscape]
 simp only[Result.andThen]
 rw[Oper.upon_value]
 go_wp2
 rw[Lib.run_from_unsafe w ⟨b,0,none⟩ Tryz.underlying288 Tryz.underlying255 hj hsh liesBuilder]
 simp only[Result.andThen]
 rw[Oper.upon_value]
 go_wp2
 go_end0
 exact⟨rfl,rfl⟩
theorem copyCheck (B b:Nat)(bs:List Value)(w:World)(h:Lib.IsBuilder 257 5 B b bs w):
  Calls Tryz.prog 189 #[.pointer (some ⟨b,0,none⟩)] w fun e w'=>e= .returned (.tuple #[])∧(Lib.BuilderAt 257 5 B b (.pointer (some ⟨b,0,none⟩)) bs w'∧Below B w w'):=by
 rcases h with h|h
 ·refine(copyCheck_fresh b w h.cell0 h.shape h.frozen0).mono ?_
  rintro e w' ⟨rfl,rfl⟩
  exact⟨rfl,h.used _,(Below.refl B w).setCell (p:=⟨b,0,none⟩) h.1 _⟩
 ·refine(copyCheck_used b w h.cell0).mono ?_
  rintro e w' ⟨rfl,rfl⟩
  exact⟨rfl,h,Below.refl B _⟩
theorem writeString (B b:Nat)(bs:List Value)(s:ByteArray)(w:World)(h:Lib.IsBuilder 257 5 B b bs w)(hlen:bs.length+s.size≤140737488355328)(hBw:B≤w.heap.size):
  Calls Tryz.prog 140 #[.pointer (some ⟨b,0,none⟩),.string s] w fun e w'=>e= .returned (.tuple #[.int .i64 s.size,.nilIface])∧(Lib.BuilderAt 257 5 B b (.pointer (some ⟨b,0,none⟩)) (bs++Lib.strCells s) w'∧Below B w w'):=by
 obtain⟨i0,hi,hz0,hz1,hz2⟩:=info_parts infoByte
 go_enter Tryz.func140,Tryz.ntmps140
 go_wp2_with (go_at_call 189;refine(copyCheck B b bs _ h).mono ?_)
 rintro e w1 ⟨rfl,h1,hb1⟩
 obtain⟨hB,v,hbk,hown,hne⟩:=h1
 have c0:w1.cell? ⟨b,0,none⟩=some (.pointer (some ⟨b,0,none⟩)):=by rw[Lib.cell_of_heap hbk];rfl
 have c1:w1.cell? ⟨b,1,none⟩=some v:=by rw[Lib.cell_of_heap hbk];rfl
 go_wp2_with (at_builtin;refine Lib.wpList_append_own_string _ rfl _ _ 108 9 rfl B 5 i0 Tryz.underlying108 Tryz.underlying9 hi hz0 hz1 hz2 _ _ _ rfl hown s rfl ?c3 ?c4 ?c5 ?_)
 case c3=>unfold maxLen;omega
 case c4=>omega
 case c5=>have:=hb1.size;omega
 intro v' w2 hown' hgrow _
 have hlt:b<w1.heap.size:=by
  rcases Nat.lt_or_ge b w1.heap.size with h'|h'
  ·exact h'
  ·simp [Array.getElem?_eq_none h'] at hbk
 have hb2:w2.heap[b]? =some (.cells #[.pointer (some ⟨b,0,none⟩),v] 257 (0,0)):=by
  rw[hgrow.block b hlt (fun e=>hne e.symm)]
  exact hbk
 have d0:w2.cell? ⟨b,0,none⟩=some (.pointer (some ⟨b,0,none⟩)):=by rw[Lib.cell_of_heap hb2];rfl
 have d1:w2.cell? ⟨b,1,none⟩=some v:=by rw[Lib.cell_of_heap hb2];rfl
 have f1:w2.frozen? ⟨b,1,none⟩=false:=Lib.frozen_of_heap hb2 1
 obtain⟨ao,n',cap,rfl⟩:∃ao n' cap,v'= .slice ao n' cap:=by
  rcases hown'.2 with⟨hv,_⟩|⟨g,cap,cur,hv,_⟩
  ·exact⟨_,_,_,hv⟩
  ·exact⟨_,_,_,hv⟩
 go_wp2
 go_ret2
 refine⟨rfl,?_,?_⟩
 ·exact Lib.BuilderAt.put (T:=257) (e:=5) hB hb2 (bs':=bs++Lib.strCells s) (by simpa [Lib.strCells_length] using hown') (by decide)
 ·exact(hb1.grown hgrow (by have:=hb1.size;omega) (fun k hk=>(hown.lt k hk).1)).setCell (p:=⟨b,1,none⟩) hB _
end Go.Proofs.YtmgmdiekpmffbaaGreatDoor.Build
namespace Go.Proofs
open Go.Shelf
def Tryz.lays169_ren:Go.Shelf.Ren:=⟨fun|169=>141|n=>n,fun|70=>255|9=>9|0=>0|72=>257|37=>108|127=>318|3=>3|5=>5|n=>n,fun|n=>n⟩
theorem Tryz.lays169:Go.Proofs.Lays.n169 Tryz.prog Tryz.lays169_ren:= {
 mixed:=by kernel_rfl
 f169:=Tryz.func141.trans (congrArg some (by kernel_rfl))
 t0:=Tryz.underlying0
 a0:=Tryz.isAgg0
 z0:=Tryz.sizeOf0
 v0:=Tryz.zeroValue0
 t3:=Tryz.underlying3
 a3:=Tryz.isAgg3
 z3:=Tryz.sizeOf3
 v3:=Tryz.zeroValue3
 t9:=Tryz.underlying9
 a9:=Tryz.isAgg9
 z9:=Tryz.sizeOf9
 v9:=Tryz.zeroValue9
 t37:=Tryz.underlying108
 a37:=Tryz.isAgg108
 z37:=Tryz.sizeOf108
 v37:=Tryz.zeroValue108
 t70:=Tryz.underlying255
 a70:=Tryz.isAgg255
 z70:=Tryz.sizeOf255
 v70:=Tryz.zeroValue255
 t72:=Tryz.underlying257
 a72:=Tryz.isAgg257
 z72:=Tryz.sizeOf257
 v72:=Tryz.zeroValue257
 t127:=Tryz.underlying318
 a127:=Tryz.isAgg318
 z127:=Tryz.sizeOf318
 v127:=Tryz.zeroValue318 }
theorem Tryz.Builder_Extra_169:Builder.Extra Tryz.prog Tryz.lays169_ren:= {
 sizeBuilder:=by kernel_rfl
 liesBuilder:=by kernel_rfl
 t5:=Tryz.underlying5
 a5:=Tryz.isAgg5
 z5:=Tryz.sizeOf5
 v5:=Tryz.zeroValue5
 infoByte:=by kernel_rfl
 cellsByte:=by kernel_rfl
 sizeByte:=by kernel_rfl
 neB5:=by decide }
open Go.RowKit in
theorem Tryz.Builder_String (B b:Nat)(l:List UInt8)(w:World)(h:Lib.IsBuilder 257 5 B b (Lib.byteCells l) w)(h0:l≠ []):
  Calls Tryz.prog 141 #[.pointer (some ⟨b,0,none⟩)] w fun e w'=>e= .returned (.string ⟨l.toArray⟩)∧Below B w w':=Any.Builder_String Tryz.lays169 Tryz.Builder_Extra_169 B b l w h h0
open Go.RowKit in
theorem Tryz.Builder_String_empty (B b:Nat)(w:World)(h:Lib.IsBuilder 257 5 B b [] w)(hBw:B≤w.heap.size):
  Calls Tryz.prog 141 #[.pointer (some ⟨b,0,none⟩)] w fun e w'=>e= .returned (.string ⟨#[]⟩)∧Below B w w':=Any.Builder_String_empty Tryz.lays169 Tryz.Builder_Extra_169 B b w h hBw
end Go.Proofs
namespace Go.Proofs.YtmgmdiekpmffbaaGreatDoor.Giv
open Go Go.RowKit Go.Proofs.YtmgmdiekpmffbaaGreatDoor.DecM Go.Proofs.YtmgmdiekpmffbaaGreatDoorW.PrintWords Go.Proofs.YtmgmdiekpmffbaaGreatDoorW.PrintLast
def arr (zs:List Int):Array Value:=(zs.map (.int .u8)).toArray
theorem arr_get (zs:List Int)(i:Nat)(h:i<zs.length):(arr zs)[i]? =some (.int .u8 (zs.getD i 0)):=by
 simp[arr,h]
theorem arr_set (zs:List Int)(i:Nat)(c:Int):(arr zs).setIfInBounds i (.int .u8 c)=arr (zs.set i c):=by
 simp[arr,List.map_set]
def NumInv (v:Nat)(i u:Nat)(zs:List Int):Prop:=1≤i∧i≤20∧u<10 ^ i∧zs.length=21∧numL v++ [59]=numL u++zs.drop i
theorem slice_arr (a:Nat)(j:Nat)(h:j≤20)(W:World):(Instr.sliceAt 189 (.pointer (some ⟨a,0,none⟩)) (some (.int .i64 (j:Int))) none none).run Tryz.prog W= .ok (.slice (some ⟨a,j,none⟩) (21 - j) (21 - j)) W:=by
 have hl:Tryz.prog.arrayLen 189=21:=by kernel_rfl
 have hs:((sizeOf (Tryz.prog.elem 189)).run Tryz.prog W)= .ok 1 W:=by kernel_rfl
 rw[run_sliceAt_array_l W 189 ⟨a,0,none⟩ (by kernel_rfl) .i64 (j:Int) (by omega) (by rw[hl];omega),hs,hl]
 simp only[Result.andThen,slicedAt,Int.toNat_natCast,Nat.mul_one]
 rw[if_neg (by omega)]
 simp[Addr.add]
 omega
theorem str_arr {W:World}{B:Nat}{zs:List Int}(hb:W.heap[B]? =some (.cells (arr zs) 189 (0,0)))(hl:zs.length=21)(j:Nat)(h:j≤20):
  (convert 108 9 (.slice (some ⟨B,j,none⟩) (21 - j) (21 - j))).run Tryz.prog W= .ok (.string (strOfNums (zs.drop j))) W:=by
 refine run_convert_bytes_arg W 108 5 Tryz.underlying108 Tryz.underlying5 B j (21 - j) (21 - j) (zs.drop j) (by simp[hl]) ?_ 9 Tryz.underlying9
 intro i hi
 rw[blk_cell hb (j+i),arr_get zs (j+i) (by omega)]
 simp[List.getD,List.getElem?_drop]
theorem num_calls (v:Nat)(w:World)(hv:v<18446744073709551616):
  Calls Tryz.prog 48 #[.int .u64 v] w fun e w'=>e= .returned (.string (numS v))∧Below w.heap.size w w':=by
 go_enter Tryz.func48,Tryz.ntmps48
 go_wp2
 go_loopw [0,4] (fun x y wr=>∃(i u:Nat) (zs:List Int),x= .int .u64 u∧y= .int .i64 i∧Hid (NumInv v i u zs)∧wr.heap[w.heap.size]? =some (.cells (arr zs) 189 (0,0))∧Below w.heap.size w wr) (fun _ y _=>(intOf y).toNat)
 case atStart=>
  refine⟨20,v,[0,0,0,0,0,0,0,0,0,0,0,0,0,0,0,0,0,0,0,0,59],rfl,rfl,Lib.hid ⟨by omega,by omega,by omega,rfl,rfl⟩,?_,(Below.refl _ _).alloc (Nat.le_refl _) _⟩
  exact blk_new w _
 case round=>
  obtain⟨i,u,zs,rfl,rfl,HI,hblk,hB⟩:=hrel
  obtain⟨h1,h20,hu,hlen,hsum⟩:=HI.out
  obtain⟨j,rfl⟩:∃j,i=j+1:=⟨i - 1,by omega⟩
  have hu64:u<100000000000000000000:=by
   have:10 ^ (j+1)≤10 ^ 20:=Nat.pow_le_pow_right (by omega) h20
   omega
  have hsets:(wr.setCell ⟨w.heap.size,j,none⟩ (.int .u8 (48+(u:Int) % 10))).heap[w.heap.size]? =some (.cells (arr (zs.set j (48+(u:Int) % 10))) 189 (0,0)):=by
   rw[←arr_set]
   exact blk_set hblk j _
  have hB':Below w.heap.size w (wr.setCell ⟨w.heap.size,j,none⟩ (.int .u8 (48+(u:Int) % 10))):=hB.setCell (Nat.le_refl _) _
  have hd:=set_drop zs j (48+(u:Int) % 10) (by omega)
  have hc:wr.cell? ⟨w.heap.size,j,none⟩=some (.int .u8 (zs.getD j 0)):=by rw[blk_cell hblk j];exact arr_get zs j (by omega)
  have hf:=blk_frozen hblk j
  have hsl:=slice_arr w.heap.size j (by omega)
  have hcv:=str_arr hsets (by simpa using hlen) j (by omega)
  have HS:=Lib.hid hsets
  have HD:=Lib.hid hd
  have HB:=Lib.hid hB'
  clear hu hlen hsum h1 hsets hd hB' hB hblk
  by_cases h10:u<10
  ·have HE:Hid (strOfNums ((zs.set j (48+(u:Int) % 10)).drop j)=numS v):=by
    refine Lib.hid ?_
    obtain⟨_,_,_,_,hsum⟩:=HI.out
    rw[HD.out]
    unfold numS
    rw[hsum,numL_small h10]
    have:(u:Int) % 10=u:=by omega
    rw[this]
    rfl
   have hq:((u:Int) / 10==0)=true:=by
    have:(u:Int) / 10=0:=by omega
    rw[this];rfl
   go_wp2
   go_ret
   exact⟨by rw[HE.out];rfl,HB.out⟩
  ·have HN:Hid (NumInv v j (u / 10) (zs.set j (48+(u:Int) % 10))):=by
    refine Lib.hid ?_
    obtain⟨_,_,hu,hlen,hsum⟩:=HI.out
    obtain⟨h2,h3⟩:=pow_step hu h10
    refine⟨by omega,by omega,h3,by simpa using hlen,?_⟩
    rw[HD.out,hsum,numL_big h10,List.append_assoc]
    rfl
   have hq:((u:Int) / 10==0)=false:=by
    have:¬(u:Int) / 10=0:=by omega
    simpa using this
   go_wp2
   go_roundw
   case rel=>exact⟨j,u / 10,_,by go_num,rfl,HN,HS.out,HB.out⟩
   case measure=>simp [intOf]
end Go.Proofs.YtmgmdiekpmffbaaGreatDoor.Giv
namespace Go.Proofs.YtmgmdiekpmffbaaGreatDoor.Wire
open Go Go.RowKit Go.Proofs.YtmgmdiekpmffbaaGreatDoor.DecM Go.Proofs.YtmgmdiekpmffbaaGreatDoor.Giv Go.Proofs.YtmgmdiekpmffbaaGreatDoorW.PrintWords Go.Proofs.YtmgmdiekpmffbaaGreatDoorW.PrintLast Go.Proofs.YtmgmdiekpmffbaaGreatDoorW.PrintMore
theorem byte_len (s:ByteArray):s.data.toList.length=s.size:=by
 rw[Array.length_toList]
 rfl
theorem cells_len (l:List UInt8):(Lib.byteCells l).length=l.length:=by
 unfold Lib.byteCells
 rw[List.length_map]
theorem cells_str (s:ByteArray):Lib.strCells s=Lib.byteCells s.data.toList:=Lib.strCells_eq s
theorem byteCells_append (a b:List UInt8):Lib.byteCells (a++b)=Lib.byteCells a++Lib.byteCells b:=by
 unfold Lib.byteCells
 rw[List.map_append]
theorem wrap_small {x:Int}(h: -9223372036854775808≤x∧x≤9223372036854775807):wrap64 x=x:=by
 unfold wrap64
 omega
theorem rd_text (l:List ByteArray)(i:Nat)(hi:i<l.length):rdOf ByteArray.empty l (i:Int)=l[i]:=by
 unfold rdOf
 simp[List.getElem?_eq_getElem hi]
theorem rd_num (l:List Int)(i:Nat)(hi:i<l.length):rd l (i:Int)=l[i]:=by
 unfold rd
 simp[List.getElem?_eq_getElem hi]
def textW (t:ByteArray):ByteArray:=numS t.size++t
theorem string_any (B b:Nat)(l:List UInt8)(w:World)(h:Lib.IsBuilder 257 5 B b (Lib.byteCells l) w)(hBw:B≤w.heap.size):
  Calls Tryz.prog 141 #[.pointer (some ⟨b,0,none⟩)] w fun e w'=>e= .returned (.string ⟨l.toArray⟩)∧Below B w w':=by
 cases l with
 |nil=>exact Tryz.Builder_String_empty B b w h hBw
 |cons x r=>exact Tryz.Builder_String B b (x :: r) w h (by simp)
theorem build_below {B b:Nat}{p:Value}{bs:List Value}{w w1:World}(h:Lib.BuilderAt 257 5 B b p bs w)(hb:Below w.heap.size w w1):Lib.BuilderAt 257 5 B b p bs w1:=by
 have hlt:=h.lt
 obtain⟨hB,v,hbk,hown,hne⟩:=h
 exact⟨hB,v,(hb.block b hlt).trans hbk,pw_own_below hown hb,hne⟩
theorem isBuild_below {B b:Nat}{bs:List Value}{w w1:World}(h:Lib.IsBuilder 257 5 B b bs w)(hb:Below w.heap.size w w1):Lib.IsBuilder 257 5 B b bs w1:=
 h.imp (fun h=>build_below h hb) (fun h=>build_below h hb)
theorem text_calls (t:ByteArray)(w:World)(ht:t.size≤4611686018427387904):
  Calls Tryz.prog 79 #[.string t] w fun e w'=>e= .returned (.string (textW t))∧Below w.heap.size w w':=by
 have hz:=numS_size t.size (by omega)
 have HC:=Lib.hid (num_calls t.size)
 have HE:Hid (textW t=numS t.size++t):=Lib.hid rfl
 go_enter Tryz.func79,Tryz.ntmps79
 go_wp2_with (go_at_call 48;refine(HC.out _ (by omega)).mono ?_;rintro e w1 ⟨rfl,hb⟩)
 go_ret
 exact⟨by rw[HE.out];rfl,hb⟩
def glue (l:List ByteArray):List UInt8:=(l.map fun t=>t.data.toList).flatten
theorem glue_succ (l:List ByteArray)(i:Nat)(hi:i<l.length):glue (l.take (i+1))=glue (l.take i)++(l[i]).data.toList:=by
 unfold glue
 rw[List.take_succ_eq_append_getElem hi,List.map_append,List.flatten_append]
 simp only[List.map_cons,List.map_nil,List.flatten_cons,List.flatten_nil,List.append_nil]
theorem glue_le (l:List ByteArray)(i:Nat):(glue (l.take i)).length≤(glue l).length:=by
 have e:glue l=glue (l.take i)++glue (l.drop i):=by
  unfold glue
  rw[←List.flatten_append,←List.map_append,List.take_append_drop]
 rw[e,List.length_append]
 omega
theorem glue_at (l:List ByteArray)(i:Nat)(hi:i<l.length):(glue (l.take i)).length+(l[i]).size≤(glue l).length:=by
 have h:=glue_le l (i+1)
 rw[glue_succ l i hi,List.length_append,byte_len] at h
 exact h
def numP (l:List Int):List ByteArray:=l.map fun x=>numS x.toNat
def textP (l:List ByteArray):List ByteArray:=l.map textW
def numsS (l:List Int):ByteArray:=⟨(glue (numP l)).toArray⟩
def textsW (l:List ByteArray):ByteArray:=⟨(glue (textP l)).toArray⟩
theorem glue_len:∀(l:List ByteArray) (n:Nat),(∀t∈l,t.size≤n)→(glue l).length≤n*l.length
 | [],_,_=>Nat.zero_le _
 |t :: l,n,h=>by
  have h1:=h t (List.mem_cons_self ..)
  have h2:=glue_len l n (fun x hx=>h x (List.mem_cons_of_mem _ hx))
  have e:glue (t :: l)=t.data.toList++glue l:=rfl
  rw[e,List.length_append,byte_len,List.length_cons,Nat.mul_succ]
  omega
theorem numP_len (l:List Int)(hx:∀x∈l,0≤x∧x≤4611686018427387904):(glue (numP l)).length≤21*l.length:=by
 have h:=glue_len (numP l) 21 (by
  intro t ht
  obtain⟨x,hx',rfl⟩:=List.mem_map.1 ht
  have:=hx x hx'
  exact numS_size x.toNat (by omega))
 unfold numP at h⊢
 rwa [List.length_map] at h
theorem nums_calls (A0:Option Addr)(c0:Nat)(l0:List Int)(w:World)(hr0:Kd.C (Kd.int .i64) w A0 l0.length l0)(hc0:l0.length≤c0)(hl:l0.length≤1048576)(hx:∀x∈l0,0≤x∧x≤4611686018427387904):
  Calls Tryz.prog 81 #[.slice A0 l0.length c0] w fun e w'=>e= .returned (.string (numsS l0))∧Below w.heap.size w w':=by
 have hsz:=numP_len l0 hx
 have hlp:(numP l0).length=l0.length:=List.length_map ..
 have h0:Lib.IsBuilder 257 5 w.heap.size w.heap.size [] (w.alloc (.cells #[.pointer none,.slice none 0 0] 257)):=Lib.fresh_isBuilder _ _ w
 have b0:Below w.heap.size w (w.alloc (.cells #[.pointer none,.slice none 0 0] 257)):=(Below.refl _ w).alloc (Nat.le_refl _) _
 have h0':Aside0 (Lib.IsBuilder 257 5 w.heap.size w.heap.size (Lib.byteCells (glue ((numP l0).take 0))) (w.alloc (.cells #[.pointer none,.slice none 0 0] 257))):=⟨h0⟩
 have b0':Aside0 (Below w.heap.size w (w.alloc (.cells #[.pointer none,.slice none 0 0] 257))):=⟨b0⟩
 have HS:=Lib.hid hsz
 have HR:=Lib.hid hr0
 have HC:=Lib.hid hc0
 have HL:=Lib.hid hl
 have HX:=Lib.hid hx
 have HP:=Lib.hid hlp
 have HA:Hid (∀i (h:i<l0.length),(numP l0)[i]? =some (numS (l0[i]).toNat)):=Lib.hid fun i h=>by simp[numP,List.getElem?_eq_getElem h]
 clear hsz hr0 hc0 hl hx hlp h0 b0
 go_enter Tryz.func81,Tryz.ntmps81
 go_wp2
 go_loopg [8] l0.length (fun kq v8 w'=>∃i:Nat,v8= .int .i64 i∧Aside0 (kq+i=l0.length)∧Aside0 (Lib.IsBuilder 257 5 w.heap.size w.heap.size (Lib.byteCells (glue ((numP l0).take i))) w')∧Aside0 (Below w.heap.size w w'))
 case atStart=>exact⟨0,rfl,⟨by omega⟩,h0',b0'⟩
 case round=>
  obtain⟨i,rfl,HK,HB,HW⟩:=hrel
  clear h0' b0'
  by_cases hi:i<l0.length
  ·have c0b:decide ((i:Int)<(l0.length:Int))=true:=decide_eq_true (by omega)
   obtain⟨ad,e1,hx⟩:=Kd.at_int (Kd.C_below HR.out HW.out) (i:Int) (by omega) (by omega)
   cases e1
   have hxb:=HX.out l0[i] (List.getElem_mem hi)
   have HAi:=Lib.hid (HA.out i hi)
   rw[rd_num l0 i hi,Int.toNat_natCast] at hx
   have hip:i<(numP l0).length:=by rw[HP.out];exact hi
   have ht:=glue_at (numP l0) i hip
   have hsu0:=glue_succ (numP l0) i hip
   have hge:=HAi.out
   rw[List.getElem?_eq_getElem hip] at hge
   rw[Option.some.inj hge] at ht hsu0
   clear hge hip
   obtain⟨v,hv⟩:∃v:Nat,l0[i]=(v:Int):=⟨(l0[i]).toNat,by omega⟩
   rw[hv] at hx hxb ht hsu0
   rw[Int.toNat_natCast] at ht hsu0
   have hwr:IntKind.u64.wrap (v:Int)=(v:Int):=by
    unfold IntKind.wrap
    simp[IntKind.bits,IntKind.signed]
    omega
   have HN:=Lib.hid fun w=>num_calls v w (by omega)
   have hp:((0:Int)≤(i:Int))=True:=eq_true (by omega)
   have hq:((i:Int)<(l0.length:Int))=True:=eq_true (by omega)
   have HQ:=Lib.hid ht
   have HU:=Lib.hid hsu0
   clear ht hsu0 hv HAi
   go_wp2_with (go_at_call 48;refine(HN.out _).mono ?_)
   rintro e w3 ⟨rfl,b3⟩
   have h3:=isBuild_below HB.out b3
   have b3':Below w.heap.size w w3:=HW.out.trans (b3.mono HW.out.size)
   go_wp2_with (go_at_call 140;refine(Build.writeString w.heap.size w.heap.size (Lib.byteCells (glue ((numP l0).take i))) (numS v) _ h3 (by rw[cells_len];have:=HQ.out;have:=HS.out;have:=HL.out;omega) b3'.size).mono ?_)
   rintro e w4 ⟨rfl,h4,b4⟩
   rw[cells_str,←byteCells_append,←HU.out] at h4
   have b4':Below w.heap.size w w4:=b3'.trans b4
   go_wp2
   repeat (go_quiet (fail);try go_wp2)
   go_roundg (gk - 1)
   case measure=>have:=HK.out;omega
   case rel=>exact⟨i+1,by rw[wrap_small (by have:=HL.out;omega)];rfl,⟨by have:=HK.out;omega⟩,⟨.inr h4⟩,⟨b4'⟩⟩
  ·have c0b:decide ((i:Int)<(l0.length:Int))=false:=decide_eq_false (by omega)
   have e:i=l0.length:=by have:=HK.out;omega
   subst e
   have h3:=HB.out
   have e2:(numP l0).take l0.length=numP l0:=by rw[←HP.out,List.take_length]
   rw[e2] at h3
   go_wp2_with (go_at_call 141;refine(string_any w.heap.size w.heap.size (glue (numP l0)) _ h3 HW.out.size).mono ?_)
   rintro e w3 ⟨rfl,b3⟩
   go_wp2
   go_ret
   exact⟨rfl,HW.out.trans b3⟩
theorem texts_calls (A0:Option Addr)(c0:Nat)(l0:List ByteArray)(w:World)(hr0:Kd.C Kd.string w A0 l0.length l0)(hc0:l0.length≤c0)(hl:l0.length≤1048576)(hsz:(glue (textP l0)).length≤70368744177664):
  Calls Tryz.prog 82 #[.slice A0 l0.length c0] w fun e w'=>e= .returned (.string (textsW l0))∧Below w.heap.size w w':=by
 have hlp:(textP l0).length=l0.length:=List.length_map ..
 have h0:Lib.IsBuilder 257 5 w.heap.size w.heap.size [] (w.alloc (.cells #[.pointer none,.slice none 0 0] 257)):=Lib.fresh_isBuilder _ _ w
 have b0:Below w.heap.size w (w.alloc (.cells #[.pointer none,.slice none 0 0] 257)):=(Below.refl _ w).alloc (Nat.le_refl _) _
 have h0':Aside0 (Lib.IsBuilder 257 5 w.heap.size w.heap.size (Lib.byteCells (glue ((textP l0).take 0))) (w.alloc (.cells #[.pointer none,.slice none 0 0] 257))):=⟨h0⟩
 have b0':Aside0 (Below w.heap.size w (w.alloc (.cells #[.pointer none,.slice none 0 0] 257))):=⟨b0⟩
 have HS:=Lib.hid hsz
 have HR:=Lib.hid hr0
 have HC:=Lib.hid hc0
 have HL:=Lib.hid hl
 have HP:=Lib.hid hlp
 have HA:Hid (∀i (h:i<l0.length),(textP l0)[i]? =some (textW l0[i])):=Lib.hid fun i h=>by simp[textP,List.getElem?_eq_getElem h]
 clear hsz hr0 hc0 hl hlp h0 b0
 go_enter Tryz.func82,Tryz.ntmps82
 go_wp2
 go_loopg [8] l0.length (fun kq v8 w'=>∃i:Nat,v8= .int .i64 i∧Aside0 (kq+i=l0.length)∧Aside0 (Lib.IsBuilder 257 5 w.heap.size w.heap.size (Lib.byteCells (glue ((textP l0).take i))) w')∧Aside0 (Below w.heap.size w w'))
 case atStart=>exact⟨0,rfl,⟨by omega⟩,h0',b0'⟩
 case round=>
  obtain⟨i,rfl,HK,HB,HW⟩:=hrel
  clear h0' b0'
  by_cases hi:i<l0.length
  ·have c0b:decide ((i:Int)<(l0.length:Int))=true:=decide_eq_true (by omega)
   obtain⟨ad,e1,hx⟩:=Kd.at_string (Kd.C_below HR.out HW.out) (i:Int) (by omega) (by omega)
   cases e1
   have HAi:=Lib.hid (HA.out i hi)
   rw[rd_text l0 i hi,Int.toNat_natCast] at hx
   have hip:i<(textP l0).length:=by rw[HP.out];exact hi
   have ht:=glue_at (textP l0) i hip
   have hsu0:=glue_succ (textP l0) i hip
   have hge:=HAi.out
   rw[List.getElem?_eq_getElem hip] at hge
   rw[Option.some.inj hge] at ht hsu0
   clear hge hip
   generalize l0[i]=t at hx ht hsu0
   have htz:t.size≤(textW t).size:=by
    unfold textW
    rw[ByteArray.size_append]
    omega
   have HN:=Lib.hid fun w=>text_calls t w (by have:=HS.out;omega)
   have hp:((0:Int)≤(i:Int))=True:=eq_true (by omega)
   have hq:((i:Int)<(l0.length:Int))=True:=eq_true (by omega)
   have HQ:=Lib.hid ht
   have HU:=Lib.hid hsu0
   clear ht hsu0 HAi htz
   go_wp2_with (go_at_call 79;refine(HN.out _).mono ?_)
   rintro e w3 ⟨rfl,b3⟩
   have h3:=isBuild_below HB.out b3
   have b3':Below w.heap.size w w3:=HW.out.trans (b3.mono HW.out.size)
   go_wp2_with (go_at_call 140;refine(Build.writeString w.heap.size w.heap.size (Lib.byteCells (glue ((textP l0).take i))) (textW t) _ h3 (by rw[cells_len];have:=HQ.out;have:=HS.out;omega) b3'.size).mono ?_)
   rintro e w4 ⟨rfl,h4,b4⟩
   rw[cells_str,←byteCells_append,←HU.out] at h4
   have b4':Below w.heap.size w w4:=b3'.trans b4
   go_wp2
   repeat (go_quiet (fail);try go_wp2)
   go_roundg (gk - 1)
   case measure=>have:=HK.out;omega
   case rel=>exact⟨i+1,by rw[wrap_small (by have:=HL.out;omega)];rfl,⟨by have:=HK.out;omega⟩,⟨.inr h4⟩,⟨b4'⟩⟩
  ·have c0b:decide ((i:Int)<(l0.length:Int))=false:=decide_eq_false (by omega)
   have e:i=l0.length:=by have:=HK.out;omega
   subst e
   have h3:=HB.out
   have e2:(textP l0).take l0.length=textP l0:=by rw[←HP.out,List.take_length]
   rw[e2] at h3
   go_wp2_with (go_at_call 141;refine(string_any w.heap.size w.heap.size (glue (textP l0)) _ h3 HW.out.size).mono ?_)
   rintro e w3 ⟨rfl,b3⟩
   go_wp2
   go_ret
   exact⟨rfl,HW.out.trans b3⟩
end Go.Proofs.YtmgmdiekpmffbaaGreatDoor.Wire
namespace Go.Proofs.YtmgmdiekpmffbaaGreatDoor.Err
open Go Go.RowKit Go.Extern.Stop Go.Stop Go.Extern
theorem as_nil (t:Value)(w:World):
  Calls Tryz.prog 114 #[.nilIface,t] w fun e w'=>e= .returned (.bool false)∧w'=w:=by
 go_enter Tryz.func114,Tryz.ntmps114
 go_wp2
 go_ret
 exact⟨rfl,rfl⟩
theorem E.valueOf27 (t:Addr)(w:World):(ReflectliteValue.unpack (.iface 220 (.pointer (some t)))).run Tryz.prog w
  = .ok (.agg #[.pointer (some ⟨1,220,none⟩),.pointer (some ⟨w.heap.size,0,none⟩),.int .u64 150]) (w.alloc (.cells #[.pointer (some t)] 220)):=by kernel_rfl
theorem E.type27 (a:Addr)(w:World):(ReflectliteValue.methodAny (ReflectliteValue.valueError "reflectlite.Value.Type" 0) (fun t _ _ _=>ReflectliteType.toType t) #[.agg #[.pointer (some ⟨1,220,none⟩),.pointer (some a),.int .u64 150]]).run Tryz.prog w
  = .ok (.iface 320 (.agg #[.pointer (some ⟨1,220,none⟩)])) w:=by kernel_rfl
theorem E.methodKind (h:Value)(w:World):(Go.method 552 320 (.agg #[h]) "Kind").run Tryz.prog w= .ok (310,h) w:=by kernel_rfl
theorem E.kind27 (w:World):((ReflectliteType.abiMethod fun t=>(fun a:Nat=>Value.int IntKind.u8 (a:Int)) <$> Rtype.kind t) #[.pointer (some ⟨1,220,none⟩)]).run Tryz.prog w= .ok (.int .u8 22) w:=by kernel_rfl
theorem E.kind25 (w:World):((ReflectliteType.abiMethod fun t=>(fun a:Nat=>Value.int IntKind.u8 (a:Int)) <$> Rtype.kind t) #[.pointer (some ⟨1,218,none⟩)]).run Tryz.prog w= .ok (.int .u8 22) w:=by kernel_rfl
theorem rlm (z:Sem Value)(f:TypeId→Addr→Nat→Nat→Sem Value)(v:Value):
  ReflectliteValue.method z f #[v]=(do match←ReflectliteValue.parts v with|none=>z|some (t,a,fl)=>f t a fl (fl % 32)):=rfl
theorem E.parts27 (a:Addr)(w:World):(ReflectliteValue.parts (.agg #[.pointer (some ⟨1,220,none⟩),.pointer (some a),.int .u64 150])).run Tryz.prog w= .ok (some (220,a,150)) w:=by kernel_rfl
theorem E.isNil27 (a p:Addr)(W:World)(ha:W.cell? a=some (.pointer (some p))):
  (ReflectliteValue.method (ReflectliteValue.valueError "reflectlite.Value.IsNil" 0) ReflectliteValue.isNil #[.agg #[.pointer (some ⟨1,220,none⟩),.pointer (some a),.int .u64 150]]).run Tryz.prog W= .ok (.bool false) W:=by
 rw[rlm]
 simp only[Sem.run_bind,E.parts27,Result.andThen]
 simp[ReflectliteValue.isNil,loadVar,isAgg,underlying,Tryz.underlying220,ha,Result.andThen]
theorem E.methodElem (h:Value)(w:World):(Go.method 552 320 (.agg #[h]) "Elem").run Tryz.prog w= .ok (326,.agg #[h]) w:=by kernel_rfl
theorem E.methodImplements (h:Value)(w:World):(Go.method 552 320 (.agg #[h]) "Implements").run Tryz.prog w= .ok (327,.agg #[h]) w:=by kernel_rfl
theorem E.methodAssignableTo (h:Value)(w:World):(Go.method 552 320 (.agg #[h]) "AssignableTo").run Tryz.prog w= .ok (324,.agg #[h]) w:=by kernel_rfl
theorem E.elem27 (w:World):(ReflectliteType.method ReflectliteType.elem #[.agg #[.pointer (some ⟨1,220,none⟩)]]).run Tryz.prog w= .ok (.iface 320 (.agg #[.pointer (some ⟨1,218,none⟩)])) w:=by kernel_rfl
theorem E.implements25 (w:World):(ReflectliteType.relation "Implements" ReflectliteType.implements_ #[.agg #[.pointer (some ⟨1,218,none⟩)],.iface 320 (.agg #[.pointer (some ⟨1,153,none⟩)])]).run Tryz.prog w= .ok (.bool true) w:=by kernel_rfl
theorem E.typeOf25 (v:Value)(w:World):(ReflectliteType.typeOf #[.iface 218 v]).run Tryz.prog w= .ok (.iface 320 (.agg #[.pointer (some ⟨1,218,none⟩)])) w:=by kernel_rfl
theorem E.assignable25 (w:World):(ReflectliteType.relation "AssignableTo" ReflectliteType.assignableTo #[.agg #[.pointer (some ⟨1,218,none⟩)],.iface 320 (.agg #[.pointer (some ⟨1,218,none⟩)])]).run Tryz.prog w= .ok (.bool true) w:=by kernel_rfl
theorem E.valueOf25 (e:Addr)(w:World):(ReflectliteValue.unpack (.iface 218 (.pointer (some e)))).run Tryz.prog w
  = .ok (.agg #[.pointer (some ⟨1,218,none⟩),.pointer (some ⟨w.heap.size,0,none⟩),.int .u64 150]) (w.alloc (.cells #[.pointer (some e)] 218)):=by kernel_rfl
theorem E.elemOf27 (w:World):(Rtype.elem? 220).run Tryz.prog w= .ok (some 218) w:=by kernel_rfl
theorem E.mk25 (p:Addr)(w:World):(ReflectliteValue.mk 218 p ReflectliteValue.flagAddr).run Tryz.prog w= .ok (.agg #[.pointer (some ⟨1,218,none⟩),.pointer (some p),.int .u64 406]) w:=by kernel_rfl
theorem E.elemV27 (a p:Addr)(W:World)(ha:W.cell? a=some (.pointer (some p))):
  (ReflectliteValue.method (ReflectliteValue.valueError "reflectlite.Value.Elem" 0) ReflectliteValue.elem #[.agg #[.pointer (some ⟨1,220,none⟩),.pointer (some a),.int .u64 150]]).run Tryz.prog W
   = .ok (.agg #[.pointer (some ⟨1,218,none⟩),.pointer (some p),.int .u64 406]) W:=by
 rw[rlm]
 simp only[Sem.run_bind,E.parts27,Result.andThen]
 simp[ReflectliteValue.elem,loadVar,isAgg,underlying,Tryz.underlying220,ha,Result.andThen,E.elemOf27,E.mk25]
theorem rls (v x:Value):ReflectliteValue.set #[v,x]=(do
  let (some (dst,a,fl),some (src,b,_)):=(←ReflectliteValue.parts v,←ReflectliteValue.parts x)
   |unsupported (.noEntry "extern/(internal/reflectlite.Value).Set.zeroValue")
  if fl / ReflectliteValue.flagAddr % 2==0 then unsupported (.noEntry "extern/(internal/reflectlite.Value).Set.unaddressable")
  let val←loadVar src b
  if←Rtype.directlyAssignable dst src then storeVar dst a val
  else if←Rtype.implements dst src then
   if(←Rtype.kind src)==20 then
    match val with
    | .nilIface=>unsupported (.noEntry "extern/reflectlite: a nil value of one interface type handed on as a value of another")
    |_=>storeVar dst a val
   else storeVar dst a (.iface src val)
  else panicString ("reflectlite.Set: value of type " ++(←Rtype.spelt src)++ " is not assignable to type " ++(←Rtype.spelt dst))
  pure (.tuple #[])):=rfl
theorem E.parts25a (a:Addr)(w:World):(ReflectliteValue.parts (.agg #[.pointer (some ⟨1,218,none⟩),.pointer (some a),.int .u64 406])).run Tryz.prog w= .ok (some (218,a,406)) w:=by kernel_rfl
theorem E.parts25 (a:Addr)(w:World):(ReflectliteValue.parts (.agg #[.pointer (some ⟨1,218,none⟩),.pointer (some a),.int .u64 150])).run Tryz.prog w= .ok (some (218,a,150)) w:=by kernel_rfl
theorem E.direct25 (w:World):(Rtype.directlyAssignable 218 218).run Tryz.prog w= .ok true w:=by kernel_rfl
theorem E.set25 (ta b e:Addr)(old:Value)(W:World)(hb:W.cell? b=some (.pointer (some e)))(ht:W.cell? ta=some old)(hf:W.frozen? ta=false):
  (ReflectliteValue.set #[.agg #[.pointer (some ⟨1,218,none⟩),.pointer (some ta),.int .u64 406],.agg #[.pointer (some ⟨1,218,none⟩),.pointer (some b),.int .u64 150]]).run Tryz.prog W
   = .ok (.tuple #[]) (W.setCell ta (.pointer (some e))):=by
 rw[rls]
 simp only[Sem.run_bind,E.parts25a,E.parts25,Result.andThen]
 simp[ReflectliteValue.flagAddr,loadVar,isAgg,underlying,Tryz.underlying218,hb,Result.andThen,E.direct25,storeVar,Value.cells,storeCells,Addr.add]
 rw[run_store Tryz.prog W ta _ _ (by rfl)]
 simp[ht,hf]
theorem as_hit (e t:Addr)(old:Value)(w:World)(hg:w.cell? ⟨0,0,none⟩=some (.iface 320 (.agg #[.pointer (some ⟨1,153,none⟩)])))(ht0:w.cell? t=some old)(hf0:w.frozen? t=false):
  Calls Tryz.prog 114 #[.iface 218 (.pointer (some e)),.iface 220 (.pointer (some t))] w fun ev w'=>ev= .returned (.bool true)∧w'=((((w.alloc (.cells #[.pointer (some t)] 220)).alloc (.cells #[.pointer (some ⟨1,220,none⟩),.pointer (some ⟨w.heap.size,0,none⟩),.int .u64 150] 291)).alloc (.cells #[.pointer (some ⟨1,220,none⟩),.pointer (some ⟨w.heap.size,0,none⟩),.int .u64 150] 291)).alloc (.cells #[.pointer (some e)] 218)).setCell t (.pointer (some e)):=by
 have h6:=@run_callFunc_extern Tryz.prog 165 _ (fun args=>ReflectliteValue.unpack (args.getD 0 (.tuple #[]))) Tryz.func165 (by kernel_rfl) (by kernel_rfl) (by kernel_rfl) (by kernel_rfl)
 have h7:=@run_callFunc_extern Tryz.prog 166 _ (ReflectliteValue.methodAny (ReflectliteValue.valueError "reflectlite.Value.Type" 0) (fun t _ _ _=>ReflectliteType.toType t)) Tryz.func166 (by kernel_rfl) (by kernel_rfl) (by kernel_rfl) (by kernel_rfl)
 have h8:=@run_callFunc_extern Tryz.prog 167 _ (ReflectliteValue.method (ReflectliteValue.valueError "reflectlite.Value.IsNil" 0) ReflectliteValue.isNil) Tryz.func167 (by kernel_rfl) (by kernel_rfl) (by kernel_rfl) (by kernel_rfl)
 have h27:=@run_callFunc_extern Tryz.prog 310 _ (ReflectliteType.abiMethod fun t=>do pure (.int .u8 (←Rtype.kind t))) Tryz.func310 (by kernel_rfl) (by kernel_rfl) (by kernel_rfl) (by kernel_rfl)
 have h37:=@run_callFunc_extern Tryz.prog 326 _ (ReflectliteType.method ReflectliteType.elem) Tryz.func326 (by kernel_rfl) (by kernel_rfl) (by kernel_rfl) (by kernel_rfl)
 have h38:=@run_callFunc_extern Tryz.prog 327 _ (ReflectliteType.relation "Implements" ReflectliteType.implements_) Tryz.func327 (by kernel_rfl) (by kernel_rfl) (by kernel_rfl) (by kernel_rfl)
 have h10:=@run_callFunc_extern Tryz.prog 143 _ ReflectliteType.typeOf Tryz.func143 (by kernel_rfl) (by kernel_rfl) (by kernel_rfl) (by kernel_rfl)
 have h35:=@run_callFunc_extern Tryz.prog 324 _ (ReflectliteType.relation "AssignableTo" ReflectliteType.assignableTo) Tryz.func324 (by kernel_rfl) (by kernel_rfl) (by kernel_rfl) (by kernel_rfl)
 have h11:=@run_callFunc_extern Tryz.prog 199 _ (ReflectliteValue.method (ReflectliteValue.valueError "reflectlite.Value.Elem" 0) ReflectliteValue.elem) Tryz.func199 (by kernel_rfl) (by kernel_rfl) (by kernel_rfl) (by kernel_rfl)
 have h12:=@run_callFunc_extern Tryz.prog 200 _ ReflectliteValue.set Tryz.func200 (by kernel_rfl) (by kernel_rfl) (by kernel_rfl) (by kernel_rfl)
 have tO:=E.typeOf25
 have mA:=E.methodAssignableTo
 have a25:=E.assignable25
 have v25:=E.valueOf25
 have f6:=E.valueOf27
 have f7:=E.type27
 have mK:=E.methodKind
 have mE:=E.methodElem
 have mI:=E.methodImplements
 have k27:=E.kind27
 have k25:=E.kind25
 have e27:=E.elem27
 have i25:=E.implements25
 have n8:=E.isNil27 ⟨w.heap.size,0,none⟩ t ((w.alloc (.cells #[.pointer (some t)] 220)).alloc (.cells #[.pointer (some ⟨1,220,none⟩),.pointer (some ⟨w.heap.size,0,none⟩),.int .u64 150] 291)) (by simp)
 have hlt:0<w.heap.size:=by
  rcases Nat.eq_zero_or_pos w.heap.size with h0|h
  ·simp [World.cell?,h0] at hg
  ·exact h
 have hg2:((w.alloc (.cells #[.pointer (some t)] 220)).alloc (.cells #[.pointer (some ⟨1,220,none⟩),.pointer (some ⟨w.heap.size,0,none⟩),.int .u64 150] 291)).cell? ⟨0,0,none⟩=some (.iface 320 (.agg #[.pointer (some ⟨1,153,none⟩)])):=by
  rw[World.cell?_alloc_lt _ _ ⟨0,0,none⟩ (by simp),World.cell?_alloc_lt _ _ ⟨0,0,none⟩ hlt];exact hg
 have htl:t.block<w.heap.size:=by
  rcases Nat.lt_or_ge t.block w.heap.size with h|h
  ·exact h
  ·simp [World.cell?,Array.getElem?_eq_none h] at ht0
 have el:=E.elemV27 ⟨w.heap.size,0,none⟩ t (((w.alloc (.cells #[.pointer (some t)] 220)).alloc (.cells #[.pointer (some ⟨1,220,none⟩),.pointer (some ⟨w.heap.size,0,none⟩),.int .u64 150] 291)).alloc (.cells #[.pointer (some ⟨1,220,none⟩),.pointer (some ⟨w.heap.size,0,none⟩),.int .u64 150] 291)) (by rw[World.cell?_alloc_lt _ _ ⟨w.heap.size,0,none⟩ (by simp;omega)];simp)
 have st:=E.set25 t ⟨w.heap.size+1+1+1,0,none⟩ e old ((((w.alloc (.cells #[.pointer (some t)] 220)).alloc (.cells #[.pointer (some ⟨1,220,none⟩),.pointer (some ⟨w.heap.size,0,none⟩),.int .u64 150] 291)).alloc (.cells #[.pointer (some ⟨1,220,none⟩),.pointer (some ⟨w.heap.size,0,none⟩),.int .u64 150] 291)).alloc (.cells #[.pointer (some e)] 218))
  (by rw[World.cell?_alloc_at _ _ _ _ (by simp)];rfl)
  (by rw[World.cell?_alloc_lt _ _ t (by simp;omega),World.cell?_alloc_lt _ _ t (by simp;omega),World.cell?_alloc_lt _ _ t (by simp;omega),World.cell?_alloc_lt _ _ t htl];exact ht0)
  (by rw[World.frozen?_alloc_old _ _ t (by simp;omega),World.frozen?_alloc_old _ _ t (by simp;omega),World.frozen?_alloc_old _ _ t (by simp;omega),World.frozen?_alloc_old _ _ t (Nat.ne_of_lt htl)];exact hf0)
 go_enter Tryz.func114,Tryz.ntmps114
 go_wp2
 refine wp_loop_rounds 1 ?_
 rw[rounds_succ]
 go_wp2
 go_ret
 exact⟨rfl,rfl⟩
theorem E.isTypeOf (v:Value)(w:World):(Extern.ReflectliteType.typeOf #[.iface 223 v]).run Tryz.prog w= .ok (.iface 320 (.agg #[.pointer (some ⟨1,223,none⟩)])) w:=by kernel_rfl
theorem E.isComparable (w:World):((Extern.ReflectliteType.method fun t=>do Rtype.noPackHeld "Comparable" t;(fun a=>Value.bool a.comparable) <$> typeInfo t) #[.agg #[.pointer (some ⟨1,223,none⟩)]]).run Tryz.prog w= .ok (.bool true) w:=by kernel_rfl
theorem E.isMethodComparable (v:Value)(w:World):(Go.method 552 320 v "Comparable").run Tryz.prog w= .ok (325,v) w:=by kernel_rfl
theorem E.noIsF (v:Value)(xT:TypeId)(w:World):(Instr.typeAssert (.iface 218 v) xT 322 true).run Tryz.prog w= .ok (.tuple #[.nilIface,.bool false]) w:=run_typeAssert_lacksB Tryz.underlying322 (by kernel_rfl) (by kernel_rfl) v xT w
theorem E.hasUnwrapF (v:Value)(xT:TypeId)(w:World):(Instr.typeAssert (.iface 218 v) xT 325 true).run Tryz.prog w= .ok (.tuple #[.iface 218 v,.bool true]) w:=run_typeAssert_hasB Tryz.underlying325 (by kernel_rfl) v xT w
theorem E.methodUnwrap (v:Value)(w:World):(Go.method 552 218 v "Unwrap").run Tryz.prog w= .ok (315,v) w:=by kernel_rfl
theorem E.oddEq (w:World):(binOp .eql 153 (.iface 223 (.agg #[])) (.iface 223 (.agg #[]))).run Tryz.prog w= .ok (.bool true) w:=by kernel_rfl
theorem is_hit (pb:Nat)(w:World)(h1:w.cell? ⟨pb,0+1,none⟩=some (.iface 223 (.agg #[]))):
  Calls Tryz.prog 88 #[.iface 218 (.pointer (some ⟨pb,0,none⟩)),.iface 223 (.agg #[])] w fun e w'=>e= .returned (.bool true)∧w'=w:=by
 have h8:=@run_callFunc_extern Tryz.prog 143 _ Extern.ReflectliteType.typeOf Tryz.func143 (by kernel_rfl) (by kernel_rfl) (by kernel_rfl) (by kernel_rfl)
 have h32:=@run_callFunc_extern Tryz.prog 325 _ (Extern.ReflectliteType.method fun t=>do Rtype.noPackHeld "Comparable" t;pure (.bool (←typeInfo t).comparable)) Tryz.func325 (by kernel_rfl) (by kernel_rfl) (by kernel_rfl) (by kernel_rfl)
 have tT:=E.isTypeOf
 have cT:=E.isComparable
 have mR:=E.isMethodComparable
 have nW:=E.noIsF
 have uW:=E.hasUnwrapF
 have mU:=E.methodUnwrap
 have heq:=E.oddEq
 have hty:=run_eql_iface_types (P:=Tryz.prog) 218 223 (.pointer (some ⟨pb,0,none⟩)) (.agg #[]) Tryz.underlying153 (by decide) w
 go_enter Tryz.func88,Tryz.ntmps88
 go_wp2
 refine wp_loop_rounds 2 ?_
 rw[rounds_succ]
 go_wp2
 rw[rounds_succ]
 go_wp2
 go_ret
 exact⟨rfl,rfl⟩
end Go.Proofs.YtmgmdiekpmffbaaGreatDoor.Err
namespace Go.Proofs.YtmgmdiekpmffbaaGreatDoor.QT
open Go.RowKit Go.Proofs.YtmgmdiekpmffbaaGreatDoorW.PrintWords Go.Proofs.YtmgmdiekpmffbaaGreatDoorW.PrintLast Go.Proofs.YtmgmdiekpmffbaaGreatDoorW.PrintMore
attribute [local go_sem] max2_int min2_int max_two min_two max_three min_three max_four min_four
set_option linter.unusedVariables false
set_option linter.unusedSimpArgs false
def errW:Option Int→Value
 |none=> .nilIface
 |some c=> .iface 0 (.int .i64 c)
theorem errW_none:errW none= .nilIface:=rfl
theorem errW_some (c:Int):errW (some c)= .iface 0 (.int .i64 c):=rfl
end Go.Proofs.YtmgmdiekpmffbaaGreatDoor.QT
namespace Go.Proofs.YtmgmdiekpmffbaaGreatDoor.QT
open Go.RowKit Go.Proofs.YtmgmdiekpmffbaaGreatDoorW.PrintWords Go.Proofs.YtmgmdiekpmffbaaGreatDoorW.PrintLast Go.Proofs.YtmgmdiekpmffbaaGreatDoorW.PrintMore
attribute [local go_sem] max2_int min2_int max_two min_two max_three min_three max_four min_four
set_option linter.unusedVariables false
set_option linter.unusedSimpArgs false
def dec_told.l0:Nat→ByteArray→Int→Int→Int→Option (Int×Bool)
 |0,_,_,_,_=>none
 |k+1,x0,x4,x8,x9=>if x9<x8 then(if 0≤x9 then(if x9<(x0.size:Int)then (if x4>((18446744073709551615 - (((bt x0 x9) - 48) % 256)) / 10)then (some (0,false))else (dec_told.l0 k x0 (IntKind.u64.wrap ((IntKind.u64.wrap (10*x4))+(((bt x0 x9) - 48) % 256))) x8 (wrap64 (x9+1))))else (none))else (none))else (some (x4,true))
def dec_told.f (k:Nat)(a0:ByteArray):Option (Int×Bool):=dec_told.l0 k a0 0 (a0.size:Int) 0
theorem dec_told.calls (k:Nat)(a0:ByteArray)(r1:Int)(r2:Bool)(w:World)(h:dec_told.f k a0=some (r1,r2)):
  Calls Tryz.prog 149 #[.string a0] w fun e w'=>e= .returned (.tuple #[.int .u64 r1,.bool r2])∧Drawn0 w w':=by
 have H:(dec_told.l0 k a0 0 (a0.size:Int) 0)=some (r1,r2):=h
 clear h
 have H':=Aside0.mk H
 clear H
 go_enter Tryz.func149,Tryz.ntmps149
 go_wp2
 go_loopg [4,9] k (fun kq v4 v9 w'=>∃(x4_1:Int) (x9_1:Int),v4= .int .u64 x4_1∧v9= .int .i64 x9_1∧Aside0 (dec_told.l0 kq a0 x4_1 (a0.size:Int) x9_1=some (r1,r2))∧Aside0 (kq≤k)∧Drawn0 w w')
 case atStart=>exact⟨(0),(0),(by first|rfl|(simp;done)|(simp[*];done)),(by first|rfl|(simp;done)|(simp[*];done)),H',⟨Nat.le_refl _⟩,by repeat (first|exact Drawn0.refl _|apply Drawn0.step)⟩
 case round=>
  clear H'
  try clear c1
  obtain⟨x4_1,x9_1,rfl,rfl,HA,HK1,⟨m1,rfl⟩⟩:=hrel
  cases gk with
  |zero=>exact absurd HA.out (by simp[dec_told.l0])
  |succ k1=>
   have H:=HA.out
   clear HA
   simp only[dec_told.l0] at H
   by_cases c2:x9_1<(a0.size:Int)
   ·rw [if_pos c2] at H
    have c2b0:decide (x9_1<(a0.size:Int))=true:=decide_eq_true c2
    clear c2
    by_cases c3:0≤x9_1
    ·rw [if_pos c3] at H
     have c3b0:decide (0≤x9_1)=true:=decide_eq_true c3
     clear c3
     by_cases c4:x9_1<(a0.size:Int)
     ·rw [if_pos c4] at H
      have c4b0:decide (x9_1<(a0.size:Int))=true:=decide_eq_true c4
      clear c4
      by_cases c6:x4_1>((18446744073709551615 - (((bt a0 x9_1) - 48) % 256)) / 10)
      ·rw [if_pos c6] at H
       have c6b0:decide (((18446744073709551615 - (((bt a0 x9_1) - 48) % 256)) / 10)<x4_1)=true:=decide_eq_true c6
       clear c6
       simp only[Option.some.injEq,Prod.mk.injEq] at H
       obtain⟨rfl,rfl⟩:=H
       have p5:0≤(x9_1:Int):=of_decide_eq_true (by first|(with_reducible assumption)|assumption)
       have q5:x9_1<(a0.size:Int):=of_decide_eq_true (by first|(with_reducible assumption)|assumption)
       have hx5:=bt_at a0 x9_1
       replace p5:=eq_true p5
       replace q5:=eq_true q5
       go_wp2
       go_ret2
       exact⟨by first|rfl|(simp;done)|(simp[*];done),by repeat (first|exact Drawn0.refl _|apply Drawn0.step)⟩
      ·rw [if_neg c6] at H
       have c6b0:decide (((18446744073709551615 - (((bt a0 x9_1) - 48) % 256)) / 10)<x4_1)=false:=decide_eq_false c6
       clear c6
       have H':=Aside0.mk H
       clear H
       have p5:0≤(x9_1:Int):=of_decide_eq_true (by first|(with_reducible assumption)|assumption)
       have q5:x9_1<(a0.size:Int):=of_decide_eq_true (by first|(with_reducible assumption)|assumption)
       have hx5:=bt_at a0 x9_1
       replace p5:=eq_true p5
       replace q5:=eq_true q5
       go_wp2
       go_roundg k1
       case measure=>have:=HK1.out;omega
       case rel=>exact⟨(IntKind.u64.wrap ((IntKind.u64.wrap (10*x4_1))+(((bt a0 x9_1) - 48) % 256))),(wrap64 (x9_1+1)),(by first|rfl|(simp;done)|(simp[*];done)),(by first|rfl|(simp;done)|(simp[*];done)),H',⟨by have:=HK1.out;omega⟩,by repeat (first|exact Drawn0.refl _|apply Drawn0.step)⟩
     ·rw [if_neg c4] at H
      exact absurd H (by simp)
    ·rw [if_neg c3] at H
     exact absurd H (by simp)
   ·rw [if_neg c2] at H
    have c2b0:decide (x9_1<(a0.size:Int))=false:=decide_eq_false c2
    clear c2
    simp only[Option.some.injEq,Prod.mk.injEq] at H
    obtain⟨rfl,rfl⟩:=H
    go_wp2
    go_ret2
    exact⟨by first|rfl|(simp;done)|(simp[*];done),by repeat (first|exact Drawn0.refl _|apply Drawn0.step)⟩
def stanchionref01_Num.l0:Nat→Int→ByteArray→Option (ByteArray)
 |0,_,_=>none
 |k+1,x0,x3=>if x0>0 then((some (([(48+((Int.tmod x0 10) % 256)) % 256]:List Int):List Int)).bind fun y104=>(if(strOfNums y104).size+x3.size≤9223372036854775807 then(stanchionref01_Num.l0 k (IntKind.u64.wrap (Int.tdiv x0 10)) ((strOfNums y104)++x3))else (none)))else (some x3)
def stanchionref01_Num.f (k:Nat)(a0:Int):Option (ByteArray):=(some (([(48+((Int.tmod a0 10) % 256)) % 256]:List Int):List Int)).bind fun y101=>(if(strOfNums y101).size+1≤9223372036854775807 then(stanchionref01_Num.l0 k (IntKind.u64.wrap (Int.tdiv a0 10)) ((strOfNums y101)++(⟨#[59]⟩:ByteArray)))else (none))
theorem stanchionref01_Num.calls (k:Nat)(a0:Int)(r:ByteArray)(w:World)(h:stanchionref01_Num.f k a0=some r):
  Calls Tryz.prog 84 #[.int .u64 a0] w fun e w'=>e= .returned (.string r)∧Below w.heap.size w w':=by
 have HB:=Aside0.mk (Below.refl w.heap.size w)
 have H:((some (([(48+((Int.tmod a0 10) % 256)) % 256]:List Int):List Int)).bind fun y101=>(if(strOfNums y101).size+1≤9223372036854775807 then(stanchionref01_Num.l0 k (IntKind.u64.wrap (Int.tdiv a0 10)) ((strOfNums y101)++(⟨#[59]⟩:ByteArray)))else (none)))=some r:=h
 clear h
 obtain⟨y101,hy101⟩:∃y_:List Int,y_=(([(48+((Int.tmod a0 10) % 256)) % 256]:List Int)):=⟨_,rfl⟩
 replace H:(if(strOfNums y101).size+1≤9223372036854775807 then(stanchionref01_Num.l0 k (IntKind.u64.wrap (Int.tdiv a0 10)) ((strOfNums y101)++(⟨#[59]⟩:ByteArray)))else (none))=some r:=by first|(rw[hy101];with_reducible exact H)|(have H2_:=(Option.bind_some _ _).symm.trans H;rw[hy101];with_reducible exact H2_)|(have H2_:=(Option.bind_some _ _).symm.trans H;with_reducible exact H2_)|with_reducible exact H|(rw[hy101];exact H)|exact H
 have Ny101:=Aside0.mk hy101
 clear hy101
 by_cases c2:(strOfNums y101).size+1≤9223372036854775807
 ·rw [if_pos c2] at H
  have c2b0:=eq_true c2
  have c2b1:decide ((strOfNums y101).size+1≤9223372036854775807)=true:=decide_eq_true c2
  try have c2b2:(9223372036854775807<(strOfNums y101).size+1)=False:=eq_false (Nat.not_lt.2 c2)
  have H':=Aside0.mk H
  clear H
  go_enter Tryz.func84,Tryz.ntmps84
  go_wp2_with (first|((with_reducible refine gate_dst (N:=8) rfl ?_);refine Kd.R_lit (Kd.int .u8) _ 5 ?hg (N:=8) ?hd (xs:=([(48+((Int.tmod a0 10) % 256)) % 256]:List Int)) (inner:= [.int .u8 ((48+((Int.tmod a0 10) % 256)) % 256)]) (ok:=fun _=>True) (okp:=fun _=>True) ?hr ?hp (fun _ hk=>hk) trivial (Below.refl _ _) (Nat.le_refl _) (by simp) ?_;(case hd=>rfl);(case hg=>rfl);(case hr=>first|(go_simp;done)|(go_simp;rfl));(case hp=>exact(Reps.one (show Kd.M (Kd.int .u8) _ _ _ ((48+((Int.tmod a0 10) % 256)) % 256) [.int .u8 ((48+((Int.tmod a0 10) % 256)) % 256)] from rfl) (Reps.none _ _)));intro v102 w3 ho4 hb hg_ hnew_;clear hg_ hnew_;(first|rw[←Ny101.out] at ho4|(simp only[Int.reduceToNat] at ho4;rw[←Ny101.out] at ho4));have n0_:=Aside0.mk (Kd.R_lower ho4 (below_size (by repeat (first|(with_reducible first|exact HB.out|apply below_alloc|apply pw_below_drewN|apply below_drew1)|exact HB.out))));have n1_:=Aside0.mk (below_step (by repeat (first|(with_reducible first|exact HB.out|apply below_alloc|apply pw_below_drewN|apply below_drew1)|exact HB.out)) hb);clear HB;have HO103:=n0_;have HB:=n1_;clear n0_ n1_;clear hb ho4;have hcv5:=own_string (P:=Tryz.prog) Tryz.underlying108 Tryz.underlying5 Tryz.underlying9 (Kd.own_of_R HO103.out)))
  go_loopg [0,3] k (fun kq v0 v3 w'=>∃(x0_1:Int) (x3_1:ByteArray),v0= .int .u64 x0_1∧v3= .string x3_1∧Aside0 (stanchionref01_Num.l0 kq x0_1 x3_1=some r)∧Aside0 (kq≤k)∧Aside0 (Below w.heap.size w w'))
  case atStart=>exact⟨(IntKind.u64.wrap (Int.tdiv a0 10)),((strOfNums y101)++(⟨#[59]⟩:ByteArray)),(by first|rfl|(simp;done)|(simp[*];done)),(by first|rfl|(simp;done)|(simp[*];done)),H',⟨Nat.le_refl _⟩,⟨by repeat (first|(with_reducible first|exact HB.out|apply below_alloc|apply pw_below_drewN|apply below_drew1)|exact HB.out)⟩⟩
  case round=>
   clear H'
   try clear c2
   try clear c2b0
   try clear c2b1
   try clear c2b2
   try clear p2
   try clear hcv5
   obtain⟨x0_1,x3_1,rfl,rfl,HA,HK1,HB⟩:=hrel
   cases gk with
   |zero=>exact absurd HA.out (by simp[stanchionref01_Num.l0])
   |succ k1=>
    have H:=HA.out
    clear HA
    simp only[stanchionref01_Num.l0] at H
    by_cases c6:x0_1>0
    ·rw [if_pos c6] at H
     have c6b0:decide (0<x0_1)=true:=decide_eq_true c6
     clear c6
     obtain⟨y104,hy104⟩:∃y_:List Int,y_=(([(48+((Int.tmod x0_1 10) % 256)) % 256]:List Int)):=⟨_,rfl⟩
     replace H:(if(strOfNums y104).size+x3_1.size≤9223372036854775807 then(stanchionref01_Num.l0 k1 (IntKind.u64.wrap (Int.tdiv x0_1 10)) ((strOfNums y104)++x3_1))else (none))=some r:=by first|(rw[hy104];with_reducible exact H)|(have H2_:=(Option.bind_some _ _).symm.trans H;rw[hy104];with_reducible exact H2_)|(have H2_:=(Option.bind_some _ _).symm.trans H;with_reducible exact H2_)|with_reducible exact H|(rw[hy104];exact H)|exact H
     have Ny104:=Aside0.mk hy104
     clear hy104
     by_cases c7:(strOfNums y104).size+x3_1.size≤9223372036854775807
     ·rw [if_pos c7] at H
      have c7b0:=eq_true c7
      have c7b1:decide ((strOfNums y104).size+x3_1.size≤9223372036854775807)=true:=decide_eq_true c7
      try have c7b2:(9223372036854775807<(strOfNums y104).size+x3_1.size)=False:=eq_false (Nat.not_lt.2 c7)
      have H':=Aside0.mk H
      clear H
      go_wp2_with (first|((with_reducible refine gate_dst (N:=19) rfl ?_);refine Kd.R_lit (Kd.int .u8) _ 5 ?hg (N:=19) ?hd (xs:=([(48+((Int.tmod x0_1 10) % 256)) % 256]:List Int)) (inner:= [.int .u8 ((48+((Int.tmod x0_1 10) % 256)) % 256)]) (ok:=fun _=>True) (okp:=fun _=>True) ?hr ?hp (fun _ hk=>hk) trivial (Below.refl _ _) (Nat.le_refl _) (by simp) ?_;(case hd=>rfl);(case hg=>rfl);(case hr=>first|(go_simp;done)|(go_simp;rfl));(case hp=>exact(Reps.one (show Kd.M (Kd.int .u8) _ _ _ ((48+((Int.tmod x0_1 10) % 256)) % 256) [.int .u8 ((48+((Int.tmod x0_1 10) % 256)) % 256)] from rfl) (Reps.none _ _)));intro v105 w8 ho9 hb hg_ hnew_;clear hg_ hnew_;(first|rw[←Ny104.out] at ho9|(simp only[Int.reduceToNat] at ho9;rw[←Ny104.out] at ho9));have n0_:=Aside0.mk (Kd.R_lower ho9 (below_size (by repeat (first|(with_reducible first|exact HB.out|apply below_alloc|apply pw_below_drewN|apply below_drew1)|exact HB.out))));have n1_:=Aside0.mk (below_step (by repeat (first|(with_reducible first|exact HB.out|apply below_alloc|apply pw_below_drewN|apply below_drew1)|exact HB.out)) hb);clear HB;have HO106:=n0_;have HB:=n1_;clear n0_ n1_;clear hb ho9;have hcv10:=own_string (P:=Tryz.prog) Tryz.underlying108 Tryz.underlying5 Tryz.underlying9 (Kd.own_of_R HO106.out)))
      go_roundg k1
      case measure=>have:=HK1.out;omega
      case rel=>exact⟨(IntKind.u64.wrap (Int.tdiv x0_1 10)),((strOfNums y104)++x3_1),(by first|rfl|(simp;done)|(simp[*];done)),(by first|rfl|(simp;done)|(simp[*];done)),H',⟨by have:=HK1.out;omega⟩,⟨by repeat (first|(with_reducible first|exact HB.out|apply below_alloc|apply pw_below_drewN|apply below_drew1)|exact HB.out)⟩⟩
     ·rw [if_neg c7] at H
      exact absurd H (by simp)
    ·rw [if_neg c6] at H
     have c6b0:decide (0<x0_1)=false:=decide_eq_false c6
     clear c6
     obtain rfl:=Option.some.inj H
     go_wp2
     go_ret
     exact⟨by first|rfl|(simp[errW_none,errW_some] <;> rfl)|(simp[*,errW_none,errW_some] <;> rfl),by repeat (first|(with_reducible first|exact HB.out|apply below_alloc|apply pw_below_drewN|apply below_drew1)|exact HB.out)⟩
 ·rw [if_neg c2] at H
  exact absurd H (by simp)
mutual
def stanchionref01_TakeNum.j1:Nat→ByteArray→Int→Option (Int×ByteArray×Int)
 |0,_,_=>none
 |k+1,x0,x5=>if x5>20 then(stanchionref01_TakeNum.j2 k x0 x5 true)else (if x5>1 then(if 0<(x0.size:Int)then (stanchionref01_TakeNum.j2 k x0 x5 ((bt x0 0)==48))else (none))else (stanchionref01_TakeNum.j2 k x0 x5 false))
def stanchionref01_TakeNum.j2:Nat→ByteArray→Int→Bool→Option (Int×ByteArray×Int)
 |0,_,_,_=>none
 |k+1,x0,x5,x37=>if x37=true then(some (0,(⟨#[]⟩:ByteArray),3))else (stanchionref01_TakeNum.l1 k x0 x5 0 0)
def stanchionref01_TakeNum.l1:Nat→ByteArray→Int→Int→Int→Option (Int×ByteArray×Int)
 |0,_,_,_,_=>none
 |k+1,x0,x5,x6,x7=>if x7<x5 then(if 0≤x7 then(if x7<(x0.size:Int)then (if x6>1844674407370955161 then(some (0,(⟨#[]⟩:ByteArray),3))else (if x6=1844674407370955161 then(if(((bt x0 x7) - 48) % 256)>5 then(some (0,(⟨#[]⟩:ByteArray),3))else (stanchionref01_TakeNum.l1 k x0 x5 (IntKind.u64.wrap ((IntKind.u64.wrap (10*x6))+(((bt x0 x7) - 48) % 256))) (wrap64 (x7+1))))else (stanchionref01_TakeNum.l1 k x0 x5 (IntKind.u64.wrap ((IntKind.u64.wrap (10*x6))+(((bt x0 x7) - 48) % 256))) (wrap64 (x7+1)))))else (none))else (none))else (if x5=(x0.size:Int)then (some (0,(⟨#[]⟩:ByteArray),2))else (if 0≤x5 then(if x5<(x0.size:Int)then (if(bt x0 x5)=59 then(if x5=0 then(some (0,(⟨#[]⟩:ByteArray),3))else (if 0≤(wrap64 (x5+1))then (if(wrap64 (x5+1))≤(x0.size:Int)then (some (x6,x0.extract ((wrap64 (x5+1)):Int).toNat x0.size,0))else (none))else (none)))else (some (0,(⟨#[]⟩:ByteArray),3)))else (none))else (none)))
def stanchionref01_TakeNum.l0:Nat→ByteArray→Int→Option (Int×ByteArray×Int)
 |0,_,_=>none
 |k+1,x0,x5=>if x5<(x0.size:Int)then (if 0≤x5 then(if(bt x0 x5)≥48 then(if(bt x0 x5)≤57 then(stanchionref01_TakeNum.l0 k x0 (wrap64 (x5+1)))else (stanchionref01_TakeNum.j1 k x0 x5))else (stanchionref01_TakeNum.j1 k x0 x5))else (none))else (stanchionref01_TakeNum.j1 k x0 x5)
end
def stanchionref01_TakeNum.f (k:Nat)(a0:ByteArray):Option (Int×ByteArray×Int):=stanchionref01_TakeNum.l0 k a0 0
theorem stanchionref01_TakeNum.calls (k:Nat)(a0:ByteArray)(r1:Int)(r2:ByteArray)(r3:Int)(w:World)(h:stanchionref01_TakeNum.f k a0=some (r1,r2,r3)):
  Calls Tryz.prog 85 #[.string a0] w fun e w'=>e= .returned (.tuple #[.int .u64 r1,.string r2,.int .i64 r3])∧Drawn0 w w':=by
 have H:(stanchionref01_TakeNum.l0 k a0 0)=some (r1,r2,r3):=h
 clear h
 have HC2:=Aside0.mk H
 clear H
 go_enter Tryz.func85,Tryz.ntmps85
 go_upto_block 0 with(fail)
 repeat (go_quiet (fail);go_upto_block 0 with(fail))
 go_cut [5] (fun v5 wc=>∃(kq:Nat) (x5_1:Int),v5= .int .i64 x5_1∧Aside0 (stanchionref01_TakeNum.j1 kq a0 x5_1=some (r1,r2,r3))∧Aside0 (kq≤k)∧Drawn0 w wc)
 case first=>
  have H:=HC2.out
  clear HC2
  have H':=Aside0.mk H
  clear H
  go_wp2
  repeat (go_quiet (fail);try go_wp2)
  go_loopg [5] k (fun kq v5 w'=>∃(x5_1:Int),v5= .int .i64 x5_1∧Aside0 (stanchionref01_TakeNum.l0 kq a0 x5_1=some (r1,r2,r3))∧Aside0 (kq≤k)∧Drawn0 w w')
  case atStart=>exact⟨(0),(by first|rfl|(simp;done)|(simp[*];done)),H',⟨Nat.le_refl _⟩,by repeat (first|exact Drawn0.refl _|apply Drawn0.step)⟩
  case round=>
   clear H'
   try clear p2
   obtain⟨x5_1,rfl,HA,HK1,⟨m1,rfl⟩⟩:=hrel
   cases gk with
   |zero=>exact absurd HA.out (by simp[stanchionref01_TakeNum.l0])
   |succ k1=>
    have H:=HA.out
    clear HA
    simp only[stanchionref01_TakeNum.l0] at H
    by_cases c3:x5_1<(a0.size:Int)
    ·rw [if_pos c3] at H
     have c3b0:decide (x5_1<(a0.size:Int))=true:=decide_eq_true c3
     clear c3
     (first|rw[c3b0]|(simp only[i64_w,i32_w];rw[c3b0])|skip)
     by_cases c4:0≤x5_1
     ·rw [if_pos c4] at H
      have c4b0:decide (0≤x5_1)=true:=decide_eq_true c4
      clear c4
      by_cases c6:(bt a0 x5_1)≥48
      ·rw [if_pos c6] at H
       have c6b0:decide (48≤(bt a0 x5_1))=true:=decide_eq_true c6
       clear c6
       by_cases c8:(bt a0 x5_1)≤57
       ·rw [if_pos c8] at H
        have c8b0:decide ((bt a0 x5_1)≤57)=true:=decide_eq_true c8
        clear c8
        have H':=Aside0.mk H
        clear H
        have p5:0≤(x5_1:Int):=of_decide_eq_true (by first|(with_reducible assumption)|assumption)
        have q5:x5_1<(a0.size:Int):=of_decide_eq_true (by first|(with_reducible assumption)|assumption)
        have hx5:=bt_at a0 x5_1
        replace p5:=eq_true p5
        replace q5:=eq_true q5
        have p7:0≤(x5_1:Int):=of_decide_eq_true (by first|(with_reducible assumption)|assumption)
        have q7:x5_1<(a0.size:Int):=of_decide_eq_true (by first|(with_reducible assumption)|assumption)
        have hx7:=bt_at a0 x5_1
        replace p7:=eq_true p7
        replace q7:=eq_true q7
        go_wp2
        repeat (go_quiet (fail);try go_wp2)
        go_roundg k1
        case measure=>have:=HK1.out;omega
        case rel=>exact⟨(wrap64 (x5_1+1)),(by first|rfl|(simp;done)|(simp[*];done)),H',⟨by have:=HK1.out;omega⟩,by repeat (first|exact Drawn0.refl _|apply Drawn0.step)⟩
       ·rw [if_neg c8] at H
        have c8b0:decide ((bt a0 x5_1)≤57)=false:=decide_eq_false c8
        clear c8
        have H':=Aside0.mk H
        clear H
        have p5:0≤(x5_1:Int):=of_decide_eq_true (by first|(with_reducible assumption)|assumption)
        have q5:x5_1<(a0.size:Int):=of_decide_eq_true (by first|(with_reducible assumption)|assumption)
        have hx5:=bt_at a0 x5_1
        replace p5:=eq_true p5
        replace q5:=eq_true q5
        have p7:0≤(x5_1:Int):=of_decide_eq_true (by first|(with_reducible assumption)|assumption)
        have q7:x5_1<(a0.size:Int):=of_decide_eq_true (by first|(with_reducible assumption)|assumption)
        have hx7:=bt_at a0 x5_1
        replace p7:=eq_true p7
        replace q7:=eq_true q7
        go_wp2
        repeat (go_quiet (fail);try go_wp2)
        go_meet
        case rel=>exact⟨_,(x5_1),(by first|rfl|(simp;done)|(simp[*];done)),H',⟨by have:=HK1.out;first|omega|exact Nat.le_refl _⟩,by repeat (first|exact Drawn0.refl _|apply Drawn0.step)⟩
      ·rw [if_neg c6] at H
       have c6b0:decide (48≤(bt a0 x5_1))=false:=decide_eq_false c6
       clear c6
       have H':=Aside0.mk H
       clear H
       have p5:0≤(x5_1:Int):=of_decide_eq_true (by first|(with_reducible assumption)|assumption)
       have q5:x5_1<(a0.size:Int):=of_decide_eq_true (by first|(with_reducible assumption)|assumption)
       have hx5:=bt_at a0 x5_1
       replace p5:=eq_true p5
       replace q5:=eq_true q5
       go_wp2
       repeat (go_quiet (fail);try go_wp2)
       go_meet
       case rel=>exact⟨_,(x5_1),(by first|rfl|(simp;done)|(simp[*];done)),H',⟨by have:=HK1.out;first|omega|exact Nat.le_refl _⟩,by repeat (first|exact Drawn0.refl _|apply Drawn0.step)⟩
     ·rw [if_neg c4] at H
      exact absurd H (by simp)
    ·rw [if_neg c3] at H
     have c3b0:decide (x5_1<(a0.size:Int))=false:=decide_eq_false c3
     clear c3
     (first|rw[c3b0]|(simp only[i64_w,i32_w];rw[c3b0])|skip)
     have H':=Aside0.mk H
     clear H
     go_wp2
     repeat (go_quiet (fail);try go_wp2)
     go_meet
     case rel=>exact⟨_,(x5_1),(by first|rfl|(simp;done)|(simp[*];done)),H',⟨by have:=HK1.out;first|omega|exact Nat.le_refl _⟩,by repeat (first|exact Drawn0.refl _|apply Drawn0.step)⟩
 case rest=>
  clear HC2
  try clear p2
  try clear c3
  try clear c3b0
  try clear c4
  try clear c4b0
  try clear p5
  try clear q5
  try clear hx5
  try clear c6
  try clear c6b0
  try clear p6
  try clear p7
  try clear q7
  try clear hx7
  try clear c8
  try clear c8b0
  try clear p2
  try clear p5
  try clear p7
  try clear q5
  try clear q7
  obtain⟨kq,x5_1,rfl,HA,HJ1,⟨mc1,rfl⟩⟩:=hcut
  cases kq with
  |zero=>exact absurd HA.out (by simp[stanchionref01_TakeNum.j1])
  |succ kj1=>
   have H:=HA.out
   clear HA
   simp only[stanchionref01_TakeNum.j1] at H
   have HC9:=Aside0.mk H
   clear H
   go_upto_region 4 with(fail)
   repeat (go_quiet (fail);go_upto_region 4 with(fail))
   go_cut [37] (fun v37 wc=>∃(kq:Nat) (x37_8:Bool),v37= .bool x37_8∧Aside0 (stanchionref01_TakeNum.j2 kq a0 x5_1 x37_8=some (r1,r2,r3))∧Aside0 (kq≤kj1)∧Drawn0 w wc)
   case first=>
    have H:=HC9.out
    clear HC9
    by_cases c10:x5_1>20
    ·rw [if_pos c10] at H
     have c10b0:decide (20<x5_1)=true:=decide_eq_true c10
     clear c10
     (first|rw[c10b0]|(simp only[i64_w,i32_w];rw[c10b0])|skip)
     have H':=Aside0.mk H
     clear H
     go_wp2
     repeat (go_quiet (fail);try go_wp2)
     go_meet
     case rel=>exact⟨_,(true),(by first|rfl|(simp;done)|(simp[*];done)),H',⟨by have:=HJ1.out;first|omega|exact Nat.le_refl _⟩,by repeat (first|exact Drawn0.refl _|apply Drawn0.step)⟩
    ·rw [if_neg c10] at H
     have c10b0:decide (20<x5_1)=false:=decide_eq_false c10
     clear c10
     (first|rw[c10b0]|(simp only[i64_w,i32_w];rw[c10b0])|skip)
     by_cases c11:x5_1>1
     ·rw [if_pos c11] at H
      have c11b0:decide (1<x5_1)=true:=decide_eq_true c11
      clear c11
      by_cases c12:0<(a0.size:Int)
      ·rw [if_pos c12] at H
       have c12b0:decide (0<(a0.size:Int))=true:=decide_eq_true c12
       have c12b1:decide (0<a0.size)=true:=decide_eq_true (by omega)
       clear c12
       have H':=Aside0.mk H
       clear H
       have p13:0≤(0:Int):=(by omega)
       have q13:0<a0.size:=(by have:(0:Int)<(a0.size:Int):=of_decide_eq_true (by first|(with_reducible assumption)|assumption);omega)
       have hx13:∀h:0<a0.size,((a0[0]'h).toNat:Int)=bt a0 0:=bt_at a0 0
       clear p13
       have qi13:(0<(a0.size:Int))=True:=eq_true (of_decide_eq_true (by first|(with_reducible assumption)|assumption))
       replace q13:=eq_true q13
       go_wp2
       repeat (go_quiet (fail);try go_wp2)
       go_meet
       case rel=>exact⟨_,(((bt a0 0)==48)),(by first|rfl|(simp;done)|(simp[*];done)),H',⟨by have:=HJ1.out;first|omega|exact Nat.le_refl _⟩,by repeat (first|exact Drawn0.refl _|apply Drawn0.step)⟩
      ·rw [if_neg c12] at H
       exact absurd H (by simp)
     ·rw [if_neg c11] at H
      have c11b0:decide (1<x5_1)=false:=decide_eq_false c11
      clear c11
      have H':=Aside0.mk H
      clear H
      go_wp2
      repeat (go_quiet (fail);try go_wp2)
      go_meet
      case rel=>exact⟨_,(false),(by first|rfl|(simp;done)|(simp[*];done)),H',⟨by have:=HJ1.out;first|omega|exact Nat.le_refl _⟩,by repeat (first|exact Drawn0.refl _|apply Drawn0.step)⟩
   case rest=>
    clear HC9
    try clear c1
    try clear p1
    try clear q1
    try clear hx1
    try clear qi1
    try clear p2
    try clear c3
    try clear c3b0
    try clear c4
    try clear c4b0
    try clear p5
    try clear q5
    try clear hx5
    try clear c6
    try clear c6b0
    try clear p6
    try clear p7
    try clear q7
    try clear hx7
    try clear c8
    try clear c8b0
    try clear c10
    try clear c10b0
    try clear c11
    try clear c11b0
    try clear c12
    try clear c12b0
    try clear c12b1
    try clear p13
    try clear q13
    try clear hx13
    try clear qi13
    try clear p13
    try clear p2
    try clear p5
    try clear p6
    try clear p7
    try clear q13
    try clear q5
    try clear q7
    obtain⟨kq,x37_8,rfl,HA,HJ8,⟨mc8,rfl⟩⟩:=hcut
    cases kq with
    |zero=>exact absurd HA.out (by simp[stanchionref01_TakeNum.j2])
    |succ kj8=>
     have H:=HA.out
     clear HA
     simp only[stanchionref01_TakeNum.j2] at H
     by_cases c14:x37_8=true
     ·subst c14
      have H1:(some (0,(⟨#[]⟩:ByteArray),3))=some (r1,r2,r3):=by rw[if_pos rfl] at H;exact H
      clear H
      have H:=H1
      clear H1
      simp only[Option.some.injEq,Prod.mk.injEq] at H
      obtain⟨rfl,rfl,rfl⟩:=H
      go_wp2
      repeat (go_quiet (fail);try go_wp2)
      go_ret3
      exact⟨by first|rfl|(simp;done)|(simp[*];done),by repeat (first|exact Drawn0.refl _|apply Drawn0.step)⟩
     ·replace c14:=Bool.eq_false_iff.mpr c14
      subst c14
      have H1:(stanchionref01_TakeNum.l1 kj8 a0 x5_1 0 0)=some (r1,r2,r3):=by rw[if_neg (show¬(false=true)by decide)] at H;exact H
      clear H
      have H:=H1
      clear H1
      have H':=Aside0.mk H
      clear H
      go_wp2
      repeat (go_quiet (fail);try go_wp2)
      go_loopg [6,7] kj8 (fun kq v6 v7 w'=>∃(x6_3:Int) (x7_3:Int),v6= .int .u64 x6_3∧v7= .int .i64 x7_3∧Aside0 (stanchionref01_TakeNum.l1 kq a0 x5_1 x6_3 x7_3=some (r1,r2,r3))∧Aside0 (kq≤kj8)∧Drawn0 w w')
      case atStart=>exact⟨(0),(0),(by first|rfl|(simp;done)|(simp[*];done)),(by first|rfl|(simp;done)|(simp[*];done)),H',⟨Nat.le_refl _⟩,by repeat (first|exact Drawn0.refl _|apply Drawn0.step)⟩
      case round=>
       clear H'
       try clear c1
       try clear p1
       try clear q1
       try clear hx1
       try clear qi1
       try clear p2
       try clear c3
       try clear c3b0
       try clear c4
       try clear c4b0
       try clear p5
       try clear q5
       try clear hx5
       try clear c6
       try clear c6b0
       try clear p6
       try clear p7
       try clear q7
       try clear hx7
       try clear c8
       try clear c8b0
       try clear c10
       try clear c10b0
       try clear c11
       try clear c11b0
       try clear c12
       try clear c12b0
       try clear c12b1
       try clear p13
       try clear q13
       try clear hx13
       try clear qi13
       try clear c14
       try clear p1
       try clear p13
       try clear p2
       try clear p5
       try clear p6
       try clear p7
       try clear q1
       try clear q13
       try clear q5
       try clear q7
       obtain⟨x6_3,x7_3,rfl,rfl,HA,HK3,⟨m3,rfl⟩⟩:=hrel
       cases gk with
       |zero=>exact absurd HA.out (by simp[stanchionref01_TakeNum.l1])
       |succ k3=>
        have H:=HA.out
        clear HA
        simp only[stanchionref01_TakeNum.l1] at H
        by_cases c15:x7_3<x5_1
        ·rw [if_pos c15] at H
         have c15b0:decide (x7_3<x5_1)=true:=decide_eq_true c15
         clear c15
         by_cases c16:0≤x7_3
         ·rw [if_pos c16] at H
          have c16b0:decide (0≤x7_3)=true:=decide_eq_true c16
          clear c16
          by_cases c17:x7_3<(a0.size:Int)
          ·rw [if_pos c17] at H
           have c17b0:decide (x7_3<(a0.size:Int))=true:=decide_eq_true c17
           clear c17
           by_cases c19:x6_3>1844674407370955161
           ·rw [if_pos c19] at H
            have c19b0:decide (1844674407370955161<x6_3)=true:=decide_eq_true c19
            clear c19
            simp only[Option.some.injEq,Prod.mk.injEq] at H
            obtain⟨rfl,rfl,rfl⟩:=H
            have p18:0≤(x7_3:Int):=of_decide_eq_true (by first|(with_reducible assumption)|assumption)
            have q18:x7_3<(a0.size:Int):=of_decide_eq_true (by first|(with_reducible assumption)|assumption)
            have hx18:=bt_at a0 x7_3
            replace p18:=eq_true p18
            replace q18:=eq_true q18
            go_wp2
            repeat (go_quiet (fail);try go_wp2)
            go_ret3
            exact⟨by first|rfl|(simp;done)|(simp[*];done),by repeat (first|exact Drawn0.refl _|apply Drawn0.step)⟩
           ·rw [if_neg c19] at H
            have c19b0:decide (1844674407370955161<x6_3)=false:=decide_eq_false c19
            clear c19
            by_cases c20:x6_3=1844674407370955161
            ·rw [if_pos c20] at H
             have c20b0:(x6_3==1844674407370955161)=true:=beq_iff_eq.mpr c20
             have c20b1:(x6_3 != 1844674407370955161)=false:=bne_eq_false_iff_eq.mpr c20
             clear c20
             by_cases c21:(((bt a0 x7_3) - 48) % 256)>5
             ·rw [if_pos c21] at H
              have c21b0:decide (5<(((bt a0 x7_3) - 48) % 256))=true:=decide_eq_true c21
              clear c21
              simp only[Option.some.injEq,Prod.mk.injEq] at H
              obtain⟨rfl,rfl,rfl⟩:=H
              have p18:0≤(x7_3:Int):=of_decide_eq_true (by first|(with_reducible assumption)|assumption)
              have q18:x7_3<(a0.size:Int):=of_decide_eq_true (by first|(with_reducible assumption)|assumption)
              have hx18:=bt_at a0 x7_3
              replace p18:=eq_true p18
              replace q18:=eq_true q18
              go_wp2
              repeat (go_quiet (fail);try go_wp2)
              go_ret3
              exact⟨by first|rfl|(simp;done)|(simp[*];done),by repeat (first|exact Drawn0.refl _|apply Drawn0.step)⟩
             ·rw [if_neg c21] at H
              have c21b0:decide (5<(((bt a0 x7_3) - 48) % 256))=false:=decide_eq_false c21
              clear c21
              have H':=Aside0.mk H
              clear H
              have p18:0≤(x7_3:Int):=of_decide_eq_true (by first|(with_reducible assumption)|assumption)
              have q18:x7_3<(a0.size:Int):=of_decide_eq_true (by first|(with_reducible assumption)|assumption)
              have hx18:=bt_at a0 x7_3
              replace p18:=eq_true p18
              replace q18:=eq_true q18
              go_wp2
              repeat (go_quiet (fail);try go_wp2)
              go_roundg k3
              case measure=>have:=HJ1.out;have:=HJ8.out;have:=HK3.out;omega
              case rel=>exact⟨(IntKind.u64.wrap ((IntKind.u64.wrap (10*x6_3))+(((bt a0 x7_3) - 48) % 256))),(wrap64 (x7_3+1)),(by first|rfl|(simp;done)|(simp[*];done)),(by first|rfl|(simp;done)|(simp[*];done)),H',⟨by have:=HJ1.out;have:=HJ8.out;have:=HK3.out;omega⟩,by repeat (first|exact Drawn0.refl _|apply Drawn0.step)⟩
            ·rw [if_neg c20] at H
             have c20b0:(x6_3==1844674407370955161)=false:=beq_eq_false_iff_ne.mpr c20
             have c20b1:(x6_3 != 1844674407370955161)=true:=bne_iff_ne.mpr c20
             have H':=Aside0.mk H
             clear H
             have p18:0≤(x7_3:Int):=of_decide_eq_true (by first|(with_reducible assumption)|assumption)
             have q18:x7_3<(a0.size:Int):=of_decide_eq_true (by first|(with_reducible assumption)|assumption)
             have hx18:=bt_at a0 x7_3
             replace p18:=eq_true p18
             replace q18:=eq_true q18
             go_wp2
             repeat (go_quiet (fail);try go_wp2)
             go_roundg k3
             case measure=>have:=HJ1.out;have:=HJ8.out;have:=HK3.out;omega
             case rel=>exact⟨(IntKind.u64.wrap ((IntKind.u64.wrap (10*x6_3))+(((bt a0 x7_3) - 48) % 256))),(wrap64 (x7_3+1)),(by first|rfl|(simp;done)|(simp[*];done)),(by first|rfl|(simp;done)|(simp[*];done)),H',⟨by have:=HJ1.out;have:=HJ8.out;have:=HK3.out;omega⟩,by repeat (first|exact Drawn0.refl _|apply Drawn0.step)⟩
          ·rw [if_neg c17] at H
           exact absurd H (by simp)
         ·rw [if_neg c16] at H
          exact absurd H (by simp)
        ·rw [if_neg c15] at H
         have c15b0:decide (x7_3<x5_1)=false:=decide_eq_false c15
         clear c15
         by_cases c22:x5_1=(a0.size:Int)
         ·rw [if_pos c22] at H
          have c22b0:(x5_1==(a0.size:Int))=true:=beq_iff_eq.mpr c22
          have c22b1:(x5_1 != (a0.size:Int))=false:=bne_eq_false_iff_eq.mpr c22
          clear c22
          simp only[Option.some.injEq,Prod.mk.injEq] at H
          obtain⟨rfl,rfl,rfl⟩:=H
          go_wp2
          repeat (go_quiet (fail);try go_wp2)
          go_ret3
          exact⟨by first|rfl|(simp;done)|(simp[*];done),by repeat (first|exact Drawn0.refl _|apply Drawn0.step)⟩
         ·rw [if_neg c22] at H
          have c22b0:(x5_1==(a0.size:Int))=false:=beq_eq_false_iff_ne.mpr c22
          have c22b1:(x5_1 != (a0.size:Int))=true:=bne_iff_ne.mpr c22
          by_cases c23:0≤x5_1
          ·rw [if_pos c23] at H
           have c23b0:decide (0≤x5_1)=true:=decide_eq_true c23
           clear c23
           by_cases c24:x5_1<(a0.size:Int)
           ·rw [if_pos c24] at H
            have c24b0:decide (x5_1<(a0.size:Int))=true:=decide_eq_true c24
            clear c24
            by_cases c26:(bt a0 x5_1)=59
            ·rw [if_pos c26] at H
             have c26b0:((bt a0 x5_1)==59)=true:=beq_iff_eq.mpr c26
             have c26b1:((bt a0 x5_1) != 59)=false:=bne_eq_false_iff_eq.mpr c26
             clear c26
             by_cases c27:x5_1=0
             ·rw [if_pos c27] at H
              have c27b0:(x5_1==0)=true:=beq_iff_eq.mpr c27
              have c27b1:(x5_1 != 0)=false:=bne_eq_false_iff_eq.mpr c27
              clear c27
              simp only[Option.some.injEq,Prod.mk.injEq] at H
              obtain⟨rfl,rfl,rfl⟩:=H
              have p25:0≤(x5_1:Int):=of_decide_eq_true (by first|(with_reducible assumption)|assumption)
              have q25:x5_1<(a0.size:Int):=of_decide_eq_true (by first|(with_reducible assumption)|assumption)
              have hx25:=bt_at a0 x5_1
              replace p25:=eq_true p25
              replace q25:=eq_true q25
              go_wp2
              repeat (go_quiet (fail);try go_wp2)
              go_ret3
              exact⟨by first|rfl|(simp;done)|(simp[*];done),by repeat (first|exact Drawn0.refl _|apply Drawn0.step)⟩
             ·rw [if_neg c27] at H
              have c27b0:(x5_1==0)=false:=beq_eq_false_iff_ne.mpr c27
              have c27b1:(x5_1 != 0)=true:=bne_iff_ne.mpr c27
              obtain⟨ji28,hji28⟩:∃j_:Int,(wrap64 (x5_1+1))=j_:=⟨_,rfl⟩
              replace H:(if 0≤(ji28)then (if(ji28)≤(a0.size:Int)then (some (x6_3,a0.extract ((ji28):Int).toNat a0.size,0))else (none))else (none))=some (r1,r2,r3):=by first|(rw[hji28] at H;exact H)|(simp only[hji28] at H⊢;exact H)
              have hji28w:(IntKind.i64.wrap (x5_1+1))=ji28:=(i64_w _).trans hji28
              by_cases c29:0≤(ji28)
              ·rw [if_pos c29] at H
               have c29b0:=eq_true c29
               have c29b1:decide (0≤(ji28))=true:=decide_eq_true c29
               clear c29
               by_cases c30:(ji28)≤(a0.size:Int)
               ·rw [if_pos c30] at H
                have c30b0:=eq_true c30
                have c30b1:decide ((ji28)≤(a0.size:Int))=true:=decide_eq_true c30
                clear c30
                simp only[Option.some.injEq,Prod.mk.injEq] at H
                obtain⟨rfl,rfl,rfl⟩:=H
                have p25:0≤(x5_1:Int):=of_decide_eq_true (by first|(with_reducible assumption)|assumption)
                have q25:x5_1<(a0.size:Int):=of_decide_eq_true (by first|(with_reducible assumption)|assumption)
                have hx25:=bt_at a0 x5_1
                replace p25:=eq_true p25
                replace q25:=eq_true q25
                go_wp2
                repeat (go_quiet (fail);try go_wp2)
                go_ret3
                exact⟨by first|rfl|(simp;done)|(simp only[←hji28] <;> (first|rfl|simp))|(simp[*];done),by repeat (first|exact Drawn0.refl _|apply Drawn0.step)⟩
               ·rw [if_neg c30] at H
                exact absurd H (by simp)
              ·rw [if_neg c29] at H
               exact absurd H (by simp)
            ·rw [if_neg c26] at H
             have c26b0:((bt a0 x5_1)==59)=false:=beq_eq_false_iff_ne.mpr c26
             have c26b1:((bt a0 x5_1) != 59)=true:=bne_iff_ne.mpr c26
             simp only[Option.some.injEq,Prod.mk.injEq] at H
             obtain⟨rfl,rfl,rfl⟩:=H
             have p25:0≤(x5_1:Int):=of_decide_eq_true (by first|(with_reducible assumption)|assumption)
             have q25:x5_1<(a0.size:Int):=of_decide_eq_true (by first|(with_reducible assumption)|assumption)
             have hx25:=bt_at a0 x5_1
             replace p25:=eq_true p25
             replace q25:=eq_true q25
             go_wp2
             repeat (go_quiet (fail);try go_wp2)
             go_ret3
             exact⟨by first|rfl|(simp;done)|(simp[*];done),by repeat (first|exact Drawn0.refl _|apply Drawn0.step)⟩
           ·rw [if_neg c24] at H
            exact absurd H (by simp)
          ·rw [if_neg c23] at H
           exact absurd H (by simp)
end Go.Proofs.YtmgmdiekpmffbaaGreatDoor.QT
namespace Go.Proofs.YtmgmdiekpmffbaaGreatDoor.QT
open Go.RowKit Go.Proofs.YtmgmdiekpmffbaaGreatDoorW.PrintWords Go.Proofs.YtmgmdiekpmffbaaGreatDoorW.PrintLast Go.Proofs.YtmgmdiekpmffbaaGreatDoorW.PrintMore
attribute [local go_sem] max2_int min2_int max_two min_two max_three min_three max_four min_four
set_option linter.unusedVariables false
set_option linter.unusedSimpArgs false
end Go.Proofs.YtmgmdiekpmffbaaGreatDoor.QT
