/- Part of the proof of the statement TopAlone, as a card; what is proved, and on which condition, stands at the head of YtmgmdiekpmffbaaGreatDoorPT20 (texts Told, Take, Refs, Giv, QDecx0, QDecx1, QDecx, TextLaws) -/
import Derived.Lib.Strings
import Derived.Test.YtmgmdiekpmffbaaGreatDoorProg
import Derived.WalkKit
import Derived.LoopTactic
import Derived.Outline
import Derived.IntWalk
import Derived.Lib.Hide
import Derived.KernelRfl
import Derived.Deep.QuietTactic
import Derived.BigQuiet
import Derived.Below
import Derived.Deep.Draws
import Derived.Deep.AppendLies
import Derived.Maps.AppendAt
import Derived.OwnWalk
import Derived.Laws.BytesArg
import Derived.Laws.MakeOwn
import Derived.Laws.OwnMore
import Derived.Deep.OwnRows
import Derived.Tactics
import Derived.Lib.ConvBytes
import Derived.Laws.Slices
import Derived.RowKit3
import Derived.Deep.LoopGhost
import Derived.WideLaws
import Derived.Deep.DeepCutAuto
import Derived.Deep.CutBlock
import Derived.Deep.RegionHeld3
import Derived.Laws.Rows
import Derived.Lib.AppendStr
import Derived.ArgAppend
import Derived.Laws.IdiomCopy
import Derived.OrdersHeld
import Derived.Laws.BitsLemmas
import Derived.RowKit
import Derived.OpenShut
import Derived.Test.YtmgmdiekpmffbaaGreatDoorPT0
import Derived.Test.YtmgmdiekpmffbaaGreatDoorPT1
import Derived.Test.YtmgmdiekpmffbaaGreatDoorPT2
set_option maxHeartbeats 64000000
set_option maxRecDepth 100000
set_option linter.unusedVariables false
set_option linter.unusedSimpArgs false
namespace Go.Proofs.YtmgmdiekpmffbaaGreatDoor.Giv
open Go Go.RowKit Go.Proofs.YtmgmdiekpmffbaaGreatDoor.DecM Go.Proofs.YtmgmdiekpmffbaaGreatDoor.QT Go.Proofs.YtmgmdiekpmffbaaGreatDoorW.PrintWords Go.Proofs.YtmgmdiekpmffbaaGreatDoorW.PrintLast
theorem data_drop (s:ByteArray)(i:Nat)(h:i<s.size):∃u:UInt8,s.data.toList.drop i=u :: s.data.toList.drop (i+1)∧bt s (i:Int)=(u.toNat:Int):=by
 have hl:i<s.data.toList.length:=by rw[data_length];exact h
 refine⟨s.data.toList[i],List.drop_eq_getElem_cons hl,?_⟩
 have h2:((i:Int)).toNat<s.size:=by simpa using h
 rw[←bt_at s (i:Int) h2]
 simp only[Int.toNat_natCast,Array.getElem_toList]
 rfl
theorem data_none (s:ByteArray)(i:Nat)(h:s.size≤i):s.data.toList.drop i= []:=by
 apply List.drop_eq_nil_of_le
 rw[data_length]
 exact h
def toldR (n:Nat):Int×Bool:=if n<two64 then((n:Int),true)else (0,false)
theorem told_from (t:ByteArray)(hs:t.size≤9223372036854775807)(hd:∀c∈t.data.toList,isD c=true)(d:Nat):∀(k i v:Nat),t.size - i=d→i≤t.size→v<two64→d<k→
  dec_told.l0 k t (v:Int) (t.size:Int) (i:Int)=some (toldR (vfrom v (t.data.toList.drop i))):=by
 have e64:=two64_eq
 induction d with
 |zero=>
  intro k i v hdi hi hv hk
  obtain⟨k,rfl⟩:∃m,k=m+1:=⟨k - 1,by omega⟩
  simp only[dec_told.l0]
  rw[if_neg (by omega),data_none t i (by omega),vfrom_nil]
  unfold toldR
  rw[if_pos hv]
 |succ d ih=>
  intro k i v hdi hi hv hk
  obtain⟨k,rfl⟩:∃m,k=m+1:=⟨k - 1,by omega⟩
  have hlt:i<t.size:=by omega
  obtain⟨u,hu,hbu⟩:=data_drop t i hlt
  have hdu:isD u=true:=hd u (by
   have:u∈t.data.toList.drop i:=by rw[hu];exact List.mem_cons_self
   exact List.mem_of_mem_drop this)
  obtain⟨h48,h57⟩:=(isD_iff u).mp hdu
  simp only[dec_told.l0]
  rw[if_pos (by omega),if_pos (by omega),if_pos (by omega),hbu,hu,vfrom_cons]
  have f1:t.size - (i+1)=d:=by omega
  have f2:i+1≤t.size:=by omega
  have f3:d<k:=by omega
  have e1:((u.toNat:Int) - 48) % 256=((u.toNat - 48:Nat):Int):=by omega
  rw[e1]
  by_cases ho:10*v+(u.toNat - 48)<two64
  ·rw [if_neg (by omega)]
   have e2:IntKind.u64.wrap ((IntKind.u64.wrap (10*(v:Int)))+((u.toNat - 48:Nat):Int))=((10*v+(u.toNat - 48):Nat):Int):=by
    rw[IntKind.wrap_u64,IntKind.wrap_u64]
    omega
   have e3:wrap64 ((i:Int)+1)=((i+1:Nat):Int):=by
    unfold wrap64
    omega
   rw[e2,e3]
   exact ih k (i+1) (10*v+(u.toNat - 48)) f1 f2 ho f3
  ·rw [if_pos (by omega)]
   have:=vfrom_le (t.data.toList.drop (i+1)) (10*v+(u.toNat - 48))
   unfold toldR
   rw[if_neg (by omega)]
theorem told_eq (t:ByteArray)(hs:t.size≤9223372036854775807)(hd:∀c∈t.data.toList,isD c=true):dec_told.f (t.size+1) t=some (toldR (val t.data.toList)):=by
 unfold dec_told.f
 have h0:0<two64:=by rw[two64_eq];omega
 have:=told_from t hs hd t.size (t.size+1) 0 0 (by omega) (by omega) h0 (by omega)
 unfold val
 simpa using this
theorem told_yes (t:ByteArray)(v:Nat)(w:World)(hs:t.size≤9223372036854775807)(hd:∀c∈t.data.toList,isD c=true)(hv:val t.data.toList=v)(h:v<two64):
  Calls Tryz.prog 149 #[.string t] w fun e w'=>e= .returned (.tuple #[.int .u64 (v:Int),.bool true])∧Drawn0 w w':=by
 refine dec_told.calls (t.size+1) t _ _ w ?_
 rw[told_eq t hs hd,hv]
 unfold toldR
 rw[if_pos h]
theorem told_no (t:ByteArray)(w:World)(hs:t.size≤9223372036854775807)(hd:∀c∈t.data.toList,isD c=true)(h:¬val t.data.toList<two64):
  Calls Tryz.prog 149 #[.string t] w fun e w'=>e= .returned (.tuple #[.int .u64 0,.bool false])∧Drawn0 w w':=by
 refine dec_told.calls (t.size+1) t _ _ w ?_
 rw[told_eq t hs hd]
 unfold toldR
 rw[if_neg h]
end Go.Proofs.YtmgmdiekpmffbaaGreatDoor.Giv
namespace Go.Proofs.YtmgmdiekpmffbaaGreatDoor.Giv
open Go Go.RowKit Go.Proofs.YtmgmdiekpmffbaaGreatDoor.DecM Go.Proofs.YtmgmdiekpmffbaaGreatDoorW.PrintWords Go.Proofs.YtmgmdiekpmffbaaGreatDoorW.PrintLast
def Ends (w:World)(r:Int×ByteArray×Int)(e:Ending)(w':World):Prop:=e= .returned (.tuple #[.int .u64 r.1,.string r.2.1,.int .i64 r.2.2])∧Below w.heap.size w w'
theorem get_data (s:ByteArray)(i:Nat)(h:i<s.size):s.data.toList[i]? =some s[i]:=by
 rw[List.getElem?_eq_getElem (by rw[data_length];exact h)]
 simp only[Array.getElem_toList]
 rfl
theorem at_eq {s:ByteArray}{i:Nat}{h:i<s.size}{c:Nat}(hc:c<256):s.data.toList[i]? =some (UInt8.ofNat c)↔((s[i]'h).toNat:Int)=c:=by
 rw[get_data s i h]
 constructor
 ·intro e
  have:=Option.some.inj e
  rw[this]
  simp
  omega
 ·intro e
  have:s[i].toNat=c:=by omega
  rw[←this]
  simp
section
variable {s:ByteArray} {k:Nat} (hk:nd s.data.toList=k)
include hk
theorem c_big (h:20<k):takeNum s=(0,ByteArray.empty,3):=by
 unfold takeNum
 simp only[hk]
 rw[if_pos h]
theorem c_three (h:(1<k∧s.data.toList[0]? =some 48)∨¬val (s.data.toList.take k)<two64∨(k<s.data.toList.length∧(k=0∨¬s.data.toList[k]? =some 59))):takeNum s=(0,ByteArray.empty,3):=by
 unfold takeNum
 simp only[hk]
 by_cases h20:20<k
 ·rw [if_pos h20]
 ·rw [if_neg h20,if_pos h]
theorem c_zero (h1:(1:Int)<(k:Int))(h0:0<s.size)(h:(((s[0]'h0).toNat:Int)==48)=true):takeNum s=(0,ByteArray.empty,3):=
 c_three hk (.inl ⟨by omega,(at_eq (c:=48) (by omega)).mpr (by simpa using h)⟩)
theorem c_told (h:¬val (s.data.toList.take k)<two64):takeNum s=(0,ByteArray.empty,3):=c_three hk (.inr (.inl h))
theorem c_sep (hn:k<s.size)(h:((k:Int)==0)=true∨(((s[k]'hn).toNat:Int) != 59)=true):takeNum s=(0,ByteArray.empty,3):=by
 refine c_three hk (.inr (.inr ⟨by rw[data_length];exact hn,?_⟩))
 rcases h with h|h
 ·exact .inl (by simpa using h)
 ·refine .inr fun e=>?_
  have:=(at_eq (s:=s) (i:=k) (h:=hn) (c:=59) (by omega)).mp e
  simp[this] at h
theorem c_none (hn:k<s.size)(h:k=0):takeNum s=(0,ByteArray.empty,3):=c_three hk (.inr (.inr ⟨by rw[data_length];exact hn,.inl h⟩))
theorem c_ok (h20:¬20<k)(hn:k<s.size)(hv:val (s.data.toList.take k)<two64)(h1:(k:Int)≤1∨∃h0:0<s.size,(((s[0]'h0).toNat:Int)==48)=false)(h:((k:Int)==0)=false∧(((s[k]'hn).toNat:Int) != 59)=false):
  takeNum s=((val (s.data.toList.take k):Int),s.extract (k+1) s.size,0):=by
 unfold takeNum
 simp only[hk]
 have e59:s.data.toList[k]? =some 59:=(at_eq (s:=s) (i:=k) (h:=hn) (c:=59) (by omega)).mpr (by simpa using h.2)
 have k0:¬k=0:=by
  have:=h.1
  intro e
  simp[e] at this
 have hl:s.data.toList.length=s.size:=data_length s
 rw[if_neg h20,if_neg,if_neg (by omega)]
 rintro(⟨ha,hb⟩|hb|⟨_,hb|hb⟩)
 ·rcases h1 with h1|⟨h0,h1⟩
  ·omega
  ·have:=(at_eq (s:=s) (i:=0) (h:=h0) (c:=48) (by omega)).mp hb
   simp[this] at h1
 ·exact hb hv
 ·exact k0 hb
 ·exact hb e59
theorem c_more (h20:¬20<k)(hn:k=s.size)(hv:val (s.data.toList.take k)<two64)(h1:(k:Int)≤1∨∃h0:0<s.size,(((s[0]'h0).toNat:Int)==48)=false):takeNum s=(0,ByteArray.empty,2):=by
 unfold takeNum
 simp only[hk]
 have hl:s.data.toList.length=s.size:=data_length s
 rw[if_neg h20,if_neg,if_pos (by omega)]
 rintro(⟨ha,hb⟩|hb|⟨hb,_⟩)
 ·rcases h1 with h1|⟨h0,h1⟩
  ·omega
  ·have:=(at_eq (s:=s) (i:=0) (h:=h0) (c:=48) (by omega)).mp hb
   simp[this] at h1
 ·exact hb hv
 ·omega
end
theorem ext_take (s:ByteArray)(k:Nat):(s.extract 0 k).data.toList=s.data.toList.take k:=by
 rw[Lib.extract_data]
 simp
theorem ends_of {w W:World}{s:ByteArray}{a:Int}{b:ByteArray}{c:Int}(h:Hid (takeNum s=(a,b,c)))(hb:Below w.heap.size w W):Ends w (takeNum s) (.returned (.tuple #[.int .u64 a,.string b,.int .i64 c])) W:=by
 rw[h.out]
 exact⟨rfl,hb⟩
theorem take_lt (s:ByteArray)(n:Nat)(w:World)(hs:s.size≤9223372036854775807)(hn:n<s.size)
  (hd:∀(i:Nat) (h:i<n),(48:Int)≤((s[i]'(by omega)).toNat:Int)∧((s[i]'(by omega)).toNat:Int)≤57) (hx:¬((48:Int)≤((s[n]'hn).toNat:Int)∧((s[n]'hn).toNat:Int)≤57))
  (ht:∀c∈(s.extract 0 n).data.toList,isD c=true) (hN:nd s.data.toList=n):
  Calls Tryz.prog 98 #[.string s] w (Ends w (takeNum s)):=by
 have HD:=Lib.hid hd
 have HX:=Lib.hid hx
 have HT:=Lib.hid ht
 have HZ:Hid ((s.extract 0 n).size≤9223372036854775807):=Lib.hid (by rw[ByteArray.size_extract];omega)
 have HN:=Lib.hid hN
 clear hd hx ht hN
 go_enter Tryz.func98,Tryz.ntmps98
 go_wp2
 go_step3
 go_wp2
 go_step3
 go_wp2
 go_loop [5] (fun x=>∃k:Nat,k≤n∧x= .int .i64 k) (fun x=>n - (intOf x).toNat)
 case atStart=>exact⟨0,by omega,rfl⟩
 case round=>
  obtain⟨k,hk,rfl⟩:=hrel
  by_cases hkn:k<n
  ·obtain⟨h1,h2⟩:=HD.out k hkn
   go_wp2
   go_round
   case rel=>exact⟨k+1,by omega,by go_num⟩
   case measure=>simp [intOf];omega
  ·obtain rfl:k=n:=by omega
   have hpart:((s[k]'hn).toNat:Int)<48∨(48≤((s[k]'hn).toNat:Int)∧(57:Int)<((s[k]'hn).toNat:Int)):=by have:=HX.out;omega
   by_cases h20:20<k
   ·have HE:=Lib.hid (c_big HN.out h20)
    rcases hpart with h3|⟨h3,h4⟩
    all_goals
     go_wp2
     (try rw[Exit.noGoto_ret])
     go_ret3
     exact ends_of HE (Below.refl _ _)
   ·by_cases hv:val (s.extract 0 k).data.toList<two64
    ·have HV:Hid (val (s.data.toList.take k)<two64):=Lib.hid (by rw[←ext_take];exact hv)
     have HW:Hid (val (s.extract 0 k).data.toList=val (s.data.toList.take k)):=Lib.hid (by rw[ext_take])
     rcases hpart with h3|⟨h3,h4⟩
     all_goals
      go_wp2_with (go_at_call 149;refine(told_yes _ _ _ HZ.out HT.out HW.out HV.out).mono ?_;rintro e w' ⟨rfl,hw⟩)
      all_goals
       have HB:=hw.below
       first
        |(have HE:=Lib.hid (c_zero HN.out ‹_› ‹_› ‹_›);(try rw[Exit.noGoto_ret]);go_ret3;exact ends_of HE HB)
        |(have HE:=Lib.hid (c_none HN.out hn ‹_›);(try rw[Exit.noGoto_ret]);go_ret3;exact ends_of HE HB)
        |(have HE:=Lib.hid (c_sep HN.out hn ‹_›);(try rw[Exit.noGoto_ret]);go_ret3;exact ends_of HE HB)
        |(have HE:=Lib.hid (c_ok HN.out h20 hn HV.out (by first|exact .inl ‹_› |exact .inr ⟨‹_›,‹_›⟩) ‹_›);clear hw;go_quiet (fail);go_wp2;(try rw[Exit.noGoto_ret]);go_ret3;exact ends_of HE (pw_below_drewN HB _))
    ·have HV:Hid (¬val (s.data.toList.take k)<two64):=Lib.hid (by rw[←ext_take];exact hv)
     have HE:=Lib.hid (c_told HN.out HV.out)
     rcases hpart with h3|⟨h3,h4⟩
     all_goals
      go_wp2_with (go_at_call 149;refine(told_no _ _ HZ.out HT.out hv).mono ?_;rintro e w' ⟨rfl,hw⟩)
      all_goals
       have HB:=hw.below
       (try rw[Exit.noGoto_ret])
       go_ret3
       exact ends_of HE HB
end Go.Proofs.YtmgmdiekpmffbaaGreatDoor.Giv
namespace Go.Proofs.YtmgmdiekpmffbaaGreatDoor.Giv
open Go Go.RowKit Go.Proofs.YtmgmdiekpmffbaaGreatDoor.DecM Go.Proofs.YtmgmdiekpmffbaaGreatDoor.QT Go.Proofs.YtmgmdiekpmffbaaGreatDoorW.PrintWords Go.Proofs.YtmgmdiekpmffbaaGreatDoorW.PrintLast
theorem str_append (a b:List Int):strOfNums (a++b)=strOfNums a++strOfNums b:=by
 apply ByteArray.ext
 simp[strOfNums]
def numB (v:Nat):ByteArray:=if v=0 then ByteArray.empty else strOfNums (numL v)
theorem numB_all (v:Nat):numB (v / 10)++strOfNums [48+((v % 10:Nat):Int)]=strOfNums (numL v):=by
 unfold numB
 by_cases h:v<10
 ·have e:v / 10=0:=by omega
  have e2:v % 10=v:=by omega
  rw[if_pos e,e2,numL_small h,ByteArray.empty_append]
 ·rw [if_neg (by omega),numL_big h,str_append]
theorem numB_step {v:Nat}(h:¬v=0):numB (v / 10)++strOfNums [48+((v % 10:Nat):Int)]=numB v:=by
 rw[numB_all]
 unfold numB
 rw[if_neg h]
theorem fig_eq (v:Nat):(48+((Int.tmod (v:Int) 10) % 256)) % 256=48+((v % 10:Nat):Int):=by
 rw[Int.tmod_eq_emod_of_nonneg (by omega)]
 omega
theorem quo_eq (v:Nat)(h:v<18446744073709551616):IntKind.u64.wrap (Int.tdiv (v:Int) 10)=((v / 10:Nat):Int):=by
 rw[IntKind.wrap_u64,Int.tdiv_eq_ediv_of_nonneg (by omega)]
 omega
theorem refNum_from (d:Nat):∀(k v:Nat) (s:ByteArray),v<10 ^ d→v<18446744073709551616→d<k→s.size+d≤1000→stanchionref01_Num.l0 k (v:Int) s=some (numB v++s):=by
 induction d with
 |zero=>
  intro k v s hv hv2 hk hs
  obtain⟨k,rfl⟩:∃m,k=m+1:=⟨k - 1,by omega⟩
  have e:v=0:=by simpa using hv
  subst e
  simp only[stanchionref01_Num.l0]
  rw[if_neg (by omega)]
  simp[numB]
 |succ d ih=>
  intro k v s hv hv2 hk hs
  obtain⟨k,rfl⟩:∃m,k=m+1:=⟨k - 1,by omega⟩
  simp only[stanchionref01_Num.l0]
  by_cases h0:v=0
  ·subst h0
   rw[if_neg (by omega)]
   simp[numB]
  ·have hq:v / 10<10 ^ d:=by
    rw[Nat.pow_succ] at hv
    omega
   have hsz:(strOfNums [48+((v % 10:Nat):Int)]).size=1:=by simp[strOfNums_size]
   rw[if_pos (by omega),fig_eq,Option.bind_some,if_pos (by rw[hsz];omega),quo_eq v hv2,
    ih k (v / 10) (strOfNums [48+((v % 10:Nat):Int)]++s) hq (by omega) (by omega) (by rw[ByteArray.size_append,hsz];omega),←ByteArray.append_assoc,numB_step h0]
theorem refNum_eq (v:Nat)(hv:v<18446744073709551616):stanchionref01_Num.f 21 (v:Int)=some (numS v):=by
 have hsz:(strOfNums [48+((v % 10:Nat):Int)]).size=1:=by simp[strOfNums_size]
 have h59:(⟨#[59]⟩:ByteArray)=strOfNums [59]:=rfl
 have hs1:(strOfNums [59]).size=1:=by simp[strOfNums_size]
 unfold stanchionref01_Num.f
 rw[fig_eq,Option.bind_some,if_pos (by rw[hsz];omega),quo_eq v hv,h59,
  refNum_from 20 21 (v / 10) _ (by omega) (by omega) (by omega) (by rw[ByteArray.size_append,hsz,hs1];omega),←ByteArray.append_assoc,numB_all,←str_append]
 rfl
theorem bt_data {s:ByteArray}{i:Nat}(h:i<s.size):bt s (i:Int)=((s.data.toList[i]'(by rw[data_length];exact h)).toNat:Int):=by
 obtain⟨u,hu,hb⟩:=data_drop s i h
 rw[hb]
 have:=List.drop_eq_getElem_cons (l:=s.data.toList) (i:=i) (by rw[data_length];exact h)
 rw[this] at hu
 rw[(List.cons.inj hu).1]
theorem next_eq {i n:Nat}(h:i<n)(hn:n≤9223372036854775807):wrap64 ((i:Int)+1)=((i+1:Nat):Int):=by
 unfold wrap64
 omega
theorem l0_j1 (s:ByteArray)(hs:s.size≤9223372036854775807)(d:Nat):∀(k i:Nat),nd s.data.toList - i=d→i≤nd s.data.toList→stanchionref01_TakeNum.l0 (k+d+1) s (i:Int)=stanchionref01_TakeNum.j1 k s (nd s.data.toList:Int):=by
 have hle:=nd_le s.data.toList
 rw[data_length] at hle
 induction d with
 |zero=>
  intro k i hd hi
  obtain rfl:i=nd s.data.toList:=by omega
  simp only[stanchionref01_TakeNum.l0]
  by_cases hlt:nd s.data.toList<s.size
  ·have hst:=nd_stop s.data.toList (by rw[data_length];exact hlt)
   rw[if_pos (by omega),if_pos (by omega),bt_data hlt]
   by_cases h48:48≤(s.data.toList[nd s.data.toList]'(by rw[data_length];exact hlt)).toNat
   ·by_cases h57:(s.data.toList[nd s.data.toList]'(by rw[data_length];exact hlt)).toNat≤57
    ·have:=(isD_iff _).mpr ⟨h48,h57⟩
     rw[hst] at this
     cases this
    ·rw [if_pos (by omega),if_neg (by omega)]
   ·rw [if_neg (by omega)]
  ·rw [if_neg (by omega)]
 |succ d ih=>
  intro k i hd hi
  have hin:i<nd s.data.toList:=by omega
  obtain⟨hl,hdig⟩:=nd_at s.data.toList i hin
  have:=(isD_iff _).mp hdig
  have hlt:i<s.size:=by omega
  have e:k+(d+1)+1=(k+d+1)+1:=by omega
  rw[e]
  simp only[stanchionref01_TakeNum.l0]
  rw[if_pos (by omega),if_pos (by omega),bt_data hlt,if_pos (by omega),if_pos (by omega),next_eq hlt hs]
  exact ih k (i+1) (by omega) (by omega)
def refEnd (s:ByteArray)(n v:Nat):Int×ByteArray×Int:=
 if n=s.data.toList.length then(0,ByteArray.empty,2)
 else if n=0∨¬s.data.toList[n]? =some 59 then(0,ByteArray.empty,3)
 else((v:Int),s.extract (n+1) s.size,0)
theorem l1_end (s:ByteArray)(hs:s.size≤9223372036854775807)(d:Nat):∀(k i v:Nat),nd s.data.toList - i=d→i≤nd s.data.toList→v<two64→
  stanchionref01_TakeNum.l1 (k+d+1) s (nd s.data.toList:Int) (v:Int) (i:Int) =
   some (if vfrom v ((s.data.toList.take (nd s.data.toList)).drop i)<two64 then refEnd s (nd s.data.toList) (vfrom v ((s.data.toList.take (nd s.data.toList)).drop i))else (0,ByteArray.empty,3)):=by
 have hle:=nd_le s.data.toList
 have hlen:s.data.toList.length=s.size:=data_length s
 have e64:=two64_eq
 induction d with
 |zero=>
  intro k i v hd hi hv
  obtain rfl:i=nd s.data.toList:=by omega
  have e:(s.data.toList.take (nd s.data.toList)).drop (nd s.data.toList)= []:=List.drop_eq_nil_of_le (by rw[List.length_take];omega)
  simp only[stanchionref01_TakeNum.l1]
  rw[e,vfrom_nil,if_pos hv,if_neg (by omega)]
  unfold refEnd
  by_cases hn:nd s.data.toList=s.data.toList.length
  ·rw [if_pos (by omega),if_pos hn]
   rfl
  ·have hlt:nd s.data.toList<s.size:=by omega
   rw[if_neg (by omega),if_pos (by omega),if_pos (by omega),if_neg hn,bt_data hlt]
   have h59:(s.data.toList[nd s.data.toList]? =some 59)↔(((s.data.toList[nd s.data.toList]'(by omega)).toNat:Int)=59):=by
    rw[List.getElem?_eq_getElem (by omega)]
    constructor
    ·intro e
     rw[Option.some.inj e]
     rfl
    ·intro e
     congr 1
     exact UInt8.toNat_inj.mp (by have e5:(59:UInt8).toNat=59:=rfl;omega)
   by_cases h:((s.data.toList[nd s.data.toList]'(by omega)).toNat:Int)=59
   ·rw [if_pos h]
    by_cases h0:nd s.data.toList=0
    ·rw [if_pos (by omega),if_pos (.inl h0)]
     rfl
    ·rw [if_neg (by omega),next_eq hlt hs,if_pos (by omega),if_pos (by omega),if_neg (by simp only[not_or,Classical.not_not];exact⟨h0,h59.mpr h⟩),Int.toNat_natCast]
   ·rw [if_neg h,if_pos (.inr (fun e=>h (h59.mp e)))]
    rfl
 |succ d ih=>
  intro k i v hd hi hv
  have hin:i<nd s.data.toList:=by omega
  obtain⟨hl,hdig⟩:=nd_at s.data.toList i hin
  have hbd:=(isD_iff _).mp hdig
  have hlt:i<s.size:=by omega
  have ek:k+(d+1)+1=(k+d+1)+1:=by omega
  have hdrop:(s.data.toList.take (nd s.data.toList)).drop i=s.data.toList[i] :: (s.data.toList.take (nd s.data.toList)).drop (i+1):=by
   rw[List.drop_eq_getElem_cons (by rw[List.length_take];omega),List.getElem_take]
  rw[ek,hdrop,vfrom_cons]
  simp only[stanchionref01_TakeNum.l1]
  have e1:(((s.data.toList[i]).toNat:Int) - 48) % 256=(((s.data.toList[i]).toNat - 48:Nat):Int):=by omega
  rw[if_pos (by omega),if_pos (by omega),if_pos (by omega),bt_data hlt,e1]
  have f1:nd s.data.toList - (i+1)=d:=by omega
  have f2:i+1≤nd s.data.toList:=by omega
  generalize hc:(s.data.toList[i]).toNat - 48=c
  have hc9:c≤9:=by omega
  clear e1 hbd hdig hdrop
  by_cases ho:10*v+c<two64
  ·have e2:IntKind.u64.wrap ((IntKind.u64.wrap (10*(v:Int)))+(c:Int))=((10*v+c:Nat):Int):=by
    rw[IntKind.wrap_u64,IntKind.wrap_u64]
    omega
   have e3:=next_eq hlt hs
   have g1:¬(v:Int)>1844674407370955161:=by omega
   have g2:(v:Int)=1844674407370955161→¬(c:Int)>5:=by omega
   rw[if_neg g1,e2,e3]
   have:=ih k (i+1) (10*v+c) f1 f2 ho
   by_cases h5:(v:Int)=1844674407370955161
   ·rw [if_pos h5,if_neg (g2 h5)]
    exact this
   ·rw [if_neg h5]
    exact this
  ·have hmono:=vfrom_le ((s.data.toList.take (nd s.data.toList)).drop (i+1)) (10*v+c)
   have g3:¬vfrom (10*v+c) ((s.data.toList.take (nd s.data.toList)).drop (i+1))<two64:=by omega
   rw[if_neg g3]
   by_cases h4:(v:Int)>1844674407370955161
   ·rw [if_pos h4]
    rfl
   ·rw [if_neg h4,if_pos (by omega),if_pos (by omega)]
    rfl
theorem refTake_eq (s:ByteArray)(hs:s.size≤9223372036854775807):∃k,stanchionref01_TakeNum.f k s=some (takeNum s):=by
 have hle:=nd_le s.data.toList
 have hlen:s.data.toList.length=s.size:=data_length s
 have h0:0<two64:=by rw[two64_eq];omega
 refine⟨((0+nd s.data.toList+1)+1+1)+nd s.data.toList+1,?_⟩
 unfold stanchionref01_TakeNum.f
 have hj:=l0_j1 s hs (nd s.data.toList) ((0+nd s.data.toList+1)+1+1) 0 (by omega) (by omega)
 rw[show((0:Nat):Int)=0 from rfl] at hj
 rw[hj]
 simp only[stanchionref01_TakeNum.j1,stanchionref01_TakeNum.j2]
 have hl1:=l1_end s hs (nd s.data.toList) 0 0 0 (by omega) (by omega) h0
 rw[show((0:Nat):Int)=0 from rfl,List.drop_zero] at hl1
 rw[hl1]
 have hval:vfrom 0 (s.data.toList.take (nd s.data.toList))=val (s.data.toList.take (nd s.data.toList)):=rfl
 rw[hval]
 unfold takeNum
 simp only[]
 generalize hn:nd s.data.toList=n at *
 by_cases h20:20<n
 ·rw [if_pos h20,if_pos (by omega)]
  rfl
 rw[if_neg h20,if_neg (by omega)]
 have hz:(1<n∧s.data.toList[0]? =some 48)↔((n:Int)>1∧(bt s 0==48)=true):=by
  constructor
  ·rintro⟨h1,h2⟩
   refine⟨by omega,?_⟩
   have:=bt_data (s:=s) (i:=0) (by omega)
   rw[show((0:Nat):Int)=0 from rfl] at this
   rw[List.getElem?_eq_getElem (by omega)] at h2
   rw[this,Option.some.inj h2]
   rfl
  ·rintro⟨h1,h2⟩
   refine⟨by omega,?_⟩
   have:=bt_data (s:=s) (i:=0) (by omega)
   rw[show((0:Nat):Int)=0 from rfl] at this
   rw[this] at h2
   rw[List.getElem?_eq_getElem (by omega)]
   congr 1
   exact UInt8.toNat_inj.mp (by simp at h2⊢;omega)
 by_cases hzz:1<n∧s.data.toList[0]? =some 48
 ·obtain⟨h1,h2⟩:=hz.mp hzz
  rw[if_pos h1,if_pos (by omega),if_pos h2,if_pos (.inl hzz)]
  rfl
 ·have hz2:¬((n:Int)>1∧(bt s 0==48)=true):=fun h=>hzz (hz.mpr h)
  have key:(if val (s.data.toList.take n)<two64 then refEnd s n (val (s.data.toList.take n))else (0,ByteArray.empty,3)) =
    (if(1<n∧s.data.toList[0]? =some 48)∨¬val (s.data.toList.take n)<two64∨(n<s.data.toList.length∧(n=0∨¬s.data.toList[n]? =some 59))then ((0:Int),ByteArray.empty,(3:Int))
     else if n=s.data.toList.length then(0,ByteArray.empty,2)else ((val (s.data.toList.take n):Int),s.extract (n+1) s.size,0)):=by
   by_cases hv:val (s.data.toList.take n)<two64
   ·rw [if_pos hv]
    unfold refEnd
    by_cases hnl:n=s.data.toList.length
    ·rw [if_pos hnl,if_neg,if_pos hnl]
     rintro(h|h|⟨h,_⟩)
     ·exact hzz h
     ·exact h hv
     ·omega
    ·rw [if_neg hnl]
     by_cases h3:n=0∨¬s.data.toList[n]? =some 59
     ·rw [if_pos h3,if_pos (.inr (.inr ⟨by omega,h3⟩))]
     ·rw [if_neg h3,if_neg,if_neg hnl]
      rintro(h|h|⟨_,h⟩)
      ·exact hzz h
      ·exact h hv
      ·exact h3 h
   ·rw [if_neg hv,if_pos (.inr (.inl hv))]
  rw[←key]
  by_cases h1:(n:Int)>1
  ·have h2:(bt s 0==48)=false:=by
    cases hb:(bt s 0==48)with
    |false=>rfl
    |true=>exact absurd ⟨h1,hb⟩ hz2
   rw[if_pos h1,if_pos (by omega),h2,if_neg (by decide)]
  ·rw [if_neg h1,if_neg (by decide)]
end Go.Proofs.YtmgmdiekpmffbaaGreatDoor.Giv
namespace Go.Proofs.YtmgmdiekpmffbaaGreatDoor.Giv
open Go Go.RowKit Go.Proofs.YtmgmdiekpmffbaaGreatDoor.DecM Go.Proofs.YtmgmdiekpmffbaaGreatDoorW.PrintWords Go.Proofs.YtmgmdiekpmffbaaGreatDoorW.PrintLast
theorem take_eq (s:ByteArray)(n:Nat)(w:World)(hs:s.size≤9223372036854775807)(hn:n=s.size)
  (hd:∀(i:Nat) (h:i<s.size),(48:Int)≤((s[i]'h).toNat:Int)∧((s[i]'h).toNat:Int)≤57)
  (ht:∀c∈(s.extract 0 n).data.toList,isD c=true) (hN:nd s.data.toList=n):
  Calls Tryz.prog 98 #[.string s] w (Ends w (takeNum s)):=by
 have HD:=Lib.hid hd
 have HT:=Lib.hid ht
 have HN:=Lib.hid hN
 have HM:=Lib.hid hn
 have hm1:n≤s.size:=by omega
 have hm2:s.size≤n:=by omega
 have HZ:Hid ((s.extract 0 n).size≤9223372036854775807):=Lib.hid (by rw[ByteArray.size_extract];omega)
 clear hd ht hN hn
 go_enter Tryz.func98,Tryz.ntmps98
 go_wp2
 go_step3
 go_wp2
 go_step3
 go_wp2
 go_loop [5] (fun x=>∃k:Nat,k≤n∧x= .int .i64 k) (fun x=>n - (intOf x).toNat)
 case atStart=>exact⟨0,by omega,rfl⟩
 case round=>
  obtain⟨k,hk,rfl⟩:=hrel
  by_cases hkn:k<s.size
  ·obtain⟨h1,h2⟩:=HD.out k hkn
   go_wp2
   go_round
   case rel=>exact⟨k+1,by omega,by go_num⟩
   case measure=>simp [intOf];omega
  ·obtain rfl:k=n:=by omega
   by_cases h20:20<k
   ·have HE:=Lib.hid (c_big HN.out h20)
    go_wp2
    (try rw[Exit.noGoto_ret])
    go_ret3
    exact ends_of HE (Below.refl _ _)
   ·have hks:((k:Int)==(s.size:Int))=true:=by simp;omega
    by_cases hv:val (s.extract 0 k).data.toList<two64
    ·have HV:Hid (val (s.data.toList.take k)<two64):=Lib.hid (by rw[←ext_take];exact hv)
     have HW:Hid (val (s.extract 0 k).data.toList=val (s.data.toList.take k)):=Lib.hid (by rw[ext_take])
     go_wp2_with (go_at_call 149;refine(told_yes _ _ _ HZ.out HT.out HW.out HV.out).mono ?_;rintro e w' ⟨rfl,hw⟩)
     all_goals
      have HB:=hw.below
      first
       |(have HE:=Lib.hid (c_zero HN.out ‹_› ‹_› ‹_›);(try rw[Exit.noGoto_ret]);go_ret3;exact ends_of HE HB)
       |(have HE:=Lib.hid (c_more HN.out h20 HM.out HV.out (by first|exact .inl ‹_› |exact .inr ⟨‹_›,‹_›⟩));(try rw[Exit.noGoto_ret]);go_ret3;exact ends_of HE HB)
    ·have HV:Hid (¬val (s.data.toList.take k)<two64):=Lib.hid (by rw[←ext_take];exact hv)
     have HE:=Lib.hid (c_told HN.out HV.out)
     go_wp2_with (go_at_call 149;refine(told_no _ _ HZ.out HT.out hv).mono ?_;rintro e w' ⟨rfl,hw⟩)
     all_goals
      have HB:=hw.below
      (try rw[Exit.noGoto_ret])
      go_ret3
      exact ends_of HE HB
theorem byte_fig {s:ByteArray}{i:Nat}(h:i<s.size)(hd:isD (s.data.toList[i]'(by rw[data_length];exact h))=true):(48:Int)≤((s[i]'h).toNat:Int)∧((s[i]'h).toNat:Int)≤57:=by
 have e:s.data.toList[i]'(by rw[data_length];exact h)=s[i]:=by
  simp only[Array.getElem_toList]
  rfl
 rw[e] at hd
 have:=(isD_iff _).mp hd
 omega
theorem take_calls (s:ByteArray)(w:World)(hs:s.size≤9223372036854775807):Calls Tryz.prog 98 #[.string s] w (Ends w (takeNum s)):=by
 have hl:s.data.toList.length=s.size:=data_length s
 have hle:=nd_le s.data.toList
 have ht:∀c∈(s.extract 0 (nd s.data.toList)).data.toList,isD c=true:=by
  intro c hc
  rw[ext_take] at hc
  exact nd_digits _ c hc
 by_cases hn:nd s.data.toList<s.size
 ·refine take_lt s _ w hs hn (fun i hi=>?_) ?_ ht rfl
  ·obtain⟨_,h⟩:=nd_at s.data.toList i hi
   exact byte_fig (by omega) h
  ·have h:=nd_stop s.data.toList (by omega)
   intro⟨h1,h2⟩
   have e:s.data.toList[nd s.data.toList]'(by omega)=s[nd s.data.toList]:=by
    simp only[Array.getElem_toList]
    rfl
   rw[e] at h
   have:=(isD_iff s[nd s.data.toList]).mpr (by omega)
   rw[this] at h
   cases h
 ·refine take_eq s _ w hs (by omega) (fun i hi=>?_) ht rfl
  obtain⟨_,h⟩:=nd_at s.data.toList i (by omega)
  exact byte_fig hi h
theorem refNum_calls (v:Nat)(w:World)(hv:v<18446744073709551616):
  Calls Tryz.prog 84 #[.int .u64 v] w fun e w'=>e= .returned (.string (numS v))∧Below w.heap.size w w':=
 QT.stanchionref01_Num.calls 21 (v:Int) (numS v) w (refNum_eq v hv)
theorem refTake_calls (s:ByteArray)(w:World)(hs:s.size≤9223372036854775807):Calls Tryz.prog 85 #[.string s] w (Ends w (takeNum s)):=by
 obtain⟨k,hk⟩:=refTake_eq s hs
 refine(QT.stanchionref01_TakeNum.calls k s (takeNum s).1 (takeNum s).2.1 (takeNum s).2.2 w hk).mono ?_
 intro e w' ⟨he,hw⟩
 exact⟨he,hw.below⟩
def textS (t:ByteArray):ByteArray:=numS t.size++t
theorem text_calls (t:ByteArray)(w:World)(ht:t.size≤4611686018427387904):
  Calls Tryz.prog 79 #[.string t] w fun e w'=>e= .returned (.string (textS t))∧Below w.heap.size w w':=by
 have hz:=numS_size t.size (by omega)
 have HC:=Lib.hid (num_calls t.size)
 have HE:Hid (textS t=numS t.size++t):=Lib.hid rfl
 go_enter Tryz.func79,Tryz.ntmps79
 go_wp2_with (go_at_call 48;refine(HC.out _ (by omega)).mono ?_;rintro e w1 ⟨rfl,hb⟩)
 go_ret
 exact⟨by rw[HE.out];rfl,hb⟩
theorem refText_calls (t:ByteArray)(w:World)(ht:t.size≤4611686018427387904):
  Calls Tryz.prog 40 #[.string t] w fun e w'=>e= .returned (.string (textS t))∧Below w.heap.size w w':=by
 have hz:=numS_size t.size (by omega)
 have HC:=Lib.hid (refNum_calls t.size)
 have HE:Hid (textS t=numS t.size++t):=Lib.hid rfl
 go_enter Tryz.func40,Tryz.ntmps40
 go_wp2_with (go_at_call 84;refine(HC.out _ (by omega)).mono ?_;rintro e w1 ⟨rfl,hb⟩)
 go_ret
 exact⟨by rw[HE.out];rfl,hb⟩
end Go.Proofs.YtmgmdiekpmffbaaGreatDoor.Giv
namespace Go.Proofs.YtmgmdiekpmffbaaGreatDoor.QDec
open Go Go.RowKit Go.Proofs.YtmgmdiekpmffbaaGreatDoor.DecM Go.Proofs.YtmgmdiekpmffbaaGreatDoor.Giv
def dec_TakeNum.f (a0:ByteArray):Option (Int×ByteArray×Int):=if a0.size≤9223372036854775807 then some (takeNum a0)else none
theorem dec_TakeNum.calls (a0:ByteArray)(r1:Int)(r2:ByteArray)(r3:Int)(w:World)(h:dec_TakeNum.f a0=some (r1,r2,r3)):
  Calls Tryz.prog 98 #[.string a0] w fun e w'=>e= .returned (.tuple #[.int .u64 r1,.string r2,.int .i64 r3])∧Below w.heap.size w w':=by
 unfold dec_TakeNum.f at h
 by_cases hs:a0.size≤9223372036854775807
 ·rw [if_pos hs] at h
  have e:=Option.some.inj h
  refine(take_calls a0 w hs).mono ?_
  intro e1 w1 hE
  unfold Ends at hE
  rw[e] at hE
  exact hE
 ·rw [if_neg hs] at h
  cases h
def stanchionref01_TakeNum.f (a0:ByteArray):Option (Int×ByteArray×Int):=if a0.size≤9223372036854775807 then some (takeNum a0)else none
theorem stanchionref01_TakeNum.calls (a0:ByteArray)(r1:Int)(r2:ByteArray)(r3:Int)(w:World)(h:stanchionref01_TakeNum.f a0=some (r1,r2,r3)):
  Calls Tryz.prog 85 #[.string a0] w fun e w'=>e= .returned (.tuple #[.int .u64 r1,.string r2,.int .i64 r3])∧Below w.heap.size w w':=by
 unfold stanchionref01_TakeNum.f at h
 by_cases hs:a0.size≤9223372036854775807
 ·rw [if_pos hs] at h
  have e:=Option.some.inj h
  refine(refTake_calls a0 w hs).mono ?_
  intro e1 w1 hE
  unfold Ends at hE
  rw[e] at hE
  exact hE
 ·rw [if_neg hs] at h
  cases h
def dec_Num.f (a0:Int):Option (ByteArray):=if 0≤a0∧a0<18446744073709551616 then some (numS a0.toNat)else none
theorem dec_Num.calls (a0:Int)(r:ByteArray)(w:World)(h:dec_Num.f a0=some r):
  Calls Tryz.prog 48 #[.int .u64 a0] w fun e w'=>e= .returned (.string r)∧Below w.heap.size w w':=by
 unfold dec_Num.f at h
 by_cases hs:0≤a0∧a0<18446744073709551616
 ·rw [if_pos hs] at h
  have e:=Option.some.inj h
  have hv:=num_calls a0.toNat w (by omega)
  rw[Int.toNat_of_nonneg hs.1,e] at hv
  exact hv
 ·rw [if_neg hs] at h
  cases h
def stanchionref01_Num.f (a0:Int):Option (ByteArray):=if 0≤a0∧a0<18446744073709551616 then some (numS a0.toNat)else none
theorem stanchionref01_Num.calls (a0:Int)(r:ByteArray)(w:World)(h:stanchionref01_Num.f a0=some r):
  Calls Tryz.prog 84 #[.int .u64 a0] w fun e w'=>e= .returned (.string r)∧Below w.heap.size w w':=by
 unfold stanchionref01_Num.f at h
 by_cases hs:0≤a0∧a0<18446744073709551616
 ·rw [if_pos hs] at h
  have e:=Option.some.inj h
  have hv:=refNum_calls a0.toNat w (by omega)
  rw[Int.toNat_of_nonneg hs.1,e] at hv
  exact hv
 ·rw [if_neg hs] at h
  cases h
def stanchionref01_Text.f (a0:ByteArray):Option (ByteArray):=if a0.size≤4611686018427387904 then some (textS a0)else none
theorem stanchionref01_Text.calls (a0:ByteArray)(r:ByteArray)(w:World)(h:stanchionref01_Text.f a0=some r):
  Calls Tryz.prog 40 #[.string a0] w fun e w'=>e= .returned (.string r)∧Below w.heap.size w w':=by
 unfold stanchionref01_Text.f at h
 by_cases hs:a0.size≤4611686018427387904
 ·rw [if_pos hs] at h
  have e:=Option.some.inj h
  have hv:=refText_calls a0 w hs
  rw[e] at hv
  exact hv
 ·rw [if_neg hs] at h
  cases h
end Go.Proofs.YtmgmdiekpmffbaaGreatDoor.QDec
namespace Go.Proofs.YtmgmdiekpmffbaaGreatDoor.QDec
open Go.RowKit Go.Proofs.YtmgmdiekpmffbaaGreatDoorW.PrintWords Go.Proofs.YtmgmdiekpmffbaaGreatDoorW.PrintLast Go.Proofs.YtmgmdiekpmffbaaGreatDoorW.PrintMore
attribute [local go_sem] max2_int min2_int max_two min_two max_three min_three max_four min_four
set_option linter.unusedVariables false
set_option linter.unusedSimpArgs false
def errW:Option Int→Value
 |none=> .nilIface
 |some c=> .iface 0 (.int .i64 c)
theorem errW_none:errW none= .nilIface:=rfl
theorem errW_some (c:Int):errW (some c)= .iface 0 (.int .i64 c):=rfl
end Go.Proofs.YtmgmdiekpmffbaaGreatDoor.QDec
namespace Go.Proofs.YtmgmdiekpmffbaaGreatDoor.QDec
open Go.RowKit Go.Proofs.YtmgmdiekpmffbaaGreatDoorW.PrintWords Go.Proofs.YtmgmdiekpmffbaaGreatDoorW.PrintLast Go.Proofs.YtmgmdiekpmffbaaGreatDoorW.PrintMore
attribute [local go_sem] max2_int min2_int max_two min_two max_three min_three max_four min_four
set_option linter.unusedVariables false
set_option linter.unusedSimpArgs false
def dec_told.l0:Nat→ByteArray→Int→Int→Int→Option (Int×Bool)
 |0,_,_,_,_=>none
 |k+1,x0,x4,x8,x9=>if x9<x8 then(if 0≤x9 then(if x9<(x0.size:Int)then (if x4>((18446744073709551615 - (((bt x0 x9) - 48) % 256)) / 10)then (some (0,false))else (dec_told.l0 k x0 (IntKind.u64.wrap ((IntKind.u64.wrap (10*x4))+(((bt x0 x9) - 48) % 256))) x8 (wrap64 (x9+1))))else (none))else (none))else (some (x4,true))
def dec_told.f (k:Nat)(a0:ByteArray):Option (Int×Bool):=dec_told.l0 k a0 0 (a0.size:Int) 0
theorem dec_told.calls (k:Nat)(a0:ByteArray)(r1:Int)(r2:Bool)(w:World)(h:dec_told.f k a0=some (r1,r2)):
  Calls Tryz.prog 149 #[.string a0] w fun e w'=>e= .returned (.tuple #[.int .u64 r1,.bool r2])∧Drawn0 w w':=by
 have H:(dec_told.l0 k a0 0 (a0.size:Int) 0)=some (r1,r2):=h
 clear h
 have H':=Aside0.mk H
 clear H
 go_enter Tryz.func149,Tryz.ntmps149
 go_wp2
 go_loopg [4,9] k (fun kq v4 v9 w'=>∃(x4_1:Int) (x9_1:Int),v4= .int .u64 x4_1∧v9= .int .i64 x9_1∧Aside0 (dec_told.l0 kq a0 x4_1 (a0.size:Int) x9_1=some (r1,r2))∧Aside0 (kq≤k)∧Drawn0 w w')
 case atStart=>exact⟨(0),(0),(by first|rfl|(simp;done)|(simp[*];done)),(by first|rfl|(simp;done)|(simp[*];done)),H',⟨Nat.le_refl _⟩,by repeat (first|exact Drawn0.refl _|apply Drawn0.step)⟩
 case round=>
  clear H'
  try clear c1
  obtain⟨x4_1,x9_1,rfl,rfl,HA,HK1,⟨m1,rfl⟩⟩:=hrel
  cases gk with
  |zero=>exact absurd HA.out (by simp[dec_told.l0])
  |succ k1=>
   have H:=HA.out
   clear HA
   simp only[dec_told.l0] at H
   by_cases c2:x9_1<(a0.size:Int)
   ·rw [if_pos c2] at H
    have c2b0:decide (x9_1<(a0.size:Int))=true:=decide_eq_true c2
    clear c2
    by_cases c3:0≤x9_1
    ·rw [if_pos c3] at H
     have c3b0:decide (0≤x9_1)=true:=decide_eq_true c3
     clear c3
     by_cases c4:x9_1<(a0.size:Int)
     ·rw [if_pos c4] at H
      have c4b0:decide (x9_1<(a0.size:Int))=true:=decide_eq_true c4
      clear c4
      by_cases c6:x4_1>((18446744073709551615 - (((bt a0 x9_1) - 48) % 256)) / 10)
      ·rw [if_pos c6] at H
       have c6b0:decide (((18446744073709551615 - (((bt a0 x9_1) - 48) % 256)) / 10)<x4_1)=true:=decide_eq_true c6
       clear c6
       simp only[Option.some.injEq,Prod.mk.injEq] at H
       obtain⟨rfl,rfl⟩:=H
       have p5:0≤(x9_1:Int):=of_decide_eq_true (by first|(with_reducible assumption)|assumption)
       have q5:x9_1<(a0.size:Int):=of_decide_eq_true (by first|(with_reducible assumption)|assumption)
       have hx5:=bt_at a0 x9_1
       replace p5:=eq_true p5
       replace q5:=eq_true q5
       go_wp2
       go_ret2
       exact⟨by first|rfl|(simp;done)|(simp[*];done),by repeat (first|exact Drawn0.refl _|apply Drawn0.step)⟩
      ·rw [if_neg c6] at H
       have c6b0:decide (((18446744073709551615 - (((bt a0 x9_1) - 48) % 256)) / 10)<x4_1)=false:=decide_eq_false c6
       clear c6
       have H':=Aside0.mk H
       clear H
       have p5:0≤(x9_1:Int):=of_decide_eq_true (by first|(with_reducible assumption)|assumption)
       have q5:x9_1<(a0.size:Int):=of_decide_eq_true (by first|(with_reducible assumption)|assumption)
       have hx5:=bt_at a0 x9_1
       replace p5:=eq_true p5
       replace q5:=eq_true q5
       go_wp2
       go_roundg k1
       case measure=>have:=HK1.out;omega
       case rel=>exact⟨(IntKind.u64.wrap ((IntKind.u64.wrap (10*x4_1))+(((bt a0 x9_1) - 48) % 256))),(wrap64 (x9_1+1)),(by first|rfl|(simp;done)|(simp[*];done)),(by first|rfl|(simp;done)|(simp[*];done)),H',⟨by have:=HK1.out;omega⟩,by repeat (first|exact Drawn0.refl _|apply Drawn0.step)⟩
     ·rw [if_neg c4] at H
      exact absurd H (by simp)
    ·rw [if_neg c3] at H
     exact absurd H (by simp)
   ·rw [if_neg c2] at H
    have c2b0:decide (x9_1<(a0.size:Int))=false:=decide_eq_false c2
    clear c2
    simp only[Option.some.injEq,Prod.mk.injEq] at H
    obtain⟨rfl,rfl⟩:=H
    go_wp2
    go_ret2
    exact⟨by first|rfl|(simp;done)|(simp[*];done),by repeat (first|exact Drawn0.refl _|apply Drawn0.step)⟩
def dec_TakeText.j0:Nat→Int→ByteArray→Bool→Option (ByteArray×ByteArray×Int)
 |0,_,_,_=>none
 |k+1,x7,x8,x20=>if x20=true then(some ((⟨#[]⟩:ByteArray),(⟨#[]⟩:ByteArray),4))else (if x7>(IntKind.u64.wrap ((x8.size:Int)))then (some ((⟨#[]⟩:ByteArray),(⟨#[]⟩:ByteArray),2))else (if 0≤x7 then(if x7≤(x8.size:Int)then (some (x8.extract 0 (x7:Int).toNat,x8.extract (x7:Int).toNat x8.size,0))else (none))else (none)))
def dec_TakeText.f (k:Nat)(a0:ByteArray)(a1:Int):Option (ByteArray×ByteArray×Int):=(dec_TakeNum.f a0).bind fun bt101=>(if bt101.2.2=0 then(if a1<0 then(dec_TakeText.j0 k bt101.1 bt101.2.1 true)else (dec_TakeText.j0 k bt101.1 bt101.2.1 (decide (bt101.1>(IntKind.u64.wrap (a1))))))else (some ((⟨#[]⟩:ByteArray),(⟨#[]⟩:ByteArray),bt101.2.2)))
theorem dec_TakeText.calls (k:Nat)(a0:ByteArray)(a1:Int)(r1:ByteArray)(r2:ByteArray)(r3:Int)(w:World)(h:dec_TakeText.f k a0 a1=some (r1,r2,r3)):
  Calls Tryz.prog 61 #[.string a0,.int .i64 a1] w fun e w'=>e= .returned (.tuple #[.string r1,.string r2,.int .i64 r3])∧Below w.heap.size w w':=by
 have HB:=Aside0.mk (Below.refl w.heap.size w)
 have H:((dec_TakeNum.f a0).bind fun bt101=>(if bt101.2.2=0 then(if a1<0 then(dec_TakeText.j0 k bt101.1 bt101.2.1 true)else (dec_TakeText.j0 k bt101.1 bt101.2.1 (decide (bt101.1>(IntKind.u64.wrap (a1))))))else (some ((⟨#[]⟩:ByteArray),(⟨#[]⟩:ByteArray),bt101.2.2))))=some (r1,r2,r3):=h
 clear h
 replace H:=Option.bind_eq_some_iff.mp H
 obtain⟨⟨t101,t102,t103⟩,A30,H⟩:=H
 replace H:(if t103=0 then(if a1<0 then(dec_TakeText.j0 k t101 t102 true)else (dec_TakeText.j0 k t101 t102 (decide (t101>(IntKind.u64.wrap (a1))))))else (some ((⟨#[]⟩:ByteArray),(⟨#[]⟩:ByteArray),t103)))=some (r1,r2,r3):=H
 have A3:=Aside0.mk A30
 clear A30
 by_cases c4:t103=0
 ·rw [if_pos c4] at H
  have c4b0:(t103==0)=true:=beq_iff_eq.mpr c4
  have c4b1:(t103 != 0)=false:=bne_eq_false_iff_eq.mpr c4
  clear c4
  have HC5:=Aside0.mk H
  clear H
  go_enter Tryz.func61,Tryz.ntmps61
  go_upto_region 4 with(first|(go_at_call 98;(with_reducible refine(dec_TakeNum.calls a0 t101 t102 t103 _ A3.out).mono ?_);rintro e w6 ⟨rfl,hb⟩;have n0_:=Aside0.mk (below_step (by repeat (first|(with_reducible first|exact HB.out|apply below_alloc|apply pw_below_drewN|apply below_drew1)|exact HB.out)) hb);clear HB;have HB:=n0_;clear n0_;(try clear hb);(try clear hb2);(try clear hk);(try clear hi)))
  repeat (go_quiet (first|(go_at_call 98;(with_reducible refine(dec_TakeNum.calls a0 t101 t102 t103 _ A3.out).mono ?_);rintro e w6 ⟨rfl,hb⟩;have n0_:=Aside0.mk (below_step (by repeat (first|(with_reducible first|exact HB.out|apply below_alloc|apply pw_below_drewN|apply below_drew1)|exact HB.out)) hb);clear HB;have HB:=n0_;clear n0_;(try clear hb);(try clear hb2);(try clear hk);(try clear hi)));go_upto_region 4 with(first|(go_at_call 98;(with_reducible refine(dec_TakeNum.calls a0 t101 t102 t103 _ A3.out).mono ?_);rintro e w6 ⟨rfl,hb⟩;have n0_:=Aside0.mk (below_step (by repeat (first|(with_reducible first|exact HB.out|apply below_alloc|apply pw_below_drewN|apply below_drew1)|exact HB.out)) hb);clear HB;have HB:=n0_;clear n0_;(try clear hb);(try clear hb2);(try clear hk);(try clear hi))))
  (try simp only[Act.put,List.setIfInBounds_toArray,List.set_cons_zero,List.set_cons_succ])
  go_cut [20] (fun v20 wc=>∃(kq:Nat) (x20_4:Bool),v20= .bool x20_4∧Aside0 (dec_TakeText.j0 kq t101 t102 x20_4=some (r1,r2,r3))∧Aside0 (kq≤k)∧Aside0 (Below w.heap.size w wc))
  case first=>
   have H:=HC5.out
   clear HC5
   by_cases c7:a1<0
   ·rw [if_pos c7] at H
    have c7b0:decide (a1<0)=true:=decide_eq_true c7
    clear c7
    (first|rw[c7b0]|(simp only[i64_w,i32_w];rw[c7b0])|skip)
    have H':=Aside0.mk H
    clear H
    go_wp2
    repeat (go_quiet (fail);try go_wp2)
    go_meet
    case rel=>exact⟨_,(true),(by first|rfl|(simp;done)|(simp[*];done)),H',⟨by first|omega|exact Nat.le_refl _⟩,⟨by repeat (first|(with_reducible first|exact HB.out|apply below_alloc|apply pw_below_drewN|apply below_drew1)|exact HB.out)⟩⟩
   ·rw [if_neg c7] at H
    have c7b0:decide (a1<0)=false:=decide_eq_false c7
    clear c7
    (first|rw[c7b0]|(simp only[i64_w,i32_w];rw[c7b0])|skip)
    have H':=Aside0.mk H
    clear H
    go_wp2
    repeat (go_quiet (fail);try go_wp2)
    go_meet
    case rel=>exact⟨_,(decide (t101>(IntKind.u64.wrap (a1)))),(by first|rfl|(simp;done)|(simp[*];done)),H',⟨by first|omega|exact Nat.le_refl _⟩,⟨by repeat (first|(with_reducible first|exact HB.out|apply below_alloc|apply pw_below_drewN|apply below_drew1)|exact HB.out)⟩⟩
  case rest=>
   clear HC5
   try clear p2
   try clear c4
   try clear c4b0
   try clear c4b1
   try clear c6
   try clear c7
   try clear c7b0
   obtain⟨kq,x20_4,rfl,HA,HJ4,HB⟩:=hcut
   cases kq with
   |zero=>exact absurd HA.out (by simp[dec_TakeText.j0])
   |succ kj4=>
    have H:=HA.out
    clear HA
    simp only[dec_TakeText.j0] at H
    by_cases c8:x20_4=true
    ·subst c8
     have H1:(some ((⟨#[]⟩:ByteArray),(⟨#[]⟩:ByteArray),4))=some (r1,r2,r3):=by rw[if_pos rfl] at H;exact H
     clear H
     have H:=H1
     clear H1
     simp only[Option.some.injEq,Prod.mk.injEq] at H
     obtain⟨rfl,rfl,rfl⟩:=H
     go_wp2
     repeat (go_quiet (fail);try go_wp2)
     go_ret3
     exact⟨by first|rfl|(simp[errW_none,errW_some] <;> rfl)|(simp[*,errW_none,errW_some] <;> rfl),by repeat (first|(with_reducible first|exact HB.out|apply below_alloc|apply pw_below_drewN|apply below_drew1)|exact HB.out)⟩
    ·replace c8:=Bool.eq_false_iff.mpr c8
     subst c8
     have H1:(if t101>(IntKind.u64.wrap ((t102.size:Int)))then (some ((⟨#[]⟩:ByteArray),(⟨#[]⟩:ByteArray),2))else (if 0≤t101 then(if t101≤(t102.size:Int)then (some (t102.extract 0 (t101:Int).toNat,t102.extract (t101:Int).toNat t102.size,0))else (none))else (none)))=some (r1,r2,r3):=by rw[if_neg (show¬(false=true)by decide)] at H;exact H
     clear H
     have H:=H1
     clear H1
     by_cases c9:t101>(IntKind.u64.wrap ((t102.size:Int)))
     ·rw [if_pos c9] at H
      have c9b0:decide ((IntKind.u64.wrap ((t102.size:Int)))<t101)=true:=decide_eq_true c9
      clear c9
      simp only[Option.some.injEq,Prod.mk.injEq] at H
      obtain⟨rfl,rfl,rfl⟩:=H
      go_wp2
      repeat (go_quiet (fail);try go_wp2)
      go_ret3
      exact⟨by first|rfl|(simp[errW_none,errW_some] <;> rfl)|(simp[*,errW_none,errW_some] <;> rfl),by repeat (first|(with_reducible first|exact HB.out|apply below_alloc|apply pw_below_drewN|apply below_drew1)|exact HB.out)⟩
     ·rw [if_neg c9] at H
      have c9b0:decide ((IntKind.u64.wrap ((t102.size:Int)))<t101)=false:=decide_eq_false c9
      clear c9
      by_cases c10:0≤t101
      ·rw [if_pos c10] at H
       have c10b0:=eq_true c10
       have c10b1:decide (0≤t101)=true:=decide_eq_true c10
       clear c10
       by_cases c11:t101≤(t102.size:Int)
       ·rw [if_pos c11] at H
        have c11b0:=eq_true c11
        have c11b1:decide (t101≤(t102.size:Int))=true:=decide_eq_true c11
        clear c11
        have c12b0:=eq_true (of_decide_eq_true (by first|(with_reducible assumption)|assumption):0≤t101)
        have c13b0:=eq_true (of_decide_eq_true (by first|(with_reducible assumption)|assumption):t101≤(t102.size:Int))
        simp only[Option.some.injEq,Prod.mk.injEq] at H
        obtain⟨rfl,rfl,rfl⟩:=H
        go_wp2
        repeat (go_quiet (fail);try go_wp2)
        go_ret3
        exact⟨by first|rfl|(simp[errW_none,errW_some] <;> rfl)|(simp[*,errW_none,errW_some] <;> rfl),by repeat (first|(with_reducible first|exact HB.out|apply below_alloc|apply pw_below_drewN|apply below_drew1)|exact HB.out)⟩
       ·rw [if_neg c11] at H
        exact absurd H (by simp)
      ·rw [if_neg c10] at H
       exact absurd H (by simp)
 ·rw [if_neg c4] at H
  have c4b0:(t103==0)=false:=beq_eq_false_iff_ne.mpr c4
  have c4b1:(t103 != 0)=true:=bne_iff_ne.mpr c4
  simp only[Option.some.injEq,Prod.mk.injEq] at H
  obtain⟨rfl,rfl,rfl⟩:=H
  go_enter Tryz.func61,Tryz.ntmps61
  go_wp2_with (first|(go_at_call 98;(with_reducible refine(dec_TakeNum.calls a0 t101 t102 t103 _ A3.out).mono ?_);rintro e w14 ⟨rfl,hb⟩;have n0_:=Aside0.mk (below_step (by repeat (first|(with_reducible first|exact HB.out|apply below_alloc|apply pw_below_drewN|apply below_drew1)|exact HB.out)) hb);clear HB;have HB:=n0_;clear n0_;(try clear hb);(try clear hb2);(try clear hk);(try clear hi)))
  repeat (go_quiet (first|(go_at_call 98;(with_reducible refine(dec_TakeNum.calls a0 t101 t102 t103 _ A3.out).mono ?_);rintro e w14 ⟨rfl,hb⟩;have n0_:=Aside0.mk (below_step (by repeat (first|(with_reducible first|exact HB.out|apply below_alloc|apply pw_below_drewN|apply below_drew1)|exact HB.out)) hb);clear HB;have HB:=n0_;clear n0_;(try clear hb);(try clear hb2);(try clear hk);(try clear hi)));try go_wp2_with (first|(go_at_call 98;(with_reducible refine(dec_TakeNum.calls a0 t101 t102 t103 _ A3.out).mono ?_);rintro e w14 ⟨rfl,hb⟩;have n0_:=Aside0.mk (below_step (by repeat (first|(with_reducible first|exact HB.out|apply below_alloc|apply pw_below_drewN|apply below_drew1)|exact HB.out)) hb);clear HB;have HB:=n0_;clear n0_;(try clear hb);(try clear hb2);(try clear hk);(try clear hi))))
  go_ret3
  exact⟨by first|rfl|(simp[errW_none,errW_some] <;> rfl)|(simp[*,errW_none,errW_some] <;> rfl),by repeat (first|(with_reducible first|exact HB.out|apply below_alloc|apply pw_below_drewN|apply below_drew1)|exact HB.out)⟩
def stanchionref01_TakeText.j0:Nat→Int→ByteArray→Bool→Option (ByteArray×ByteArray×Int)
 |0,_,_,_=>none
 |k+1,x7,x8,x26=>if x26=true then(some ((⟨#[]⟩:ByteArray),(⟨#[]⟩:ByteArray),4))else (if x7>(IntKind.u64.wrap ((x8.size:Int)))then (some ((⟨#[]⟩:ByteArray),(⟨#[]⟩:ByteArray),2))else (if 0≤x7 then(if x7≤(x8.size:Int)then (some (x8.extract 0 (x7:Int).toNat,x8.extract (x7:Int).toNat x8.size,0))else (none))else (none)))
def stanchionref01_TakeText.f (k:Nat)(a0:ByteArray)(a1:Int):Option (ByteArray×ByteArray×Int):=(stanchionref01_TakeNum.f a0).bind fun bt104=>(if bt104.2.2=0 then(if a1<0 then(stanchionref01_TakeText.j0 k bt104.1 bt104.2.1 true)else (stanchionref01_TakeText.j0 k bt104.1 bt104.2.1 (decide (bt104.1>(IntKind.u64.wrap (a1))))))else (some ((⟨#[]⟩:ByteArray),(⟨#[]⟩:ByteArray),bt104.2.2)))
theorem stanchionref01_TakeText.calls (k:Nat)(a0:ByteArray)(a1:Int)(r1:ByteArray)(r2:ByteArray)(r3:Int)(w:World)(h:stanchionref01_TakeText.f k a0 a1=some (r1,r2,r3)):
  Calls Tryz.prog 41 #[.string a0,.int .i64 a1] w fun e w'=>e= .returned (.tuple #[.string r1,.string r2,.int .i64 r3])∧Below w.heap.size w w':=by
 have HB:=Aside0.mk (Below.refl w.heap.size w)
 have H:((stanchionref01_TakeNum.f a0).bind fun bt104=>(if bt104.2.2=0 then(if a1<0 then(stanchionref01_TakeText.j0 k bt104.1 bt104.2.1 true)else (stanchionref01_TakeText.j0 k bt104.1 bt104.2.1 (decide (bt104.1>(IntKind.u64.wrap (a1))))))else (some ((⟨#[]⟩:ByteArray),(⟨#[]⟩:ByteArray),bt104.2.2))))=some (r1,r2,r3):=h
 clear h
 replace H:=Option.bind_eq_some_iff.mp H
 obtain⟨⟨t104,t105,t106⟩,A30,H⟩:=H
 replace H:(if t106=0 then(if a1<0 then(stanchionref01_TakeText.j0 k t104 t105 true)else (stanchionref01_TakeText.j0 k t104 t105 (decide (t104>(IntKind.u64.wrap (a1))))))else (some ((⟨#[]⟩:ByteArray),(⟨#[]⟩:ByteArray),t106)))=some (r1,r2,r3):=H
 have A3:=Aside0.mk A30
 clear A30
 by_cases c4:t106=0
 ·rw [if_pos c4] at H
  have c4b0:(t106==0)=true:=beq_iff_eq.mpr c4
  have c4b1:(t106 != 0)=false:=bne_eq_false_iff_eq.mpr c4
  clear c4
  have HC5:=Aside0.mk H
  clear H
  go_enter Tryz.func41,Tryz.ntmps41
  go_upto_region 4 with(first|(go_at_call 85;(with_reducible refine(stanchionref01_TakeNum.calls a0 t104 t105 t106 _ A3.out).mono ?_);rintro e w6 ⟨rfl,hb⟩;have n0_:=Aside0.mk (below_step (by repeat (first|(with_reducible first|exact HB.out|apply below_alloc|apply pw_below_drewN|apply below_drew1)|exact HB.out)) hb);clear HB;have HB:=n0_;clear n0_;(try clear hb);(try clear hb2);(try clear hk);(try clear hi)))
  repeat (go_quiet (first|(go_at_call 85;(with_reducible refine(stanchionref01_TakeNum.calls a0 t104 t105 t106 _ A3.out).mono ?_);rintro e w6 ⟨rfl,hb⟩;have n0_:=Aside0.mk (below_step (by repeat (first|(with_reducible first|exact HB.out|apply below_alloc|apply pw_below_drewN|apply below_drew1)|exact HB.out)) hb);clear HB;have HB:=n0_;clear n0_;(try clear hb);(try clear hb2);(try clear hk);(try clear hi)));go_upto_region 4 with(first|(go_at_call 85;(with_reducible refine(stanchionref01_TakeNum.calls a0 t104 t105 t106 _ A3.out).mono ?_);rintro e w6 ⟨rfl,hb⟩;have n0_:=Aside0.mk (below_step (by repeat (first|(with_reducible first|exact HB.out|apply below_alloc|apply pw_below_drewN|apply below_drew1)|exact HB.out)) hb);clear HB;have HB:=n0_;clear n0_;(try clear hb);(try clear hb2);(try clear hk);(try clear hi))))
  (try simp only[Act.put,List.setIfInBounds_toArray,List.set_cons_zero,List.set_cons_succ])
  go_cut [26] (fun v26 wc=>∃(kq:Nat) (x26_4:Bool),v26= .bool x26_4∧Aside0 (stanchionref01_TakeText.j0 kq t104 t105 x26_4=some (r1,r2,r3))∧Aside0 (kq≤k)∧Aside0 (Below w.heap.size w wc))
  case first=>
   have H:=HC5.out
   clear HC5
   by_cases c7:a1<0
   ·rw [if_pos c7] at H
    have c7b0:decide (a1<0)=true:=decide_eq_true c7
    clear c7
    (first|rw[c7b0]|(simp only[i64_w,i32_w];rw[c7b0])|skip)
    have H':=Aside0.mk H
    clear H
    go_wp2
    repeat (go_quiet (fail);try go_wp2)
    go_meet
    case rel=>exact⟨_,(true),(by first|rfl|(simp;done)|(simp[*];done)),H',⟨by first|omega|exact Nat.le_refl _⟩,⟨by repeat (first|(with_reducible first|exact HB.out|apply below_alloc|apply pw_below_drewN|apply below_drew1)|exact HB.out)⟩⟩
   ·rw [if_neg c7] at H
    have c7b0:decide (a1<0)=false:=decide_eq_false c7
    clear c7
    (first|rw[c7b0]|(simp only[i64_w,i32_w];rw[c7b0])|skip)
    have H':=Aside0.mk H
    clear H
    go_wp2
    repeat (go_quiet (fail);try go_wp2)
    go_meet
    case rel=>exact⟨_,(decide (t104>(IntKind.u64.wrap (a1)))),(by first|rfl|(simp;done)|(simp[*];done)),H',⟨by first|omega|exact Nat.le_refl _⟩,⟨by repeat (first|(with_reducible first|exact HB.out|apply below_alloc|apply pw_below_drewN|apply below_drew1)|exact HB.out)⟩⟩
  case rest=>
   clear HC5
   try clear p2
   try clear c4
   try clear c4b0
   try clear c4b1
   try clear c7
   try clear c7b0
   obtain⟨kq,x26_4,rfl,HA,HJ4,HB⟩:=hcut
   cases kq with
   |zero=>exact absurd HA.out (by simp[stanchionref01_TakeText.j0])
   |succ kj4=>
    have H:=HA.out
    clear HA
    simp only[stanchionref01_TakeText.j0] at H
    by_cases c8:x26_4=true
    ·subst c8
     have H1:(some ((⟨#[]⟩:ByteArray),(⟨#[]⟩:ByteArray),4))=some (r1,r2,r3):=by rw[if_pos rfl] at H;exact H
     clear H
     have H:=H1
     clear H1
     simp only[Option.some.injEq,Prod.mk.injEq] at H
     obtain⟨rfl,rfl,rfl⟩:=H
     go_wp2
     repeat (go_quiet (fail);try go_wp2)
     go_ret3
     exact⟨by first|rfl|(simp[errW_none,errW_some] <;> rfl)|(simp[*,errW_none,errW_some] <;> rfl),by repeat (first|(with_reducible first|exact HB.out|apply below_alloc|apply pw_below_drewN|apply below_drew1)|exact HB.out)⟩
    ·replace c8:=Bool.eq_false_iff.mpr c8
     subst c8
     have H1:(if t104>(IntKind.u64.wrap ((t105.size:Int)))then (some ((⟨#[]⟩:ByteArray),(⟨#[]⟩:ByteArray),2))else (if 0≤t104 then(if t104≤(t105.size:Int)then (some (t105.extract 0 (t104:Int).toNat,t105.extract (t104:Int).toNat t105.size,0))else (none))else (none)))=some (r1,r2,r3):=by rw[if_neg (show¬(false=true)by decide)] at H;exact H
     clear H
     have H:=H1
     clear H1
     by_cases c9:t104>(IntKind.u64.wrap ((t105.size:Int)))
     ·rw [if_pos c9] at H
      have c9b0:decide ((IntKind.u64.wrap ((t105.size:Int)))<t104)=true:=decide_eq_true c9
      clear c9
      simp only[Option.some.injEq,Prod.mk.injEq] at H
      obtain⟨rfl,rfl,rfl⟩:=H
      go_wp2
      repeat (go_quiet (fail);try go_wp2)
      go_ret3
      exact⟨by first|rfl|(simp[errW_none,errW_some] <;> rfl)|(simp[*,errW_none,errW_some] <;> rfl),by repeat (first|(with_reducible first|exact HB.out|apply below_alloc|apply pw_below_drewN|apply below_drew1)|exact HB.out)⟩
     ·rw [if_neg c9] at H
      have c9b0:decide ((IntKind.u64.wrap ((t105.size:Int)))<t104)=false:=decide_eq_false c9
      clear c9
      by_cases c10:0≤t104
      ·rw [if_pos c10] at H
       have c10b0:=eq_true c10
       have c10b1:decide (0≤t104)=true:=decide_eq_true c10
       clear c10
       by_cases c11:t104≤(t105.size:Int)
       ·rw [if_pos c11] at H
        have c11b0:=eq_true c11
        have c11b1:decide (t104≤(t105.size:Int))=true:=decide_eq_true c11
        clear c11
        have c12b0:=eq_true (of_decide_eq_true (by first|(with_reducible assumption)|assumption):0≤t104)
        have c13b0:=eq_true (of_decide_eq_true (by first|(with_reducible assumption)|assumption):t104≤(t105.size:Int))
        simp only[Option.some.injEq,Prod.mk.injEq] at H
        obtain⟨rfl,rfl,rfl⟩:=H
        go_wp2
        repeat (go_quiet (fail);try go_wp2)
        go_ret3
        exact⟨by first|rfl|(simp[errW_none,errW_some] <;> rfl)|(simp[*,errW_none,errW_some] <;> rfl),by repeat (first|(with_reducible first|exact HB.out|apply below_alloc|apply pw_below_drewN|apply below_drew1)|exact HB.out)⟩
       ·rw [if_neg c11] at H
        exact absurd H (by simp)
      ·rw [if_neg c10] at H
       exact absurd H (by simp)
 ·rw [if_neg c4] at H
  have c4b0:(t106==0)=false:=beq_eq_false_iff_ne.mpr c4
  have c4b1:(t106 != 0)=true:=bne_iff_ne.mpr c4
  simp only[Option.some.injEq,Prod.mk.injEq] at H
  obtain⟨rfl,rfl,rfl⟩:=H
  go_enter Tryz.func41,Tryz.ntmps41
  go_wp2_with (first|(go_at_call 85;(with_reducible refine(stanchionref01_TakeNum.calls a0 t104 t105 t106 _ A3.out).mono ?_);rintro e w14 ⟨rfl,hb⟩;have n0_:=Aside0.mk (below_step (by repeat (first|(with_reducible first|exact HB.out|apply below_alloc|apply pw_below_drewN|apply below_drew1)|exact HB.out)) hb);clear HB;have HB:=n0_;clear n0_;(try clear hb);(try clear hb2);(try clear hk);(try clear hi)))
  repeat (go_quiet (first|(go_at_call 85;(with_reducible refine(stanchionref01_TakeNum.calls a0 t104 t105 t106 _ A3.out).mono ?_);rintro e w14 ⟨rfl,hb⟩;have n0_:=Aside0.mk (below_step (by repeat (first|(with_reducible first|exact HB.out|apply below_alloc|apply pw_below_drewN|apply below_drew1)|exact HB.out)) hb);clear HB;have HB:=n0_;clear n0_;(try clear hb);(try clear hb2);(try clear hk);(try clear hi)));try go_wp2_with (first|(go_at_call 85;(with_reducible refine(stanchionref01_TakeNum.calls a0 t104 t105 t106 _ A3.out).mono ?_);rintro e w14 ⟨rfl,hb⟩;have n0_:=Aside0.mk (below_step (by repeat (first|(with_reducible first|exact HB.out|apply below_alloc|apply pw_below_drewN|apply below_drew1)|exact HB.out)) hb);clear HB;have HB:=n0_;clear n0_;(try clear hb);(try clear hb2);(try clear hk);(try clear hi))))
  go_ret3
  exact⟨by first|rfl|(simp[errW_none,errW_some] <;> rfl)|(simp[*,errW_none,errW_some] <;> rfl),by repeat (first|(with_reducible first|exact HB.out|apply below_alloc|apply pw_below_drewN|apply below_drew1)|exact HB.out)⟩
end Go.Proofs.YtmgmdiekpmffbaaGreatDoor.QDec
namespace Go.Proofs.YtmgmdiekpmffbaaGreatDoor.QDec
open Go.RowKit Go.Proofs.YtmgmdiekpmffbaaGreatDoorW.PrintWords Go.Proofs.YtmgmdiekpmffbaaGreatDoorW.PrintLast Go.Proofs.YtmgmdiekpmffbaaGreatDoorW.PrintMore
attribute [local go_sem] max2_int min2_int max_two min_two max_three min_three max_four min_four
set_option linter.unusedVariables false
set_option linter.unusedSimpArgs false
end Go.Proofs.YtmgmdiekpmffbaaGreatDoor.QDec
namespace Go.Proofs.YtmgmdiekpmffbaaGreatDoor.DecPure
open Go Go.RowKit Go.Proofs.YtmgmdiekpmffbaaGreatDoor.DecM Go.Proofs.YtmgmdiekpmffbaaGreatDoor.Giv Go.Proofs.YtmgmdiekpmffbaaGreatDoor.QDec Go.Proofs.YtmgmdiekpmffbaaGreatDoorW.PrintWords Go.Proofs.YtmgmdiekpmffbaaGreatDoorW.PrintLast
theorem take_some {s:ByteArray}(h:s.size≤9223372036854775807):dec_TakeNum.f s=some (takeNum s):=by
 unfold dec_TakeNum.f
 rw[if_pos h]
theorem ref_some {s:ByteArray}(h:s.size≤9223372036854775807):stanchionref01_TakeNum.f s=some (takeNum s):=by
 unfold stanchionref01_TakeNum.f
 rw[if_pos h]
theorem refn_some {a:Int}(h:0≤a∧a<18446744073709551616):stanchionref01_Num.f a=some (numS a.toNat):=by
 unfold stanchionref01_Num.f
 rw[if_pos h]
theorem text_some (k:Nat)(s:ByteArray)(most:Int)(hs:s.size≤9223372036854775807)(hm:most≤9223372036854775807):dec_TakeText.f (k+1) s most=some (takeText s most):=by
 obtain⟨h0,h1,h2⟩:=take_first s
 unfold dec_TakeText.f takeText
 rw[take_some hs]
 simp only[Option.bind_some]
 generalize takeNum s=r at *
 by_cases hz:r.2.2=0
 ·rw [if_pos hz,if_neg (show¬¬r.2.2=0 from fun h=>h hz)]
  have e1:IntKind.u64.wrap (r.2.1.size:Int)=(r.2.1.size:Int):=by
   rw[IntKind.wrap_u64]
   omega
  by_cases hm0:most<0
  ·rw [if_pos hm0,if_pos (.inl hm0)]
   simp only[dec_TakeText.j0]
   rw[if_pos trivial]
   rfl
  ·have e2:IntKind.u64.wrap most=most:=by
    rw[IntKind.wrap_u64]
    omega
   rw[if_neg hm0]
   simp only[dec_TakeText.j0]
   rw[e1,e2]
   by_cases hb:r.1>most
   ·rw [decide_eq_true hb,if_pos rfl,if_pos (.inr hb)]
    rfl
   ·rw [decide_eq_false hb,if_neg (show¬(false=true)by decide),if_neg (show¬(most<0∨r.1>most)from fun h=>h.elim hm0 hb)]
    by_cases hl:r.1>(r.2.1.size:Int)
    ·rw [if_pos hl,if_pos hl]
     rfl
    ·rw [if_neg hl,if_neg hl,if_pos h0,if_pos (by omega)]
 ·rw [if_neg hz,if_pos hz]
  rfl
theorem reft_some (k:Nat)(s:ByteArray)(most:Int)(hs:s.size≤9223372036854775807)(hm:most≤9223372036854775807):stanchionref01_TakeText.f (k+1) s most=some (takeText s most):=by
 rw[←text_some k s most hs hm]
 unfold stanchionref01_TakeText.f dec_TakeText.f
 rw[take_some hs,ref_some hs]
 rfl
theorem text_back (t m:ByteArray)(most:Int)(ht:t.size<18446744073709551616):takeText (textS t++m) most=if most<t.size then(ByteArray.empty,ByteArray.empty,4)else (t,m,0):=by
 have e64:=two64_eq
 have hb:takeNum (textS t++m)=((t.size:Int),t++m,0):=by
  unfold textS
  rw[ByteArray.append_assoc]
  exact take_back t.size (by omega) (t++m)
 unfold takeText
 rw[hb]
 simp only[]
 by_cases h:most<t.size
 ·rw [if_neg (by simp),if_pos (by omega),if_pos h]
 ·have e1:(t++m).extract 0 t.size=t:=by
   apply bytes_ext
   rw[ext_upto,data_append,List.take_append_of_le_length (by rw[len_size];omega),List.take_of_length_le (by rw[len_size];omega)]
  have e2:(t++m).extract t.size (t++m).size=m:=by
   apply bytes_ext
   rw[ext_from,data_append,List.drop_append_of_le_length (by rw[len_size];omega),List.drop_of_length_le (by rw[len_size];omega)]
   rfl
  rw[if_neg (by simp),if_neg (by omega),if_neg (by rw[ByteArray.size_append];omega),if_neg h,Int.toNat_natCast,e1,e2]
theorem takeText_size (s:ByteArray)(most:Int):(takeText s most).1.size≤s.size∧(takeText s most).2.1.size≤s.size:=by
 have hE:ByteArray.empty.size=0:=rfl
 obtain⟨_,_,h⟩:=take_first s
 unfold takeText
 by_cases h1:¬(takeNum s).2.2=0
 ·rw [if_pos h1]
  exact⟨by rw[hE];omega,by rw[hE];omega⟩
 rw[if_neg h1]
 by_cases h2:most<0∨(takeNum s).1>most
 ·rw [if_pos h2]
  exact⟨by rw[hE];omega,by rw[hE];omega⟩
 rw[if_neg h2]
 by_cases h3:(takeNum s).1>(takeNum s).2.1.size
 ·rw [if_pos h3]
  exact⟨by rw[hE];omega,by rw[hE];omega⟩
 rw[if_neg h3]
 simp only[ByteArray.size_extract]
 omega
end Go.Proofs.YtmgmdiekpmffbaaGreatDoor.DecPure
