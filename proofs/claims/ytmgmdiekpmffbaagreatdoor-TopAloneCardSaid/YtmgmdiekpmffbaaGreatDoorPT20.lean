/- One client that is alone, whose frames come in order, with room: each operation that may be is answered at once, and its commit with OK, if each of its writes is within the limits (the statement TopAlone, as a card). Condition: the package variable errors.errorType holds what the program's text lays there (the given tie) (texts TopOne, TopTop0, TopTop1, OpenOps, Laid, UpTopAlone) -/
import Derived.Deep.LoopGhost
import Derived.Deep.CutRange
import Derived.Deep.SlicePairs
import Derived.Test.YtmgmdiekpmffbaaGreatDoorCards
import Derived.Test.YtmgmdiekpmffbaaGreatDoorTie
import Derived.RowKit
import Derived.LaidLaws
import Derived.LaidHandle
import Derived.Deep.DeepHandedRow
import Derived.Lib.LaidTab
import Derived.Test.YtmgmdiekpmffbaaGreatDoorRows
import Derived.WalkKit
import Derived.ProofKit
import Derived.OpenShut
import Derived.ShutString
import Derived.ChangeOld
import Derived.Below
import Derived.Carry
import Derived.SevenTiedAt
import Derived.Test.YtmgmdiekpmffbaaGreatDoorPT2
import Derived.Test.YtmgmdiekpmffbaaGreatDoorPT4
import Derived.Test.YtmgmdiekpmffbaaGreatDoorPT9
import Derived.Test.YtmgmdiekpmffbaaGreatDoorPT14
import Derived.Test.YtmgmdiekpmffbaaGreatDoorPT16
import Derived.Test.YtmgmdiekpmffbaaGreatDoorPT19
set_option maxHeartbeats 64000000
set_option maxRecDepth 100000
set_option linter.unusedVariables false
set_option linter.unusedSimpArgs false
namespace Go.Proofs.YtmgmdiekpmffbaaGreatDoor.Top
open Go Go.RowKit Go.Proofs.YtmgmdiekpmffbaaGreatDoor.Enc Go.Proofs.YtmgmdiekpmffbaaGreatDoor.QWi Go.Proofs.YtmgmdiekpmffbaaGreatDoorW.PrintWords
theorem below2 {w W W2:World}(h:Below w.heap.size w W)(h2:Below W.heap.size W W2):Below w.heap.size w W2:=h.trans (h2.mono h.size)
def sv0 (rm:Int)(V:Option Addr)(vn vc:Nat):Sv:=⟨V,none,none,none,none,none,none,vn,vc,0,0,0,0,0,0,0,0,0,0,0,0,rm,1,1⟩
def sv1 (rm:Int)(V L A:Option Addr)(vn vc ln lc an ac:Nat):Sv:=⟨V,none,none,none,none,L,A,vn,vc,0,0,0,0,0,0,0,0,ln,lc,an,ac,rm,1,2⟩
def sv2 (rm:Int)(V H T L A:Option Addr)(vn vc hn hc tn tc ln lc an ac:Nat):Sv:=⟨V,none,none,H,T,L,A,vn,vc,0,0,0,0,hn,hc,tn,tc,ln,lc,an,ac,rm,2,2⟩
def Opened (rm:Int)(s:Sv)(w:World):Prop:=∃V vn vc L ln lc A an ac,s=sv1 rm V L A vn vc ln lc an ac∧Rs tyFl 129 w (.slice V vn vc) [eFile]∧Rs tySn 71 w (.slice L ln lc) [⟨0,false,⟨#[]⟩,0⟩]∧HAl w (.slice A an ac)
def Live (rm:Int)(tok:ByteArray)(q:Int)(m:Nat)(s:Sv)(w:World):Prop:=∃V vn vc H hn hc T tn tc L ln lc A an ac t l hl last,s=sv2 rm V H T L A vn vc hn hc tn tc ln lc an ac∧
 Rs tyFl 129 w (.slice V vn vc) [eFile]∧Rs tySn 71 w (.slice L ln lc) [⟨q,false,last,1⟩]∧HAl w (.slice A an ac)∧Rs tyTx 237 w (.slice T tn tc) [t]∧Rs tyWr 212 w (.slice t.A t.n t.c) l∧Rs tyHd 351 w (.slice H hn hc) hl∧t.token=tok∧Good l∧hl.length≤m
def Ended (tok:ByteArray)(s:Sv)(w:World):Prop:=s.hn=0∧∃K kc,s.K=K∧s.kn=1∧s.kc=kc∧Rs tyPr 123 w (.slice K 1 kc) [⟨tok,⟨#[99]⟩⟩]
def plainP (q:Int)(ov:Bool):S65:=⟨1,1,q,0,⟨#[]⟩,false,[],ov⟩
def OpP (q:Int)(r:ByteArray):Prop:=∃p:S65,r=encP p∧mayP p=true∧p.f2=q∧p.f7=false∧(p.f3=0∨p.f3=1∨p.f3=4)
section
variable {rm:Int} {tok:ByteArray} {q:Int} {m:Nat} {s:Sv} {w w':World} {b:Nat} {cs:Array Value}
theorem Opened.only (h:Opened rm s w)(ho:Only b w w')(hb:w.heap[b]? =some (.cells cs 50 (0,0))):Opened rm s w':=by
 obtain⟨V,vn,vc,L,ln,lc,A,an,ac,h1,h2,h3,h4⟩:=h
 exact⟨V,vn,vc,L,ln,lc,A,an,ac,h1,Rs.only h2 ho hb (by decide),Rs.only h3 ho hb (by decide),HAl.only h4 ho hb (by decide)⟩
theorem Live.only (h:Live rm tok q m s w)(ho:Only b w w')(hb:w.heap[b]? =some (.cells cs 50 (0,0))):Live rm tok q m s w':=by
 obtain⟨V,vn,vc,H,hn,hc,T,tn,tc,L,ln,lc,A,an,ac,t,l,hl,last,h1,h2,h3,h4,h5,h6,h7,h8⟩:=h
 exact⟨V,vn,vc,H,hn,hc,T,tn,tc,L,ln,lc,A,an,ac,t,l,hl,last,h1,Rs.only h2 ho hb (by decide),Rs.only h3 ho hb (by decide),HAl.only h4 ho hb (by decide),Rs.only h5 ho hb (by decide),Rs.only h6 ho hb (by decide),Rs.only h7 ho hb (by decide),h8⟩
theorem Ended.only (h:Ended tok s w)(ho:Only b w w')(hb:w.heap[b]? =some (.cells cs 50 (0,0))):Ended tok s w':=by
 obtain⟨h0,K,kc,h1,h2,h3,h4⟩:=h
 exact⟨h0,K,kc,h1,h2,h3,Rs.only h4 ho hb (by decide)⟩
theorem Opened.below (h:Opened rm s w)(hb:Below w.heap.size w w'):Opened rm s w':=by
 obtain⟨V,vn,vc,L,ln,lc,A,an,ac,h1,h2,h3,h4⟩:=h
 exact⟨V,vn,vc,L,ln,lc,A,an,ac,h1,Rs.below h2 hb,Rs.below h3 hb,HAl.below h4 hb⟩
theorem Live.below (h:Live rm tok q m s w)(hb:Below w.heap.size w w'):Live rm tok q m s w':=by
 obtain⟨V,vn,vc,H,hn,hc,T,tn,tc,L,ln,lc,A,an,ac,t,l,hl,last,h1,h2,h3,h4,h5,h6,h7,h8⟩:=h
 exact⟨V,vn,vc,H,hn,hc,T,tn,tc,L,ln,lc,A,an,ac,t,l,hl,last,h1,Rs.below h2 hb,Rs.below h3 hb,HAl.below h4 hb,Rs.below h5 hb,Rs.below h6 hb,Rs.below h7 hb,h8⟩
end
theorem enc_small (q:Int)(ov:Bool)(h0:0≤q)(h1:q≤1000000):(encP (plainP q ov)).size≤2048:=Nat.le_trans (encP_size (may_plain q ov h0 h1)).2 (by decide)
theorem may_open:mayQ 1 0 0 0 ⟨#[]⟩ 0 ⟨#[]⟩ ⟨#[]⟩ ⟨#[]⟩ ⟨#[]⟩ 0:=by decide
theorem may_begin (tok:ByteArray)(h:tok.size≤16):mayQ 4 1 1 1 tok 0 ⟨#[]⟩ ⟨#[]⟩ ⟨#[]⟩ ⟨#[]⟩ 0:=⟨by omega,by omega,by omega,by omega,h,.inr ⟨by omega,rfl,rfl,rfl,rfl,rfl,rfl,.inr (.inl rfl)⟩⟩
theorem may_commit (q:Int)(h0:0≤q)(h1:q≤1000000):mayQ 5 1 1 q ⟨#[]⟩ 5 ⟨#[]⟩ ⟨#[]⟩ ⟨#[]⟩ ⟨#[]⟩ 0:=⟨by omega,by omega,by omega,by omega,by decide,.inl ⟨rfl,rfl,by omega,by decide,by decide,by decide,by decide,by omega⟩⟩
theorem del_open (rm:Int)(V B:Option Addr)(vn vc bn bc:Nat)(w:World)(hh:Reader.Handle w)(hV:Rs tyFl 129 w (.slice V vn vc) [eFile])(hB:Rs tyBf 83 w (.slice B bn bc) [⟨⟨#[]⟩,false⟩])(s:Sv)(hs:s=sv0 rm V vn vc):
  Calls Tryz.prog 7 #[.agg #[.slice s.V s.vn s.vc,.int .i64 (s.room),.int .i64 (-1),.bool false,.int .i64 1,.int .i64 1,.int .i64 0,.slice s.D s.dn s.dc,.slice s.K s.kn s.kc,.bool false,.slice s.H s.hn s.hc,.slice none 0 0,.slice s.T s.tn s.tc,.int .i64 s.nx,.int .u64 0,.int .i64 1,.slice s.L s.ln s.lc,.slice s.A s.an s.ac,.int .i64 (s.snx),.int .u64 0,.slice B bn bc],.int .i64 0,.string (Wire.textW (encQ 1 0 0 0 ⟨#[]⟩ 0 ⟨#[]⟩ ⟨#[]⟩ ⟨#[]⟩ ⟨#[]⟩ 0))] w (DelV (fun s r w=>Opened rm s w∧r=encP (plainP 0 false)) w):=by
 subst hs
 refine srv_deliver (sv0 rm V vn vc) B bn bc _ _ w hB (Nat.le_trans (encQ_size may_open).2 (by decide)) (fun W g B bn bc hg hge hb=>?_) (fun s r W W' q cs h ho hq=>⟨h.1.only ho hq,h.2⟩)
 refine srv_request1 g (sv0 rm V vn vc) B bn bc 0 0 0 0 0 ⟨#[]⟩ ⟨#[]⟩ ⟨#[]⟩ ⟨#[]⟩ ⟨#[]⟩ _ _ W hg (handle_at hh hb) (take_of may_open) (fun W2 hg2 hb2=>?_)
 refine(srv_open 18 g _ _ _ _ _ _ _ _ _ _ _ _ _ _ _ _ 1 0 0 0 0 0 ⟨#[]⟩ ⟨#[]⟩ ⟨#[]⟩ ⟨#[]⟩ ⟨#[]⟩ (encP (plainP 0 false)) W2 hg2 (reply_plain 0 false (by decide) (by decide)) (enc_small 0 false (by decide) (by decide))).mono ?_
 rintro e w' ⟨A,n,c,H,m,kk,M,cap,rfl,hO,hk,hR,hA,hM⟩
 exact⟨sv1 rm V A H vn vc n c m kk,M,cap,_,rfl,hO,hk,⟨⟨V,vn,vc,A,n,c,H,m,kk,rfl,Rs.only (Rs.below hV (below2 hb hb2)) hO hg2 (by decide),hR,hA⟩,rfl⟩,hM⟩
theorem del_begin (rm:Int)(tok:ByteArray)(s:Sv)(B:Option Addr)(bn bc:Nat)(w:World)(hh:Reader.Handle w)(hO:Opened rm s w)(hB:Rs tyBf 83 w (.slice B bn bc) [⟨⟨#[]⟩,false⟩])(ht1:1≤tok.size)(ht2:tok.size≤16):
  Calls Tryz.prog 7 #[.agg #[.slice s.V s.vn s.vc,.int .i64 (s.room),.int .i64 (-1),.bool false,.int .i64 1,.int .i64 1,.int .i64 0,.slice s.D s.dn s.dc,.slice s.K s.kn s.kc,.bool false,.slice s.H s.hn s.hc,.slice none 0 0,.slice s.T s.tn s.tc,.int .i64 s.nx,.int .u64 0,.int .i64 1,.slice s.L s.ln s.lc,.slice s.A s.an s.ac,.int .i64 (s.snx),.int .u64 0,.slice B bn bc],.int .i64 0,.string (Wire.textW (encQ 4 1 1 1 tok 0 ⟨#[]⟩ ⟨#[]⟩ ⟨#[]⟩ ⟨#[]⟩ 0))] w (DelV (fun s r w=>Live rm tok 1 0 s w∧r=encP (plainP 1 false)) w):=by
 obtain⟨V,vn,vc,L,ln,lc,A,an,ac,rfl,hV,hL,hA⟩:=hO
 refine srv_deliver (sv1 rm V L A vn vc ln lc an ac) B bn bc _ _ w hB (Nat.le_trans (encQ_size (may_begin tok ht2)).2 (by decide)) (fun W g B bn bc hg hge hb=>?_) (fun s r W W' q cs h ho hq=>⟨h.1.only ho hq,h.2⟩)
 refine srv_request4 g (sv1 rm V L A vn vc ln lc an ac) B bn bc 1 1 1 0 0 tok ⟨#[]⟩ ⟨#[]⟩ ⟨#[]⟩ ⟨#[]⟩ _ _ W hg (handle_at hh hb) (take_of (may_begin tok ht2)) (fun W2 hg2 hb2=>?_)
 have hb3:=below2 hb hb2
 refine(srv_turn_begin 18 g V L A vn vc ln lc an ac rm 2 0 0 0 ⟨#[]⟩ tok ⟨#[]⟩ ⟨#[]⟩ ⟨#[]⟩ ⟨#[]⟩ _ (encP (plainP 1 false)) W2 hg2 (Rs.below hL hb3) (HAl.below hA hb3) (by decide) (by decide) ht1 ht2 (reply_plain 1 false (by decide) (by decide)) (enc_small 1 false (by decide) (by decide))).mono ?_
 rintro e w' ⟨H,m,kk,⟨T,tn,tc,A',n,c,M,cap,rfl,hO,hk,hT,hR,hM⟩,hA'⟩
 exact⟨sv2 rm V none T A' H vn vc 0 0 tn tc n c m kk,M,cap,_,rfl,hO,hk,⟨⟨V,vn,vc,none,0,0,T,tn,tc,A',n,c,H,m,kk,⟨tok,none,0,0⟩,[],[],_,rfl,Rs.only (Rs.below hV hb3) hO hg2 (by decide),hR,hA',hT,Rs.nil _ _ _,Rs.nil _ _ _,rfl,good_nil,Nat.le_refl _⟩,rfl⟩,hM⟩
theorem del_op (rm:Int)(tok:ByteArray)(q:Int)(m:Nat)(o:Int)(key vl lo hi:ByteArray)(mo:Int)(s:Sv)(B:Option Addr)(bn bc:Nat)(w:World)(hh:Reader.Handle w)(hO:Live rm tok q m s w)(hB:Rs tyBf 83 w (.slice B bn bc) [⟨⟨#[]⟩,false⟩])(h0:0≤q)(h1:q<100000)(hm:m≤1000)(hq:mayQ 5 1 1 (q+1) ⟨#[]⟩ o key vl lo hi mo)(ho:o≤4):
  Calls Tryz.prog 7 #[.agg #[.slice s.V s.vn s.vc,.int .i64 (s.room),.int .i64 (-1),.bool false,.int .i64 1,.int .i64 1,.int .i64 0,.slice s.D s.dn s.dc,.slice s.K s.kn s.kc,.bool false,.slice s.H s.hn s.hc,.slice none 0 0,.slice s.T s.tn s.tc,.int .i64 s.nx,.int .u64 0,.int .i64 1,.slice s.L s.ln s.lc,.slice s.A s.an s.ac,.int .i64 (s.snx),.int .u64 0,.slice B bn bc],.int .i64 0,.string (Wire.textW (encQ 5 1 1 (q+1) ⟨#[]⟩ o key vl lo hi mo))] w (DelV (fun s r w=>Live rm tok (q+1) (m+1) s w∧OpP (q+1) r) w):=by
 obtain⟨V,vn,vc,H,hn,hc,T,tn,tc,L,ln,lc,A,an,ac,t,l,hl,last,rfl,hV,hL,hA,hT,hW,hH,htk,hg,hlen⟩:=hO
 have hq':=hq
 obtain⟨_,_,_,_,_,hq2|hq2⟩:=hq'
 case inr=>exact absurd rfl hq2.1
 obtain⟨_,_,ho1,hk1,hv1,_⟩:=hq2
 refine srv_deliver (sv2 rm V H T L A vn vc hn hc tn tc ln lc an ac) B bn bc _ _ w hB (Nat.le_trans (encQ_size hq).2 (by decide)) (fun W g B bn bc hgW hge hb=>?_) (fun s r W W' q cs h ho hq=>⟨h.1.only ho hq,h.2⟩)
 refine srv_request5 g (sv2 rm V H T L A vn vc hn hc tn tc ln lc an ac) B bn bc 1 1 (q+1) o mo ⟨#[]⟩ key vl lo hi _ _ W hgW (handle_at hh hb) (take_of hq) (fun W2 hg2 hb2=>?_)
 have hb3:=below2 hb hb2
 refine(srv_turn_op 18 g V none H T vn vc 0 0 hn hc tn tc rm 2 L A ln lc an ac 2 q o mo last ⟨#[]⟩ key vl lo hi _ t l hl (AnyR t) W2 hg2 (Rs.below hL hb3) (HAl.below hA hb3) (Rs.below hT hb3) (Rs.below hW hb3) (Rs.below hH hb3) h0 (by omega)
  (fun W3 hT hW hH=>ask_any V none H T vn vc 0 0 hn hc tn tc rm 2 t l hl o key vl lo hi mo W3 hT hW hH (by omega) hg ho1.1 ho hk1 hv1)
  (fun y d l' p h=>⟨_,reply_any h h0 (by omega),Nat.le_trans (encP_size (may_any h h0 (by omega))).2 (by decide),h.2.1,Nat.le_trans h.2.2.2.2.2.1 (by decide)⟩)).mono ?_
 rintro e w' ⟨HA,hn',hc',hl',T',tn',tc',y,d,l',p,r,A',n',c',H',m',kk',M,cap,rfl,hOn,hk,hT',hW',hH',hlen',hR',hA',hM,hAny,hrep⟩
 rw[reply_any hAny h0 (by omega)] at hrep
 obtain rfl:=(Prod.mk.inj (Option.some.inj hrep)).1
 refine⟨sv2 rm V HA T' A' H' vn vc hn' hc' tn' tc' n' c' m' kk',M,cap,_,rfl,hOn,hk,⟨⟨V,vn,vc,HA,hn',hc',T',tn',tc',A',n',c',H',m',kk',y,l',hl',_,rfl,Rs.only (Rs.below hV hb3) hOn hg2 (by decide),hR',hA',hT',hW',hH',hAny.1.trans htk,hAny.2.2.2.2.1,by omega⟩,repOf q d p,rfl,may_any hAny h0 (by omega),rfl,hAny.2.1,hAny.2.2.1⟩,hM⟩
theorem del_commit (rm:Int)(tok:ByteArray)(q:Int)(m:Nat)(s:Sv)(B:Option Addr)(bn bc:Nat)(w:World)(hh:Reader.Handle w)(hO:Live rm tok q m s w)(hB:Rs tyBf 83 w (.slice B bn bc) [⟨⟨#[]⟩,false⟩])(h0:0≤q)(h1:q<100000)(hm:m≤1000)(ht1:1≤tok.size)(ht2:tok.size≤16)(hr0:2200≤rm)(hr1:rm≤1000000):
  Calls Tryz.prog 7 #[.agg #[.slice s.V s.vn s.vc,.int .i64 (s.room),.int .i64 (-1),.bool false,.int .i64 1,.int .i64 1,.int .i64 0,.slice s.D s.dn s.dc,.slice s.K s.kn s.kc,.bool false,.slice s.H s.hn s.hc,.slice none 0 0,.slice s.T s.tn s.tc,.int .i64 s.nx,.int .u64 0,.int .i64 1,.slice s.L s.ln s.lc,.slice s.A s.an s.ac,.int .i64 (s.snx),.int .u64 0,.slice B bn bc],.int .i64 0,.string (Wire.textW (encQ 5 1 1 (q+1) ⟨#[]⟩ 5 ⟨#[]⟩ ⟨#[]⟩ ⟨#[]⟩ ⟨#[]⟩ 0))] w (DelV (fun s r w=>Ended tok s w∧r=encP (plainP (q+1) true)) w):=by
 obtain⟨V,vn,vc,H,hn,hc,T,tn,tc,L,ln,lc,A,an,ac,t,l,hl,last,rfl,hV,hL,hA,hT,hW,hH,rfl,hg,hlen⟩:=hO
 have hq:=may_commit (q+1) (by omega) (by omega)
 refine srv_deliver (sv2 rm V H T L A vn vc hn hc tn tc ln lc an ac) B bn bc _ _ w hB (Nat.le_trans (encQ_size hq).2 (by decide)) (fun W g B bn bc hgW hge hb=>?_) (fun s r W W' q cs h ho hq=>⟨h.1.only ho hq,h.2⟩)
 refine srv_request5 g (sv2 rm V H T L A vn vc hn hc tn tc ln lc an ac) B bn bc 1 1 (q+1) 5 0 ⟨#[]⟩ ⟨#[]⟩ ⟨#[]⟩ ⟨#[]⟩ ⟨#[]⟩ _ _ W hgW (handle_at hh hb) (take_of hq) (fun W2 hg2 hb2=>?_)
 have hb3:=below2 hb hb2
 refine(srv_turn_commit 18 g V H T vn vc hn hc tn tc rm 2 L A ln lc an ac 2 q 0 last ⟨#[]⟩ ⟨#[]⟩ ⟨#[]⟩ ⟨#[]⟩ ⟨#[]⟩ _ t l hl (encP (plainP (q+1) true)) W2 hg2 (Rs.below hV hb3) (Rs.below hL hb3) (HAl.below hA hb3) (Rs.below hT hb3) (Rs.below hW hb3) (Rs.below hH hb3) h0 (by omega) (by omega) rfl hg.2.2.1 hg.2.2.2 ht1 ht2 hg.1 hg.2.1 hr0 hr1 (reply_plain (q+1) true (by omega) (by omega)) (enc_small (q+1) true (by omega) (by omega))).mono ?_
 rintro e w' ⟨V9,vn9,vc9,r9,D9,dn9,dc9,K9,kc9,H9,hc9,T9,tc9,A',n',c',H',m',kk',M,cap,rfl,hOn,hk,hP,hM⟩
 exact⟨⟨V9,D9,K9,H9,T9,A',H',vn9,vc9,dn9,dc9,1,kc9,0,hc9,0,tc9,n',c',m',kk',r9,2,2⟩,M,cap,_,rfl,hOn,hk,⟨⟨rfl,K9,kc9,rfl,rfl,rfl,hP⟩,rfl⟩,hM⟩
end Go.Proofs.YtmgmdiekpmffbaaGreatDoor.Top
namespace Go.Proofs.YtmgmdiekpmffbaaGreatDoor.Top
open Go Go.RowKit Go.Proofs.YtmgmdiekpmffbaaGreatDoor.DecM Go.Proofs.YtmgmdiekpmffbaaGreatDoor.Giv Go.Proofs.YtmgmdiekpmffbaaGreatDoor.QWi Go.Proofs.YtmgmdiekpmffbaaGreatDoor.Enc Go.Proofs.YtmgmdiekpmffbaaGreatDoor.Reader Go.Proofs.YtmgmdiekpmffbaaGreatDoorW.PrintWords
theorem top_shown (w:World)(hh:Reader.Handle w):Calls Tryz.prog 4 #[] w fun e w'=>e= .returned (.bool true)∧Below w.heap.size w w':=by
 obtain⟨rm,hr⟩:∃rm:Int,Hid (rm=1000 - epS.size):=⟨_,h_ rfl⟩
 have HH:=h_ hh
 clear hh
 have HB:Hid (Below w.heap.size w w):=h_ (Below.refl _ _)
 go_enter Tryz.func4,Tryz.ntmps4
 go_wp2_with fail
 refine(ref_new 1000 _ (by decide)).mono ?_
 rintro e w1 ⟨rfl,hb⟩
 obtain⟨hz,HB⟩:=m1 hb HB
 go_upto_region 2 with(fail)
 refine nm fun w2 hb=>?_
 obtain⟨hz,_,hb,KD⟩:=na1 hb
 obtain⟨hz,HB⟩:=m1 hb HB
 have CD:=cells4 KD.out
 go_wp2_with fail
 refine(server_start 1000 rm _ hr (by decide) (by decide)).mono ?_
 rintro e w3 ⟨V0,vn,vc,B,bn,bc,rfl,hR,hBf,hb⟩
 have HR:=h_ hR
 have HBf:=h_ hBf
 clear hR hBf
 clear CD
 obtain⟨hz,KD,HB⟩:=m2 hb KD HB
 dsimp only
 refine(show∀(a:Act) (w:World),wpList _ _ _ _ a w→_ from by assumption) _ _ ?_
 try simp only[Act.put,lay]
 refine wpList_run (w2:=w3) rfl (by go_simp;try with_reducible rfl) ?_
 try simp only[Act.put,lay]
 refine wpList_run (w2:=w3) rfl (by go_simp;try with_reducible rfl) ?_
 try simp only[Act.put,lay]
 refine wpList_run (w2:=w3) rfl (by go_simp;try with_reducible rfl) ?_
 try simp only[Act.put,lay]
 refine wpList_run (v:= .pointer (some ⟨w3.heap.size,0,none⟩)) (w2:=w3.alloc (.cells #[.slice none 0 0,.int .i64 0,.int .i64 0,.bool false,.int .i64 0,.int .i64 0,.int .i64 0,.slice none 0 0,.slice none 0 0,.bool false,.slice none 0 0,.slice none 0 0,.slice none 0 0,.int .i64 0,.int .u64 0,.int .i64 0,.slice none 0 0,.slice none 0 0,.int .i64 0,.int .u64 0,.slice none 0 0] 50)) rfl (by go_simp;try with_reducible rfl) ?_
 try simp only[Act.put,lay]
 generalize hu:w3.alloc (.cells #[.slice none 0 0,.int .i64 0,.int .i64 0,.bool false,.int .i64 0,.int .i64 0,.int .i64 0,.slice none 0 0,.slice none 0 0,.bool false,.slice none 0 0,.slice none 0 0,.slice none 0 0,.int .i64 0,.int .u64 0,.int .i64 0,.slice none 0 0,.slice none 0 0,.int .i64 0,.int .u64 0,.slice none 0 0] 50)=mw3
 have hb:Below w3.heap.size w3 mw3:=hu▸one _ _
 have kV:mw3.heap[w3.heap.size]? =some (.cells #[.slice none 0 0,.int .i64 0,.int .i64 0,.bool false,.int .i64 0,.int .i64 0,.int .i64 0,.slice none 0 0,.slice none 0 0,.bool false,.slice none 0 0,.slice none 0 0,.slice none 0 0,.int .i64 0,.int .u64 0,.int .i64 0,.slice none 0 0,.slice none 0 0,.int .i64 0,.int .u64 0,.slice none 0 0] 50 (0,0)):=hu▸blk_new _ _
 clear hu
 obtain⟨hz,KD,HR,HBf,HB⟩:=m4 hb KD HR HBf HB
 have KV:=h_ kV
 have Vlt:w3.heap.size<mw3.heap.size:=blk_lt kV
 clear kV
 refine wpList_store_mid rfl 50 _ _ rfl (w3.heap.size) 0 #[.slice V0 vn vc,.int .i64 (rm),.int .i64 (-1),.bool false,.int .i64 1,.int .i64 1,.int .i64 0,.slice none 0 0,.slice none 0 0,.bool false,.slice none 0 0,.slice none 0 0,.slice none 0 0,.int .i64 1,.int .u64 0,.int .i64 1,.slice none 0 0,.slice none 0 0,.int .i64 1,.int .u64 0,.slice B bn bc] rfl rfl (there_at KV.out 0 _ (Nat.le_of_ble_eq_true rfl)) (by kernel_rfl) (by first|kernel_rfl|simp[Value.oneCell']) ?_
 rw[put_cells]
 generalize hu:putAt _ _ _ _=p4
 have hb:=below_of_eq hu.symm
 clear hu
 obtain⟨ho,kV⟩:=pw 0 [.slice V0 vn vc,.int .i64 (rm),.int .i64 (-1),.bool false,.int .i64 1,.int .i64 1,.int .i64 0,.slice none 0 0,.slice none 0 0,.bool false,.slice none 0 0,.slice none 0 0,.slice none 0 0,.int .i64 1,.int .u64 0,.int .i64 1,.slice none 0 0,.slice none 0 0,.int .i64 1,.int .u64 0,.slice B bn bc] KV hb
 obtain⟨hz,KD,HR,HBf,HB⟩:=o4 ho KD HR HBf HB
 replace KV:=kV
 clear kV
 go_upto_region 3 with(fail)
 refine nm fun w4 hb=>?_
 obtain⟨hz,KD,KV,HR,HBf,HB⟩:=m5 hb KD KV HR HBf HB
 refine rl1 7 KV fun u1 hb=>?_
 obtain⟨hz,KD,KV,HR,HBf,HB⟩:=m5 hb KD KV HR HBf HB
 refine ll 0 0 21 (fun _ k=>k) KV.out Tryz.underlying50 ?_
 refine l_ 1 (.inr KV.out) ?_
 refine ld 2 fun K hK=>?_
 go_simp
 go_at_call 8
 refine(top_framed 1 0 0 0 ⟨#[]⟩ 0 ⟨#[]⟩ ⟨#[]⟩ ⟨#[]⟩ ⟨#[]⟩ 0 _ may_open).mono ?_
 rintro e w5 ⟨rfl,hb⟩
 obtain⟨hz,KD,KV,HR,HBf,HB⟩:=m5 hb KD KV HR HBf HB
 refine b_ hK (.inr KV.out) ?_
 refine ld 3 fun K hK=>?_
 go_simp
 go_at_call 7
 refine(del_open rm V0 B vn vc bn bc _ (handle_at HH.out HB.out) HR.out HBf.out _ rfl).mono ?_
 rintro e w6 ⟨s1,B1,bn1,bc1,M1,k1,r1,rfl,hb,⟨hP,-⟩,hM,-⟩
 obtain⟨V1,vn1,vc1,L1,ln1,lc1,A1,an1,ac1,rfl,-,hL,-⟩:=hP
 dsimp only[sv1]
 have HL:=h_ hL
 have HM:=h_ hM
 clear hL hM
 obtain⟨hz,KD,KV,HR,HBf,HB⟩:=m5 hb KD KV HR HBf HB
 refine b_ hK (.inr KV.out) ?_
 refine l_ 4 (.inr KV.out) ?_
 refine l_ 5 (.inr KV.out) ?_
 refine l_ 6 (.inr KV.out) ?_
 refine ld 7 fun K hK=>?_
 refine sm 0 [.slice V1 vn1 vc1,.int .i64 (rm),.int .i64 (-1),.bool false,.int .i64 1,.int .i64 1,.int .i64 0,.slice none 0 0,.slice none 0 0,.bool false,.slice none 0 0,.slice none 0 0,.slice none 0 0,.int .i64 1,.int .u64 0,.int .i64 1,.slice L1 ln1 lc1,.slice A1 an1 ac1,.int .i64 2,.int .u64 0,.slice B1 bn1 bc1] KV fun u2 ho kV=>?_
 obtain⟨hz,KD,HR,HBf,HL,HM,HB⟩:=o6 ho KD HR HBf HL HM HB
 replace KV:=kV
 clear kV
 refine b_ hK (.inl (by kernel_rfl)) ?_
 refine l_ 8 (.inl (by kernel_rfl)) ?_
 refine dl ?_
 go_upto_region 4 with(fail)
 refine nm fun w8 hb=>?_
 obtain⟨hz,KD,KV,HR,HBf,HL,HM,HB⟩:=m7 hb KD KV HR HBf HL HM HB
 have CV:=cells21 KV.out
 obtain⟨rfl,lb,rfl,_⟩:=Rs.head1 HL.out
 have l0:=el1 HL.out 0 _ rfl
 have m0:=el1 HM.out 0 _ rfl
 go_wp2
 go_ret
 exact⟨rfl,HB.out⟩
def OpsAt (O:Option Addr)(n:Nat)(w:World):Prop:=∀i,i<n→∃(ad:Addr) (o:Int) (key vl lo hi:ByteArray) (mo:Int),O=some ad∧w.cell? (ad.add (i*6))=some (.int .i64 o)∧w.cell? ⟨(ad.add (i*6)).block,(ad.add (i*6)).off+1,none⟩=some (.string key)∧w.cell? ⟨(ad.add (i*6)).block,(ad.add (i*6)).off+2,none⟩=some (.string vl)∧w.cell? ⟨(ad.add (i*6)).block,(ad.add (i*6)).off+3,none⟩=some (.string lo)∧w.cell? ⟨(ad.add (i*6)).block,(ad.add (i*6)).off+4,none⟩=some (.string hi)∧w.cell? ⟨(ad.add (i*6)).block,(ad.add (i*6)).off+5,none⟩=some (.int .i64 mo)
theorem Live.le {rm:Int}{tok:ByteArray}{q:Int}{m m':Nat}{s:Sv}{w:World}(h:Live rm tok q m s w)(hm:m≤m'):Live rm tok q m' s w:=by
 obtain⟨V,vn,vc,H,hn,hc,T,tn,tc,L,ln,lc,A,an,ac,t,l,hl,last,h1,h2,h3,h4,h5,h6,h7,h8,h9,h10⟩:=h
 exact⟨V,vn,vc,H,hn,hc,T,tn,tc,L,ln,lc,A,an,ac,t,l,hl,last,h1,h2,h3,h4,h5,h6,h7,h8,h9,Nat.le_trans h10 hm⟩
theorem Live.succ {rm:Int}{tok:ByteArray}{q m:Nat}{s:Sv}{w:World}(h:Live rm tok ((q:Int)+1) m s w):Live rm tok ((q+1:Nat):Int) m s w:=by
 have e:(q:Int)+1=((q+1:Nat):Int):=by omega
 rwa [e] at h
theorem top_alone (tok:ByteArray)(O:Option Addr)(on oc:Nat)(w:World)(hh:Reader.Handle w)(hO:OpsAt O on w):
  Calls Tryz.prog 3 #[.agg #[.string tok,.slice O on oc]] w fun e w'=>e= .returned (.bool true)∧Below w.heap.size w w':=by
 obtain⟨rm,hr⟩:∃rm:Int,Hid (rm=100000 - epS.size):=⟨_,h_ rfl⟩
 have HRM:Hid (2200≤rm∧rm≤1000000):=h_ (by have:=hr.out;have:=epS_size;omega)
 have HHN:=h_ hh
 have HOP:=h_ hO
 clear hh hO
 have HB:Hid (Below w.heap.size w w):=h_ (Below.refl _ _)
 go_enter Tryz.func3,Tryz.ntmps3
 go_wp2_with fail
 refine(top_shown _ (handle_at HHN.out (below_alloc HB.out _))).mono ?_
 rintro e w1 ⟨rfl,hb⟩
 obtain⟨hz,_,hb,KA⟩:=na1 hb
 obtain⟨hz,HB⟩:=m1 hb HB
 go_wp2_with fail
 refine(ref_new 100000 _ (by decide)).mono ?_
 rintro e w2 ⟨rfl,hb⟩
 obtain⟨hz,KA,HB⟩:=m2 hb KA HB
 go_upto_region 3 with(fail)
 refine nm fun w3 hb=>?_
 obtain⟨hz,_,hb,KD⟩:=na1 hb
 obtain⟨hz,KA,HB⟩:=m2 hb KA HB
 have CD:=cells4 KD.out
 go_wp2_with fail
 refine(server_start 100000 rm _ hr (by decide) (by decide)).mono ?_
 rintro e w4 ⟨V0,vn,vc,B,bn,bc,rfl,hR,hBf,hb⟩
 have HR:=h_ hR
 have HBf:=h_ hBf
 clear hR hBf
 clear CD
 obtain⟨hz,KA,KD,HB⟩:=m3 hb KA KD HB
 dsimp only
 refine(show∀(a:Act) (w:World),wpList _ _ _ _ a w→_ from by assumption) _ _ ?_
 try simp only[Act.put,lay]
 refine wpList_run (w2:=w4) rfl (by go_simp;try with_reducible rfl) ?_
 try simp only[Act.put,lay]
 refine wpList_run (w2:=w4) rfl (by go_simp;try with_reducible rfl) ?_
 try simp only[Act.put,lay]
 refine wpList_run (w2:=w4) rfl (by go_simp;try with_reducible rfl) ?_
 try simp only[Act.put,lay]
 refine wpList_run (v:= .pointer (some ⟨w4.heap.size,0,none⟩)) (w2:=w4.alloc (.cells #[.slice none 0 0,.int .i64 0,.int .i64 0,.bool false,.int .i64 0,.int .i64 0,.int .i64 0,.slice none 0 0,.slice none 0 0,.bool false,.slice none 0 0,.slice none 0 0,.slice none 0 0,.int .i64 0,.int .u64 0,.int .i64 0,.slice none 0 0,.slice none 0 0,.int .i64 0,.int .u64 0,.slice none 0 0] 50)) rfl (by go_simp;try with_reducible rfl) ?_
 try simp only[Act.put,lay]
 generalize hu:w4.alloc (.cells #[.slice none 0 0,.int .i64 0,.int .i64 0,.bool false,.int .i64 0,.int .i64 0,.int .i64 0,.slice none 0 0,.slice none 0 0,.bool false,.slice none 0 0,.slice none 0 0,.slice none 0 0,.int .i64 0,.int .u64 0,.int .i64 0,.slice none 0 0,.slice none 0 0,.int .i64 0,.int .u64 0,.slice none 0 0] 50)=mw4
 have hb:Below w4.heap.size w4 mw4:=hu▸one _ _
 have kV:mw4.heap[w4.heap.size]? =some (.cells #[.slice none 0 0,.int .i64 0,.int .i64 0,.bool false,.int .i64 0,.int .i64 0,.int .i64 0,.slice none 0 0,.slice none 0 0,.bool false,.slice none 0 0,.slice none 0 0,.slice none 0 0,.int .i64 0,.int .u64 0,.int .i64 0,.slice none 0 0,.slice none 0 0,.int .i64 0,.int .u64 0,.slice none 0 0] 50 (0,0)):=hu▸blk_new _ _
 clear hu
 obtain⟨hz,KA,KD,HR,HBf,HB⟩:=m5 hb KA KD HR HBf HB
 have KV:=h_ kV
 have Vlt:w4.heap.size<mw4.heap.size:=blk_lt kV
 clear kV
 refine wpList_store_mid rfl 50 _ _ rfl (w4.heap.size) 0 #[.slice V0 vn vc,.int .i64 (rm),.int .i64 (-1),.bool false,.int .i64 1,.int .i64 1,.int .i64 0,.slice none 0 0,.slice none 0 0,.bool false,.slice none 0 0,.slice none 0 0,.slice none 0 0,.int .i64 1,.int .u64 0,.int .i64 1,.slice none 0 0,.slice none 0 0,.int .i64 1,.int .u64 0,.slice B bn bc] rfl rfl (there_at KV.out 0 _ (Nat.le_of_ble_eq_true rfl)) (by kernel_rfl) (by first|kernel_rfl|simp[Value.oneCell']) ?_
 rw[put_cells]
 generalize hu:putAt _ _ _ _=p5
 have hb:=below_of_eq hu.symm
 clear hu
 obtain⟨ho,kV⟩:=pw 0 [.slice V0 vn vc,.int .i64 (rm),.int .i64 (-1),.bool false,.int .i64 1,.int .i64 1,.int .i64 0,.slice none 0 0,.slice none 0 0,.bool false,.slice none 0 0,.slice none 0 0,.slice none 0 0,.int .i64 1,.int .u64 0,.int .i64 1,.slice none 0 0,.slice none 0 0,.int .i64 1,.int .u64 0,.slice B bn bc] KV hb
 obtain⟨hz,KA,KD,HR,HBf,HB⟩:=o5 ho KA KD HR HBf HB
 replace KV:=kV
 clear kV
 go_upto_region 4 with(fail)
 refine nm fun w5 hb=>?_
 obtain⟨hz,KA,KD,KV,HR,HBf,HB⟩:=m6 hb KA KD KV HR HBf HB
 have CA:=cells2 KA.out
 by_cases h1:(tok.size:Int)<1
 ·have c1:((tok.size:Int)<1)=True:=eq_true h1
  go_wp2
  go_ret
  exact⟨rfl,HB.out⟩
 have c1:((tok.size:Int)<1)=False:=eq_false h1
 by_cases h2:(16:Int)<(tok.size:Int)
 ·have c2:((16:Int)<(tok.size:Int))=True:=eq_true h2
  go_wp2
  go_ret
  exact⟨rfl,HB.out⟩
 have c2:((16:Int)<(tok.size:Int))=False:=eq_false h2
 by_cases h3:(30:Int)<(on:Int)
 ·have c3:((30:Int)<(on:Int))=True:=eq_true h3
  go_wp2
  go_ret
  exact⟨rfl,HB.out⟩
 have c3:((30:Int)<(on:Int))=False:=eq_false h3
 have HT:Hid (1≤tok.size∧tok.size≤16∧on≤30):=h_ (by omega)
 go_upto_region 6 with(fail)
 refine nm fun w6 hb=>?_
 clear CA
 obtain⟨hz,KA,KD,KV,HR,HBf,HB⟩:=m6 hb KA KD KV HR HBf HB
 clear c1 c2 c3 h1 h2 h3
 go_cut [] from 19 (fun wx=>∃s1 B1 bn1 bc1,wx.heap[w.heap.size]? =some (.cells #[.string tok,.slice O on oc] 24 (0,0))∧wx.heap[w2.heap.size]? =some (.cells #[.slice none 0 0,.int .i64 (100000),.int .i64 (-1),.bool false] 28 (0,0))∧wx.heap[w4.heap.size]? =some (.cells #[.slice s1.V s1.vn s1.vc,.int .i64 (s1.room),.int .i64 (-1),.bool false,.int .i64 1,.int .i64 1,.int .i64 0,.slice s1.D s1.dn s1.dc,.slice s1.K s1.kn s1.kc,.bool false,.slice s1.H s1.hn s1.hc,.slice none 0 0,.slice s1.T s1.tn s1.tc,.int .i64 s1.nx,.int .u64 0,.int .i64 1,.slice s1.L s1.ln s1.lc,.slice s1.A s1.an s1.ac,.int .i64 (s1.snx),.int .u64 0,.slice B1 bn1 bc1] 50 (0,0))∧Rs tyFl 129 wx (.slice V0 vn vc) ([eFile])∧Rs tyBf 83 wx (.slice B1 bn1 bc1) ([⟨⟨#[]⟩,false⟩])∧(Opened rm s1 wx)∧Below w.heap.size w wx)
 case first=>
  refine rl1 7 KV fun u1 hb=>?_
  obtain⟨hz,KA,KD,KV,HR,HBf,HB⟩:=m6 hb KA KD KV HR HBf HB
  refine ll 0 0 21 (fun _ k=>k) KV.out Tryz.underlying50 ?_
  refine l_ 1 (.inr KV.out) ?_
  refine ld 2 fun K hK=>?_
  go_simp
  go_at_call 8
  refine(top_framed 1 0 0 0 ⟨#[]⟩ 0 ⟨#[]⟩ ⟨#[]⟩ ⟨#[]⟩ ⟨#[]⟩ 0 _ may_open).mono ?_
  rintro e w61 ⟨rfl,hb⟩
  obtain⟨hz,KA,KD,KV,HR,HBf,HB⟩:=m6 hb KA KD KV HR HBf HB
  refine b_ hK (.inr KV.out) ?_
  refine ld 3 fun K hK=>?_
  go_simp
  go_at_call 7
  refine(del_open rm V0 B vn vc bn bc _ (handle_at HHN.out HB.out) HR.out HBf.out _ rfl).mono ?_
  rintro e w62 ⟨s1,B1,bn1,bc1,M1,k1,r1,rfl,hb,⟨hP,-⟩,-,hBf⟩
  have HOPN:=h_ hP
  have HBf2:=h_ hBf
  clear hP hBf
  obtain⟨hz,KA,KD,KV,HR,HBf,HB⟩:=m6 hb KA KD KV HR HBf HB
  clear HBf
  have HBf:=HBf2
  clear HBf2
  refine b_ hK (.inr KV.out) ?_
  refine l_ 4 (.inr KV.out) ?_
  refine l_ 5 (.inr KV.out) ?_
  refine l_ 6 (.inr KV.out) ?_
  refine ld 7 fun K hK=>?_
  refine sm 0 [.slice s1.V s1.vn s1.vc,.int .i64 (s1.room),.int .i64 (-1),.bool false,.int .i64 1,.int .i64 1,.int .i64 0,.slice s1.D s1.dn s1.dc,.slice s1.K s1.kn s1.kc,.bool false,.slice s1.H s1.hn s1.hc,.slice none 0 0,.slice s1.T s1.tn s1.tc,.int .i64 s1.nx,.int .u64 0,.int .i64 1,.slice s1.L s1.ln s1.lc,.slice s1.A s1.an s1.ac,.int .i64 (s1.snx),.int .u64 0,.slice B1 bn1 bc1] KV fun u2 ho kV=>?_
  replace HOPN:Hid (Opened rm s1 u2):=h_ (Opened.only HOPN.out ho KV.out)
  obtain⟨hz,KA,KD,HR,HBf,HB⟩:=o5 ho KA KD HR HBf HB
  replace KV:=kV
  clear kV
  refine b_ hK (.inl (by kernel_rfl)) ?_
  refine dl ?_
  go_wp2_with fail
  go_meet
  exact⟨s1,B1,bn1,bc1,KA.out,KD.out,KV.out,HR.out,HBf.out,HOPN.out,HB.out⟩
 case rest=>
  rename World=>wc6
  clear KA KD KV HR HBf HB
  obtain⟨s1,B1,bn1,bc1,kA,kD,kV,hR,hBf,p_OPN,hB⟩:=hcut
  obtain⟨KA,A8lt,A8ne,A8en⟩:=hid_mv kA
  clear kA
  obtain⟨KD,D8lt,D8ne,D8en⟩:=hid_mv kD
  clear kD
  obtain⟨KV,V8lt,V8ne,V8en⟩:=hid_mv kV
  clear kV
  have HR:=h_ hR
  clear hR
  have HBf:=h_ hBf
  clear hBf
  have HOPN:=h_ p_OPN
  clear p_OPN
  have HB:=h_ hB
  have hs8_:=HB.out.size
  clear hB
  clear HR
  go_upto_region 7 with(fail)
  refine nm fun w7 hb=>?_
  replace HOPN:Hid (Opened rm s1 w7):=h_ (Opened.below HOPN.out hb)
  obtain⟨hz,KA,KD,KV,HBf,HB⟩:=m5 hb KA KD KV HBf HB
  go_cut [8] from 19 (fun s8 wx=>∃s2 B2 bn2 bc2 M2 k2,s8= .slice (some ⟨M2,0,none⟩) 1 k2∧wx.heap[w.heap.size]? =some (.cells #[.string tok,.slice O on oc] 24 (0,0))∧wx.heap[w2.heap.size]? =some (.cells #[.slice none 0 0,.int .i64 (100000),.int .i64 (-1),.bool false] 28 (0,0))∧wx.heap[w4.heap.size]? =some (.cells #[.slice s2.V s2.vn s2.vc,.int .i64 (s2.room),.int .i64 (-1),.bool false,.int .i64 1,.int .i64 1,.int .i64 0,.slice s2.D s2.dn s2.dc,.slice s2.K s2.kn s2.kc,.bool false,.slice s2.H s2.hn s2.hc,.slice none 0 0,.slice s2.T s2.tn s2.tc,.int .i64 s2.nx,.int .u64 0,.int .i64 1,.slice s2.L s2.ln s2.lc,.slice s2.A s2.an s2.ac,.int .i64 (s2.snx),.int .u64 0,.slice B2 bn2 bc2] 50 (0,0))∧Rs tyBf 83 wx (.slice B2 bn2 bc2) ([⟨⟨#[]⟩,false⟩])∧Rs tyMl 73 wx (.slice (some ⟨M2,0,none⟩) 1 k2) ([⟨Wire.textW (encP (plainP 1 false))⟩])∧(Live rm tok 1 0 s2 wx)∧Below w.heap.size w wx)
  case first=>
   refine rl2 9 KV KA fun u3 hb=>?_
   replace HOPN:Hid (Opened rm s1 u3):=h_ (Opened.below HOPN.out hb)
   obtain⟨hz,KA,KD,KV,HBf,HB⟩:=m5 hb KA KD KV HBf HB
   refine ll 0 0 21 (fun _ k=>k.1) ⟨KV.out,KA.out⟩ Tryz.underlying50 ?_
   refine l_ 1 (.inr ⟨KV.out,KA.out⟩) ?_
   refine lq 2 (fun _ k=>bq k.2 0) ⟨KV.out,KA.out⟩ ?_
   refine l_ 3 (.inr ⟨KV.out,KA.out⟩) ?_
   refine ld 4 fun K hK=>?_
   go_simp
   go_at_call 8
   refine(top_framed 4 1 1 1 tok 0 ⟨#[]⟩ ⟨#[]⟩ ⟨#[]⟩ ⟨#[]⟩ 0 _ (may_begin tok HT.out.2.1)).mono ?_
   rintro e w10 ⟨rfl,hb⟩
   replace HOPN:Hid (Opened rm s1 w10):=h_ (Opened.below HOPN.out hb)
   obtain⟨hz,KA,KD,KV,HBf,HB⟩:=m5 hb KA KD KV HBf HB
   refine b_ hK (.inr ⟨KV.out,KA.out⟩) ?_
   refine ld 5 fun K hK=>?_
   go_simp
   go_at_call 7
   refine(del_begin rm tok s1 B1 bn1 bc1 _ (handle_at HHN.out HB.out) HOPN.out HBf.out HT.out.1 HT.out.2.1).mono ?_
   rintro e w11 ⟨s2,B2,bn2,bc2,M2,k2,r2,rfl,hb,⟨hP,rfl⟩,hM,hBf⟩
   have HLV:=h_ hP
   have HBf2:=h_ hBf
   have HM:=h_ hM
   clear hP hM hBf
   replace HOPN:Hid (Opened rm s1 w11):=h_ (Opened.below HOPN.out hb)
   obtain⟨hz,KA,KD,KV,HBf,HB⟩:=m5 hb KA KD KV HBf HB
   clear HOPN HBf
   have HBf:=HBf2
   clear HBf2
   refine b_ hK (.inr ⟨KV.out,KA.out⟩) ?_
   refine l_ 6 (.inr ⟨KV.out,KA.out⟩) ?_
   refine l_ 7 (.inr ⟨KV.out,KA.out⟩) ?_
   refine l_ 8 (.inr ⟨KV.out,KA.out⟩) ?_
   refine ld 9 fun K hK=>?_
   refine sm 0 [.slice s2.V s2.vn s2.vc,.int .i64 (s2.room),.int .i64 (-1),.bool false,.int .i64 1,.int .i64 1,.int .i64 0,.slice s2.D s2.dn s2.dc,.slice s2.K s2.kn s2.kc,.bool false,.slice s2.H s2.hn s2.hc,.slice none 0 0,.slice s2.T s2.tn s2.tc,.int .i64 s2.nx,.int .u64 0,.int .i64 1,.slice s2.L s2.ln s2.lc,.slice s2.A s2.an s2.ac,.int .i64 (s2.snx),.int .u64 0,.slice B2 bn2 bc2] KV fun u4 ho kV=>?_
   replace HLV:Hid (Live rm tok 1 0 s2 u4):=h_ (Live.only HLV.out ho KV.out)
   obtain⟨hz,KA,KD,HBf,HM,HB⟩:=o5 ho KA KD HBf HM HB
   replace KV:=kV
   clear kV
   refine b_ hK (.inl (by kernel_rfl)) ?_
   refine l_ 10 (.inl (by kernel_rfl)) ?_
   refine dl ?_
   go_wp2_with fail
   go_meet
   exact⟨s2,B2,bn2,bc2,M2,k2,rfl,KA.out,KD.out,KV.out,HBf.out,HM.out,HLV.out,HB.out⟩
  case rest=>
   rename World=>wc7
   clear KA KD KV HBf HB
   obtain⟨s2,B2,bn2,bc2,M2,k2,rfl,kA,kD,kV,hBf,hM,p_LV,hB⟩:=hcut
   obtain⟨KA,A10lt,A10ne,A10en⟩:=hid_mv kA
   clear kA
   obtain⟨KD,D10lt,D10ne,D10en⟩:=hid_mv kD
   clear kD
   obtain⟨KV,V10lt,V10ne,V10en⟩:=hid_mv kV
   clear kV
   have HBf:=h_ hBf
   clear hBf
   have HM:=h_ hM
   clear hM
   have HLV:=h_ p_LV
   clear p_LV
   have HB:=h_ hB
   have hs10_:=HB.out.size
   clear hB
   go_upto_region 8 with(fail)
   refine nm fun w8 hb=>?_
   replace HLV:Hid (Live rm tok 1 0 s2 w8):=h_ (Live.below HLV.out hb)
   obtain⟨hz,KA,KD,KV,HBf,HM,HB⟩:=m6 hb KA KD KV HBf HM HB
   go_wp2_with fail
   refine(top_replies (plainP 1 false) _ k2 _ (may_plain 1 false (by decide) (by decide)) HM.out).mono ?_
   rintro e w9 ⟨rb,rc,rA,rn,rcc,rfl,hRp,hb⟩
   have x3:w9.cell? ⟨rb,3,none⟩=some (.int .i64 0):=el1 hRp 3 _ rfl
   clear hRp
   clear HM
   replace HLV:Hid (Live rm tok 1 0 s2 w9):=h_ (Live.below HLV.out hb)
   obtain⟨hz,KA,KD,KV,HBf,HB⟩:=m5 hb KA KD KV HBf HB
   go_upto_region 11 with(fail)
   refine nm fun wl hb=>?_
   replace HLV:Hid (Live rm tok 1 0 s2 wl):=h_ (Live.below HLV.out hb)
   obtain⟨hz,KA,KD,KV,HBf,HB⟩:=m5 hb KA KD KV HBf HB
   clear x3
   have a1:Aside0 (wl.heap[w4.heap.size]? =some (.cells #[.slice s2.V s2.vn s2.vc,.int .i64 (s2.room),.int .i64 (-1),.bool false,.int .i64 1,.int .i64 1,.int .i64 0,.slice s2.D s2.dn s2.dc,.slice s2.K s2.kn s2.kc,.bool false,.slice s2.H s2.hn s2.hc,.slice none 0 0,.slice s2.T s2.tn s2.tc,.int .i64 s2.nx,.int .u64 0,.int .i64 1,.slice s2.L s2.ln s2.lc,.slice s2.A s2.an s2.ac,.int .i64 (s2.snx),.int .u64 0,.slice B2 bn2 bc2] 50 (0,0))):=⟨KV.out⟩
   have a2:Aside0 (wl.heap[w.heap.size]? =some (.cells #[.string tok,.slice O on oc] 24 (0,0))):=⟨KA.out⟩
   have a3:Aside0 (Live rm tok ((1:Nat):Int) 0 s2 wl):=⟨HLV.out⟩
   have a4:Aside0 (Rs tyBf 83 wl (.slice B2 bn2 bc2) [⟨⟨#[]⟩,false⟩]):=⟨HBf.out⟩
   have a5:Aside0 (Below w.heap.size w wl):=⟨HB.out⟩
   have hvl:Aside0 (w.heap.size<w4.heap.size∧w4.heap.size<wl.heap.size):=⟨by omega⟩
   clear HLV HBf
   go_wp2
   go_loopg [10,11,12,13,14,15,16] on (fun kq v10 v11 v12 v13 v14 v15 v16 w'=>∃(i q:Nat) (s:Sv) (B:Option Addr) (bn bc:Nat),v11= .int .i64 i∧v10= .int .i64 (q:Int)∧Aside0 (kq+i=on)∧Aside0 (1≤q∧q≤i+1)∧Aside0 (w'.heap[w4.heap.size]? =some (.cells #[.slice s.V s.vn s.vc,.int .i64 (s.room),.int .i64 (-1),.bool false,.int .i64 1,.int .i64 1,.int .i64 0,.slice s.D s.dn s.dc,.slice s.K s.kn s.kc,.bool false,.slice s.H s.hn s.hc,.slice none 0 0,.slice s.T s.tn s.tc,.int .i64 s.nx,.int .u64 0,.int .i64 1,.slice s.L s.ln s.lc,.slice s.A s.an s.ac,.int .i64 (s.snx),.int .u64 0,.slice B bn bc] 50 (0,0)))∧Aside0 (w'.heap[w.heap.size]? =some (.cells #[.string tok,.slice O on oc] 24 (0,0)))∧Aside0 (Live rm tok (q:Int) i s w')∧Aside0 (Rs tyBf 83 w' (.slice B bn bc) [⟨⟨#[]⟩,false⟩])∧Aside0 (Below w.heap.size w w')∧Aside0 (w.heap.size<w4.heap.size∧w4.heap.size<w'.heap.size))
   case atStart=>exact⟨0,1,s2,B2,bn2,bc2,rfl,rfl,⟨by omega⟩,⟨by omega⟩,a1,a2,a3,a4,a5,hvl⟩
   case round=>
    obtain⟨i,q,s,B,bn,bc,rfl,rfl,HI,HQ,HV9,HA9,HL9,HBf9,HW,HVL⟩:=hrel
    clear a1 a2 a3 a4 a5 hvl KV KA HB
    have KV:=h_ HV9.out
    have KA:=h_ HA9.out
    have HLV:=h_ HL9.out
    have HBf:=h_ HBf9.out
    have HB:=h_ HW.out
    have hs9_:=HB.out.size
    have hvl1:=HVL.out.1
    have hvl2:=HVL.out.2
    clear HV9 HA9 HL9 HBf9
    clear KD
    have Alt:w.heap.size<wr.heap.size:=blk_lt KA.out
    have Ane:=Nat.ne_of_lt Alt
    have Aen:=(Nat.ne_of_lt Alt).symm
    have Vne:=Nat.ne_of_lt hvl2
    have Ven:=(Nat.ne_of_lt hvl2).symm
    have hw1:IntKind.i64.wrap ((q:Int)+1)=(q:Int)+1:=by rw[IntKind.wrap_i64];have:=HQ.out;have:=HI.out;have:=HT.out;omega
    have CA:=cells2 KA.out
    by_cases hi:i<on
    ·have c0b:decide ((i:Int)<(on:Int))=true:=decide_eq_true (by omega)
     obtain⟨ad,o,key,vl,lo,hi_,mo,rfl,y0,y1,y2,y3,y4,y5⟩:=HOP.out i hi
     have HY0:=h_ y0
     have x0:=pw_cell_below HB.out y0
     have HY1:=h_ y1
     have x1:=pw_cell_below HB.out y1
     have HY2:=h_ y2
     have x2:=pw_cell_below HB.out y2
     have HY3:=h_ y3
     have x3:=pw_cell_below HB.out y3
     have HY4:=h_ y4
     have x4:=pw_cell_below HB.out y4
     have HY5:=h_ y5
     have x5:=pw_cell_below HB.out y5
     clear y0 y1 y2 y3 y4 y5
     have hp:((0:Int)≤(i:Int))=True:=eq_true (by omega)
     have hq:((i:Int)<(on:Int))=True:=eq_true (by omega)
     have hi40:(i:Int)≤30:=by have:=HT.out;omega
     have HQB:Hid ((q:Int)<100000∧0≤(q:Int)∧i≤1000∧(q:Int)+1≤1000000∧0≤(q:Int)+1):=h_ (by have:=HQ.out;have:=HI.out;have:=HT.out;omega)
     go_upto_region 16 with(fail)
     refine nm fun v1 hb=>?_
     clear CA
     obtain⟨hz,_,hb,KQ⟩:=na1 hb
     replace HLV:Hid (Live rm tok (q:Int) i s v1):=h_ (Live.below HLV.out hb)
     obtain⟨hz,KA,KV,HBf,HB⟩:=m4 hb KA KV HBf HB
     have CQ:=cells11 KQ.out
     obtain⟨mb,hmb⟩:∃mb,decide (mayQ 5 1 1 ((q:Int)+1) ⟨#[]⟩ o key vl lo hi_ mo)=mb:=⟨_,rfl⟩
     have hmf:=ref_may 5 1 1 ((q:Int)+1) ⟨#[]⟩ o key vl lo hi_ mo 1
     rw[hmb] at hmf
     have HMF:=h_ hmf
     have HMB:=h_ hmb
     clear hmf hmb
     go_wp2_with fail
     refine(stanchionref16_MayReq.calls (1+4) 5 1 1 ((q:Int)+1) ⟨#[]⟩ o key vl lo hi_ mo mb _ HMF.out).mono ?_
     rintro e v2 ⟨rfl,hb⟩
     clear CQ
     replace HLV:Hid (Live rm tok (q:Int) i s v2):=h_ (Live.below HLV.out hb)
     obtain⟨hz,KA,KV,KQ,HBf,HB⟩:=m5 hb KA KV KQ HBf HB
     have CA:=cells2 KA.out
     clear x0 x1 x2 x3 x4 x5
     have x0:=pw_cell_below HB.out HY0.out
     by_cases hmt:mb=false
     ·subst hmt
      go_wp2
      go_roundg (gk - 1)
      case measure=>have:=HI.out;omega
      case rel=>exact⟨i+1,q,s,B,bn,bc,by go_num,rfl,⟨by have:=HI.out;omega⟩,⟨by have:=HQ.out;omega⟩,⟨KV.out⟩,⟨KA.out⟩,⟨Live.le HLV.out (Nat.le_succ _)⟩,⟨HBf.out⟩,⟨HB.out⟩,⟨⟨hvl1,blk_lt KV.out⟩⟩⟩
     obtain rfl:mb=true:=by simpa using hmt
     clear hmt
     by_cases ho:(4:Int)<o
     ·have c4:((4:Int)<o)=True:=eq_true ho
      go_wp2
      go_roundg (gk - 1)
      case measure=>have:=HI.out;omega
      case rel=>exact⟨i+1,q,s,B,bn,bc,by go_num,rfl,⟨by have:=HI.out;omega⟩,⟨by have:=HQ.out;omega⟩,⟨KV.out⟩,⟨KA.out⟩,⟨Live.le HLV.out (Nat.le_succ _)⟩,⟨HBf.out⟩,⟨HB.out⟩,⟨⟨hvl1,blk_lt KV.out⟩⟩⟩
     have c4:((4:Int)<o)=False:=eq_false ho
     have HMQ:Hid (mayQ 5 1 1 ((q:Int)+1) ⟨#[]⟩ o key vl lo hi_ mo):=h_ (of_decide_eq_true HMB.out)
     have HO4:Hid (o≤4):=h_ (by omega)
     go_upto_region 19 with(fail)
     refine nm fun v3 hb=>?_
     clear CA
     replace HLV:Hid (Live rm tok (q:Int) i s v3):=h_ (Live.below HLV.out hb)
     obtain⟨hz,KA,KV,KQ,HBf,HB⟩:=m5 hb KA KV KQ HBf HB
     clear x0 c4
     go_cut [14,15] from 82 to 159 (fun s14 s15 wx=>∃n_P s3 B3 bn3 bc3 M3 k3 r3,s14= .pointer (some ⟨n_P,0,none⟩)∧s15= .slice (some ⟨M3,0,none⟩) 1 k3∧wx.heap[w.heap.size]? =some (.cells #[.string tok,.slice (some ad) on oc] 24 (0,0))∧wx.heap[w4.heap.size]? =some (.cells #[.slice s.V s.vn s.vc,.int .i64 (s.room),.int .i64 (-1),.bool false,.int .i64 1,.int .i64 1,.int .i64 0,.slice s.D s.dn s.dc,.slice s.K s.kn s.kc,.bool false,.slice s.H s.hn s.hc,.slice none 0 0,.slice s.T s.tn s.tc,.int .i64 s.nx,.int .u64 0,.int .i64 1,.slice s.L s.ln s.lc,.slice s.A s.an s.ac,.int .i64 (s.snx),.int .u64 0,.slice B bn bc] 50 (0,0))∧wx.heap[wr.heap.size]? =some (.cells #[.int .i64 5,.int .i64 1,.int .i64 1,.int .i64 ((q:Int)+1),.string ⟨#[]⟩,.int .i64 o,.string key,.string vl,.string lo,.string hi_,.int .i64 mo] 61 (0,0))∧wx.heap[n_P]? =some (.cells #[.slice s3.V s3.vn s3.vc,.int .i64 (s3.room),.int .i64 (-1),.bool false,.int .i64 1,.int .i64 1,.int .i64 0,.slice s3.D s3.dn s3.dc,.slice s3.K s3.kn s3.kc,.bool false,.slice s3.H s3.hn s3.hc,.slice none 0 0,.slice s3.T s3.tn s3.tc,.int .i64 s3.nx,.int .u64 0,.int .i64 1,.slice s3.L s3.ln s3.lc,.slice s3.A s3.an s3.ac,.int .i64 (s3.snx),.int .u64 0,.slice B3 bn3 bc3] 50 (0,0))∧Rs tyBf 83 wx (.slice B3 bn3 bc3) ([⟨⟨#[]⟩,false⟩])∧Rs tyMl 73 wx (.slice (some ⟨M3,0,none⟩) 1 k3) ([⟨Wire.textW r3⟩])∧(OpP ((q:Int)+1) r3)∧(Live rm tok ((q:Int)+1) (i+1) s3 wx)∧v3.heap.size≤n_P∧Below w.heap.size w wx)
     case first=>
      refine rg2 KV KQ fun u5 hb hHeld=>?_
      replace HLV:Hid (Live rm tok (q:Int) i s u5):=h_ (Live.below HLV.out hb)
      obtain⟨hz,KA,KV,KQ,HBf,HB⟩:=m5 hb KA KV KQ HBf HB
      refine tl 0 0 21 (fun _ k=>k.1) Tryz.underlying50 ?_
      refine tl 1 0 11 (fun _ k=>k.2) Tryz.underlying61 ?_
      refine wpAnyH_ready (rs:= [2,7]) (by kernel_rfl) (by simp) ?_
      refine AllReadyH.cons rfl (fun K hK=>?_) ?_
      ·go_simp
       go_at_call 8
       refine(top_framed 5 1 1 ((q:Int)+1) ⟨#[]⟩ o key vl lo hi_ mo _ HMQ.out).mono ?_
       rintro e v31 ⟨rfl,hb⟩
       replace HLV:Hid (Live rm tok (q:Int) i s v31):=h_ (Live.below HLV.out hb)
       obtain⟨hz,KA,KV,KQ,HBf,HB⟩:=m5 hb KA KV KQ HBf HB
       refine bk hK ⟨KV.out,KQ.out⟩ fun hHeld=>?_
       refine wpAnyH_ready (rs:= [3,7]) (by kernel_rfl) (by simp) ?_
       refine AllReadyH.cons rfl (fun K hK=>?_) ?_
       ·go_simp
        go_at_call 7
        refine(del_op rm tok (q:Int) i o key vl lo hi_ mo s B bn bc _ (handle_at HHN.out HB.out) HLV.out HBf.out HQB.out.2.1 HQB.out.1 HQB.out.2.2.1 HMQ.out HO4.out).mono ?_
        rintro e v32 ⟨s3,B3,bn3,bc3,M3,k3,r3,rfl,hb,⟨hP,hop⟩,hM,hBf⟩
        have HLV2:=h_ hP
        have HBf2:=h_ hBf
        have HM:=h_ hM
        have HOPP:=h_ hop
        clear hP hM hBf hop
        replace HLV:Hid (Live rm tok (q:Int) i s v32):=h_ (Live.below HLV.out hb)
        obtain⟨hz,KA,KV,KQ,HBf,HB⟩:=m5 hb KA KV KQ HBf HB
        clear HLV HBf
        have HLV:=HLV2
        have HBf:=HBf2
        clear HLV2 HBf2
        refine bk hK ⟨KV.out,KQ.out⟩ fun hHeld=>?_
        refine t_ 4 ?_
        refine t_ 5 ?_
        refine t_ 6 ?_
        refine rd 7 fun K hK=>?_
        go_simp
        refine na fun u6 hb KP=>?_
        replace HLV:Hid (Live rm tok ((q:Int)+1) (i+1) s3 u6):=h_ (Live.below HLV.out hb)
        obtain⟨hz,KA,KV,KQ,HBf,HM,HB⟩:=m6 hb KA KV KQ HBf HM HB
        have Plt:=blk_lt KP.out
        refine bk hK ⟨KV.out,KQ.out⟩ fun hHeld=>?_
        refine rd 8 fun K hK=>?_
        refine sm 0 [.slice s3.V s3.vn s3.vc,.int .i64 (s3.room),.int .i64 (-1),.bool false,.int .i64 1,.int .i64 1,.int .i64 0,.slice s3.D s3.dn s3.dc,.slice s3.K s3.kn s3.kc,.bool false,.slice s3.H s3.hn s3.hc,.slice none 0 0,.slice s3.T s3.tn s3.tc,.int .i64 s3.nx,.int .u64 0,.int .i64 1,.slice s3.L s3.ln s3.lc,.slice s3.A s3.an s3.ac,.int .i64 (s3.snx),.int .u64 0,.slice B3 bn3 bc3] KP fun u7 ho kP=>?_
        replace HLV:Hid (Live rm tok ((q:Int)+1) (i+1) s3 u7):=h_ (Live.only HLV.out ho KP.out)
        obtain⟨hz,KA,KV,KQ,HBf,HM,HB⟩:=o6 ho KA KV KQ HBf HM HB
        replace KP:=kP
        clear kP
        refine bk hK ⟨KV.out,KQ.out⟩ fun hHeld=>?_
        refine t_ 9 ?_
        refine d_ ?_
        go_wp2_with fail
        go_meet
        exact⟨v32.heap.size,s3,B3,bn3,bc3,M3,k3,r3,rfl,rfl,KA.out,KV.out,KQ.out,KP.out,HBf.out,HM.out,HOPP.out,HLV.out,by omega,HB.out⟩
       refine AllReadyH.cons rfl (fun K hK=>?_) AllReadyH.nil
       go_simp
       refine na fun u8 hb KP=>?_
       replace HLV:Hid (Live rm tok (q:Int) i s u8):=h_ (Live.below HLV.out hb)
       obtain⟨hz,KA,KV,KQ,HBf,HB⟩:=m5 hb KA KV KQ HBf HB
       have Plt:=blk_lt KP.out
       refine bk hK ⟨KV.out,KQ.out⟩ fun hHeld=>?_
       refine rd 3 fun K hK=>?_
       go_simp
       go_at_call 7
       refine(del_op rm tok (q:Int) i o key vl lo hi_ mo s B bn bc _ (handle_at HHN.out HB.out) HLV.out HBf.out HQB.out.2.1 HQB.out.1 HQB.out.2.2.1 HMQ.out HO4.out).mono ?_
       rintro e v32 ⟨s3,B3,bn3,bc3,M3,k3,r3,rfl,hb,⟨hP,hop⟩,hM,hBf⟩
       have HLV2:=h_ hP
       have HBf2:=h_ hBf
       have HM:=h_ hM
       have HOPP:=h_ hop
       clear hP hM hBf hop
       replace HLV:Hid (Live rm tok (q:Int) i s v32):=h_ (Live.below HLV.out hb)
       obtain⟨hz,KA,KV,KQ,KP,HBf,HB⟩:=m6 hb KA KV KQ KP HBf HB
       clear HLV HBf
       have HLV:=HLV2
       have HBf:=HBf2
       clear HLV2 HBf2
       refine bk hK ⟨KV.out,KQ.out⟩ fun hHeld=>?_
       refine t_ 4 ?_
       refine t_ 5 ?_
       refine t_ 6 ?_
       refine rd 8 fun K hK=>?_
       refine sm 0 [.slice s3.V s3.vn s3.vc,.int .i64 (s3.room),.int .i64 (-1),.bool false,.int .i64 1,.int .i64 1,.int .i64 0,.slice s3.D s3.dn s3.dc,.slice s3.K s3.kn s3.kc,.bool false,.slice s3.H s3.hn s3.hc,.slice none 0 0,.slice s3.T s3.tn s3.tc,.int .i64 s3.nx,.int .u64 0,.int .i64 1,.slice s3.L s3.ln s3.lc,.slice s3.A s3.an s3.ac,.int .i64 (s3.snx),.int .u64 0,.slice B3 bn3 bc3] KP fun u9 ho kP=>?_
       replace HLV:Hid (Live rm tok ((q:Int)+1) (i+1) s3 u9):=h_ (Live.only HLV.out ho KP.out)
       obtain⟨hz,KA,KV,KQ,HBf,HM,HB⟩:=o6 ho KA KV KQ HBf HM HB
       replace KP:=kP
       clear kP
       refine bk hK ⟨KV.out,KQ.out⟩ fun hHeld=>?_
       refine t_ 9 ?_
       refine d_ ?_
       go_wp2_with fail
       go_meet
       exact⟨v31.heap.size,s3,B3,bn3,bc3,M3,k3,r3,rfl,rfl,KA.out,KV.out,KQ.out,KP.out,HBf.out,HM.out,HOPP.out,HLV.out,by omega,HB.out⟩
      refine AllReadyH.cons rfl (fun K hK=>?_) AllReadyH.nil
      go_simp
      refine na fun u10 hb KP=>?_
      replace HLV:Hid (Live rm tok (q:Int) i s u10):=h_ (Live.below HLV.out hb)
      obtain⟨hz,KA,KV,KQ,HBf,HB⟩:=m5 hb KA KV KQ HBf HB
      have Plt:=blk_lt KP.out
      refine bk hK ⟨KV.out,KQ.out⟩ fun hHeld=>?_
      refine rd 2 fun K hK=>?_
      go_simp
      go_at_call 8
      refine(top_framed 5 1 1 ((q:Int)+1) ⟨#[]⟩ o key vl lo hi_ mo _ HMQ.out).mono ?_
      rintro e v31 ⟨rfl,hb⟩
      replace HLV:Hid (Live rm tok (q:Int) i s v31):=h_ (Live.below HLV.out hb)
      obtain⟨hz,KA,KV,KQ,KP,HBf,HB⟩:=m6 hb KA KV KQ KP HBf HB
      refine bk hK ⟨KV.out,KQ.out⟩ fun hHeld=>?_
      refine rd 3 fun K hK=>?_
      go_simp
      go_at_call 7
      refine(del_op rm tok (q:Int) i o key vl lo hi_ mo s B bn bc _ (handle_at HHN.out HB.out) HLV.out HBf.out HQB.out.2.1 HQB.out.1 HQB.out.2.2.1 HMQ.out HO4.out).mono ?_
      rintro e v32 ⟨s3,B3,bn3,bc3,M3,k3,r3,rfl,hb,⟨hP,hop⟩,hM,hBf⟩
      have HLV2:=h_ hP
      have HBf2:=h_ hBf
      have HM:=h_ hM
      have HOPP:=h_ hop
      clear hP hM hBf hop
      replace HLV:Hid (Live rm tok (q:Int) i s v32):=h_ (Live.below HLV.out hb)
      obtain⟨hz,KA,KV,KQ,KP,HBf,HB⟩:=m6 hb KA KV KQ KP HBf HB
      clear HLV HBf
      have HLV:=HLV2
      have HBf:=HBf2
      clear HLV2 HBf2
      refine bk hK ⟨KV.out,KQ.out⟩ fun hHeld=>?_
      refine t_ 4 ?_
      refine t_ 5 ?_
      refine t_ 6 ?_
      refine rd 8 fun K hK=>?_
      refine sm 0 [.slice s3.V s3.vn s3.vc,.int .i64 (s3.room),.int .i64 (-1),.bool false,.int .i64 1,.int .i64 1,.int .i64 0,.slice s3.D s3.dn s3.dc,.slice s3.K s3.kn s3.kc,.bool false,.slice s3.H s3.hn s3.hc,.slice none 0 0,.slice s3.T s3.tn s3.tc,.int .i64 s3.nx,.int .u64 0,.int .i64 1,.slice s3.L s3.ln s3.lc,.slice s3.A s3.an s3.ac,.int .i64 (s3.snx),.int .u64 0,.slice B3 bn3 bc3] KP fun u11 ho kP=>?_
      replace HLV:Hid (Live rm tok ((q:Int)+1) (i+1) s3 u11):=h_ (Live.only HLV.out ho KP.out)
      obtain⟨hz,KA,KV,KQ,HBf,HM,HB⟩:=o6 ho KA KV KQ HBf HM HB
      replace KP:=kP
      clear kP
      refine bk hK ⟨KV.out,KQ.out⟩ fun hHeld=>?_
      refine t_ 9 ?_
      refine d_ ?_
      go_wp2_with fail
      go_meet
      exact⟨u5.heap.size,s3,B3,bn3,bc3,M3,k3,r3,rfl,rfl,KA.out,KV.out,KQ.out,KP.out,HBf.out,HM.out,HOPP.out,HLV.out,by omega,HB.out⟩
     case rest=>
      rename World=>vc1
      clear KA KV KQ HBf HB
      obtain⟨n_P,s3,B3,bn3,bc3,M3,k3,r3,rfl,rfl,kA,kV,kQ,kP,hBf,hM,p_HOPP,p_LV,Pge,hB⟩:=hcut
      obtain⟨KA,A17lt,A17ne,A17en⟩:=hid_mv kA
      clear kA
      obtain⟨KV,V17lt,V17ne,V17en⟩:=hid_mv kV
      clear kV
      obtain⟨KQ,Q17lt,Q17ne,Q17en⟩:=hid_mv kQ
      clear kQ
      obtain⟨KP,P17lt,P17ne,P17en⟩:=hid_mv kP
      clear kP
      have HBf:=h_ hBf
      clear hBf
      have HM:=h_ hM
      clear hM
      have HOPP:=h_ p_HOPP
      clear p_HOPP
      have HLV:=h_ p_LV
      clear p_LV
      have HB:=h_ hB
      have hs17_:=HB.out.size
      clear hB
      go_upto_region 20 with(fail)
      refine nm fun v5 hb=>?_
      replace HLV:Hid (Live rm tok ((q:Int)+1) (i+1) s3 v5):=h_ (Live.below HLV.out hb)
      obtain⟨hz,KA,KV,KQ,KP,HBf,HM,HB⟩:=m7 hb KA KV KQ KP HBf HM HB
      refine wp_region_lit ?_
      refine wpList_load_mid (by rfl) 50 _ (by rfl) n_P 0 (by rfl) [.slice s3.V s3.vn s3.vc,.int .i64 (s3.room),.int .i64 (-1),.bool false,.int .i64 1,.int .i64 1,.int .i64 0,.slice s3.D s3.dn s3.dc,.slice s3.K s3.kn s3.kc,.bool false,.slice s3.H s3.hn s3.hc,.slice none 0 0,.slice s3.T s3.tn s3.tc,.int .i64 s3.nx,.int .u64 0,.int .i64 1,.slice s3.L s3.ln s3.lc,.slice s3.A s3.an s3.ac,.int .i64 (s3.snx),.int .u64 0,.slice B3 bn3 bc3] _ (range_blk KP.out) Tryz.underlying50 (by rfl) (by kernel_rfl) ?_
      try simp only[Act.put,lay]
      refine wpList_store_mid rfl 50 _ _ rfl (w4.heap.size) 0 #[.slice s3.V s3.vn s3.vc,.int .i64 (s3.room),.int .i64 (-1),.bool false,.int .i64 1,.int .i64 1,.int .i64 0,.slice s3.D s3.dn s3.dc,.slice s3.K s3.kn s3.kc,.bool false,.slice s3.H s3.hn s3.hc,.slice none 0 0,.slice s3.T s3.tn s3.tc,.int .i64 s3.nx,.int .u64 0,.int .i64 1,.slice s3.L s3.ln s3.lc,.slice s3.A s3.an s3.ac,.int .i64 (s3.snx),.int .u64 0,.slice B3 bn3 bc3] rfl rfl (there_at KV.out 0 _ (Nat.le_of_ble_eq_true rfl)) (by kernel_rfl) (by first|kernel_rfl|simp[Value.oneCell']) ?_
      rw[put_cells]
      generalize hu:putAt _ _ _ _=p19
      have hb:=below_of_eq hu.symm
      clear hu
      obtain⟨ho,kV⟩:=pw 0 [.slice s3.V s3.vn s3.vc,.int .i64 (s3.room),.int .i64 (-1),.bool false,.int .i64 1,.int .i64 1,.int .i64 0,.slice s3.D s3.dn s3.dc,.slice s3.K s3.kn s3.kc,.bool false,.slice s3.H s3.hn s3.hc,.slice none 0 0,.slice s3.T s3.tn s3.tc,.int .i64 s3.nx,.int .u64 0,.int .i64 1,.slice s3.L s3.ln s3.lc,.slice s3.A s3.an s3.ac,.int .i64 (s3.snx),.int .u64 0,.slice B3 bn3 bc3] KV hb
      replace HLV:Hid (Live rm tok ((q:Int)+1) (i+1) s3 p19):=h_ (Live.only HLV.out ho KV.out)
      obtain⟨hz,KA,KQ,KP,HBf,HM,HB⟩:=o6 ho KA KQ KP HBf HM HB
      replace KV:=kV
      clear kV
      go_upto_region 21 with(fail)
      refine nm fun v6 hb=>?_
      replace HLV:Hid (Live rm tok ((q:Int)+1) (i+1) s3 v6):=h_ (Live.below HLV.out hb)
      obtain⟨hz,KA,KV,KQ,KP,HBf,HM,HB⟩:=m7 hb KA KV KQ KP HBf HM HB
      obtain⟨p3,hr3,hmp,hf2,hf7,hf3⟩:=HOPP.out
      subst hr3
      go_wp2_with fail
      refine(top_replies p3 _ k3 _ hmp HM.out).mono ?_
      rintro e v7 ⟨rb,rc,rA,rn,rcc,rfl,hRp,hb⟩
      have x2:v7.cell? ⟨rb,2,none⟩=some (.int .i64 ((q:Int)+1)):=by rw[←hf2];exact el1 hRp 2 _ rfl
      have x7:v7.cell? ⟨rb,7,none⟩=some (.bool false):=by rw[←hf7];exact el1 hRp 7 _ rfl
      have x3:v7.cell? ⟨rb,3,none⟩=some (.int .i64 p3.f3):=el1 hRp 3 _ rfl
      clear hRp hf2 hf7 hmp
      clear HM
      replace HLV:Hid (Live rm tok ((q:Int)+1) (i+1) s3 v7):=h_ (Live.below HLV.out hb)
      obtain⟨hz,KA,KV,KQ,KP,HBf,HB⟩:=m6 hb KA KV KQ KP HBf HB
      rcases hf3 with hf3|hf3|hf3
      ·rw [hf3] at x3
       clear hf3
       go_wp2
       go_roundg (gk - 1)
       case measure=>have:=HI.out;omega
       case rel=>exact⟨i+1,q+1,s3,B3,bn3,bc3,by go_num,rfl,⟨by have:=HI.out;omega⟩,⟨by have:=HQ.out;omega⟩,⟨KV.out⟩,⟨KA.out⟩,⟨Live.succ HLV.out⟩,⟨HBf.out⟩,⟨HB.out⟩,⟨⟨hvl1,blk_lt KV.out⟩⟩⟩
      ·rw [hf3] at x3
       clear hf3
       go_wp2
       go_roundg (gk - 1)
       case measure=>have:=HI.out;omega
       case rel=>exact⟨i+1,q+1,s3,B3,bn3,bc3,by go_num,rfl,⟨by have:=HI.out;omega⟩,⟨by have:=HQ.out;omega⟩,⟨KV.out⟩,⟨KA.out⟩,⟨Live.succ HLV.out⟩,⟨HBf.out⟩,⟨HB.out⟩,⟨⟨hvl1,blk_lt KV.out⟩⟩⟩
      ·rw [hf3] at x3
       clear hf3
       go_wp2
       go_roundg (gk - 1)
       case measure=>have:=HI.out;omega
       case rel=>exact⟨i+1,q+1,s3,B3,bn3,bc3,by go_num,rfl,⟨by have:=HI.out;omega⟩,⟨by have:=HQ.out;omega⟩,⟨KV.out⟩,⟨KA.out⟩,⟨Live.succ HLV.out⟩,⟨HBf.out⟩,⟨HB.out⟩,⟨⟨hvl1,blk_lt KV.out⟩⟩⟩
    have c0b:decide ((i:Int)<(on:Int))=false:=decide_eq_false (by omega)
    have HQB:Hid ((q:Int)<100000∧0≤(q:Int)∧i≤1000∧(q:Int)+1≤1000000∧0≤(q:Int)+1):=h_ (by have:=HQ.out;have:=HI.out;have:=HT.out;omega)
    go_upto_region 24 with(fail)
    refine nm fun z1 hb=>?_
    clear CA
    replace HLV:Hid (Live rm tok (q:Int) i s z1):=h_ (Live.below HLV.out hb)
    obtain⟨hz,KA,KV,HBf,HB⟩:=m4 hb KA KV HBf HB
    refine rl1 10 KV fun u5 hb=>?_
    replace HLV:Hid (Live rm tok (q:Int) i s u5):=h_ (Live.below HLV.out hb)
    obtain⟨hz,KA,KV,HBf,HB⟩:=m4 hb KA KV HBf HB
    refine ll 0 0 21 (fun _ k=>k) KV.out Tryz.underlying50 ?_
    refine l_ 1 (.inr KV.out) ?_
    refine l_ 2 (.inr KV.out) ?_
    refine l_ 3 (.inr KV.out) ?_
    refine l_ 4 (.inr KV.out) ?_
    refine ld 5 fun K hK=>?_
    go_simp
    go_at_call 8
    refine(top_framed 5 1 1 ((q:Int)+1) ⟨#[]⟩ 5 ⟨#[]⟩ ⟨#[]⟩ ⟨#[]⟩ ⟨#[]⟩ 0 _ (may_commit _ HQB.out.2.2.2.2 HQB.out.2.2.2.1)).mono ?_
    rintro e z2 ⟨rfl,hb⟩
    replace HLV:Hid (Live rm tok (q:Int) i s z2):=h_ (Live.below HLV.out hb)
    obtain⟨hz,KA,KV,HBf,HB⟩:=m4 hb KA KV HBf HB
    refine b_ hK (.inr KV.out) ?_
    refine ld 6 fun K hK=>?_
    go_simp
    go_at_call 7
    refine(del_commit rm tok (q:Int) i s B bn bc _ (handle_at HHN.out HB.out) HLV.out HBf.out HQB.out.2.1 HQB.out.1 HQB.out.2.2.1 HT.out.1 HT.out.2.1 HRM.out.1 HRM.out.2).mono ?_
    rintro e z3 ⟨s4,B4,bn4,bc4,M4,k4,r4,rfl,hb,⟨hP,rfl⟩,hM,-⟩
    obtain⟨V4,D4,K4,H4,T4,L4,A4,vn4,vc4,dn4,dc4,kn4,kc4,hn4,hc4,tn4,tc4,ln4,lc4,an4,ac4,rm4,nx4,snx4⟩:=s4
    obtain⟨h0,K9,kc9,e1,e2,e3,hK⟩:=hP
    dsimp only at h0 e1 e2 e3⊢
    subst h0 e1 e2 e3
    have HK_:=h_ hK
    have HM:=h_ hM
    clear hK hM
    replace HLV:Hid (Live rm tok (q:Int) i s z3):=h_ (Live.below HLV.out hb)
    obtain⟨hz,KA,KV,HBf,HB⟩:=m4 hb KA KV HBf HB
    clear HLV HBf
    have HK:=HK_
    clear HK_
    refine b_ hK (.inr KV.out) ?_
    refine l_ 7 (.inr KV.out) ?_
    refine l_ 8 (.inr KV.out) ?_
    refine l_ 9 (.inr KV.out) ?_
    refine ld 10 fun K hK=>?_
    refine sm 0 [.slice V4 vn4 vc4,.int .i64 (rm4),.int .i64 (-1),.bool false,.int .i64 1,.int .i64 1,.int .i64 0,.slice D4 dn4 dc4,.slice K4 1 kc4,.bool false,.slice H4 0 hc4,.slice none 0 0,.slice T4 tn4 tc4,.int .i64 nx4,.int .u64 0,.int .i64 1,.slice L4 ln4 lc4,.slice A4 an4 ac4,.int .i64 (snx4),.int .u64 0,.slice B4 bn4 bc4] KV fun u6 ho kV=>?_
    obtain⟨hz,KA,HK,HM,HB⟩:=o4 ho KA HK HM HB
    replace KV:=kV
    clear kV
    refine b_ hK (.inl (by kernel_rfl)) ?_
    refine l_ 11 (.inl (by kernel_rfl)) ?_
    refine dl ?_
    go_upto_region 25 with(fail)
    refine nm fun z5 hb=>?_
    obtain⟨hz,KA,KV,HK,HM,HB⟩:=m5 hb KA KV HK HM HB
    go_wp2_with fail
    refine(top_replies (plainP ((q:Int)+1) true) _ k4 _ (may_plain _ true HQB.out.2.2.2.2 HQB.out.2.2.2.1) HM.out).mono ?_
    rintro e z6 ⟨rb,rc,rA,rn,rcc,rfl,hRp,hb⟩
    have HRP:=h_ hRp
    clear hRp
    clear HM
    obtain⟨hz,KA,KV,HK,HB⟩:=m4 hb KA KV HK HB
    go_upto_region 26 with(fail)
    refine nm fun z7 hb=>?_
    obtain⟨hz,KA,KV,HK,HRP,HB⟩:=m5 hb KA KV HK HRP HB
    have CA:=cells2 KA.out
    have CV:=cells21 KV.out
    go_wp2_with fail
    refine(ref_decided _ K4 kc4 tok ⟨#[99]⟩ _ HK.out).mono ?_
    rintro e z8 ⟨rfl,hb⟩
    clear CA CV
    obtain⟨hz,KA,KV,HK,HRP,HB⟩:=m5 hb KA KV HK HRP HB
    go_upto_region 27 with(fail)
    refine nm fun z9 hb=>?_
    obtain⟨hz,KA,KV,HK,HRP,HB⟩:=m5 hb KA KV HK HRP HB
    have CV:=cells21 KV.out
    have x7:z9.cell? ⟨rb,7,none⟩=some (.bool true):=el1 HRP.out 7 _ rfl
    have x3:z9.cell? ⟨rb,3,none⟩=some (.int .i64 0):=el1 HRP.out 3 _ rfl
    go_wp2
    go_ret
    exact⟨rfl,HB.out⟩
end Go.Proofs.YtmgmdiekpmffbaaGreatDoor.Top
namespace Go.Proofs.YtmgmdiekpmffbaaGreatDoor.OpenOps
open Go Go.ChangeShapes Go.WideShapes Go.RowKit Go.Proofs.YtmgmdiekpmffbaaGreatDoorW.PrintWords
theorem cellsOp:Tryz.prog.cellsOf 59=6:=by kernel_rfl
theorem cellsStr:Tryz.prog.cellsOf 9=1:=by kernel_rfl
theorem cellsInt:Tryz.prog.cellsOf 3=1:=by kernel_rfl
theorem six {α:Type}{l:List α}(h:l.length=6):∃a b c d e f,l= [a,b,c,d,e,f]:=
 match l,h with
 | [a,b,c,d,e,f],_=>⟨a,b,c,d,e,f,rfl⟩
theorem open_ops {H:Type}{enc:TypeId×Value→H}{W:World}{fuel:Nat}{A0:Option Addr}{n0 c0:Nat}{x:DataW H×List MemPlace}
  (h:DataW.trod enc Tryz.prog W 0 (fun _=>true) true fuel 22 [.slice A0 n0 c0]=some x):Top.OpsAt A0 n0 W:=by
 rcases Deep.open_slice Tryz.underlying22 h with⟨hcs,rfl⟩|⟨a,len,cap,m,n,D,Pl,hcs,_,hl,hm,hmm,rfl,hx⟩
 ·simp only[List.cons.injEq,and_true,Value.slice.injEq] at hcs
  obtain⟨rfl,rfl,rfl⟩:=hcs
  intro i hi
  omega
 ·simp only[List.cons.injEq,and_true,Value.slice.injEq] at hcs
  obtain⟨rfl,rfl,rfl⟩:=hcs
  rw[if_pos rfl] at hmm
  intro i hi
  obtain⟨cs',h1,h2⟩:=hx i (by omega)
  rw[cellsOp] at h1
  obtain⟨_,hlen,hcell⟩:=World.cells?_some h1
  obtain⟨xs,k,hk,hxy,_,hxl,hf⟩:=DataW.trod_struct Tryz.underlying59 h2
  obtain⟨v0,v1,v2,v3,v4,v5,rfl⟩:=six hlen
  obtain⟨z0,z1,z2,z3,z4,z5,rfl⟩:=six hxl
  have g0:DataW.trod enc Tryz.prog W 0 (fun _=>true) true k 3 [v0]=some z0:=by
   have z:DataW.trod enc Tryz.prog W 0 (fun _=>true) true k 3 (([v0,v1,v2,v3,v4,v5].drop 0).take (Tryz.prog.cellsOf 3))= [z0,z1,z2,z3,z4,z5][0]? :=hf 0 _ rfl
   rw[cellsInt] at z
   exact z
  have g5:DataW.trod enc Tryz.prog W 0 (fun _=>true) true k 3 [v5]=some z5:=by
   have z:DataW.trod enc Tryz.prog W 0 (fun _=>true) true k 3 (([v0,v1,v2,v3,v4,v5].drop 5).take (Tryz.prog.cellsOf 3))= [z0,z1,z2,z3,z4,z5][5]? :=hf 5 _ rfl
   rw[cellsInt] at z
   exact z
  have g1:DataW.trod enc Tryz.prog W 0 (fun _=>true) true k 9 [v1]=some z1:=by
   have z:DataW.trod enc Tryz.prog W 0 (fun _=>true) true k 9 (([v0,v1,v2,v3,v4,v5].drop 1).take (Tryz.prog.cellsOf 9))= [z0,z1,z2,z3,z4,z5][1]? :=hf 1 _ rfl
   rw[cellsStr] at z
   exact z
  have g2:DataW.trod enc Tryz.prog W 0 (fun _=>true) true k 9 [v2]=some z2:=by
   have z:DataW.trod enc Tryz.prog W 0 (fun _=>true) true k 9 (([v0,v1,v2,v3,v4,v5].drop 2).take (Tryz.prog.cellsOf 9))= [z0,z1,z2,z3,z4,z5][2]? :=hf 2 _ rfl
   rw[cellsStr] at z
   exact z
  have g3:DataW.trod enc Tryz.prog W 0 (fun _=>true) true k 9 [v3]=some z3:=by
   have z:DataW.trod enc Tryz.prog W 0 (fun _=>true) true k 9 (([v0,v1,v2,v3,v4,v5].drop 3).take (Tryz.prog.cellsOf 9))= [z0,z1,z2,z3,z4,z5][3]? :=hf 3 _ rfl
   rw[cellsStr] at z
   exact z
  have g4:DataW.trod enc Tryz.prog W 0 (fun _=>true) true k 9 [v4]=some z4:=by
   have z:DataW.trod enc Tryz.prog W 0 (fun _=>true) true k 9 (([v0,v1,v2,v3,v4,v5].drop 4).take (Tryz.prog.cellsOf 9))= [z0,z1,z2,z3,z4,z5][4]? :=hf 4 _ rfl
   rw[cellsStr] at z
   exact z
  obtain⟨o,e0,_⟩:=DataW.trod_int Tryz.underlying3 g0
  obtain⟨key,e1,_⟩:=DataW.trod_string Tryz.underlying9 g1
  obtain⟨vl,e2,_⟩:=DataW.trod_string Tryz.underlying9 g2
  obtain⟨lo,e3,_⟩:=DataW.trod_string Tryz.underlying9 g3
  obtain⟨hi_,e4,_⟩:=DataW.trod_string Tryz.underlying9 g4
  obtain⟨mo,e5,_⟩:=DataW.trod_int Tryz.underlying3 g5
  simp only[List.cons.injEq,and_true] at e0 e1 e2 e3 e4 e5
  subst e0 e1 e2 e3 e4 e5
  have ad:∀j,((a.add (i*6)).add j)=a.add (i*6+j):=fun j=>Deep.add_add _ _ _
  have q:∀j (hj:j<6),W.cell? (a.add (i*6+j))= [Value.int .i64 o,.string key,.string vl,.string lo,.string hi_,.int .i64 mo][j]? :=fun j hj=>by
   have z:=hcell j hj
   rw[ad] at z
   exact z
  refine⟨a,o,key,vl,lo,hi_,mo,rfl,by simpa using q 0 (by omega),?_,?_,?_,?_,?_⟩
  ·rw [Top.add_field' a (i*6) 1 (by omega)];exact q 1 (by omega)
  ·rw [Top.add_field' a (i*6) 2 (by omega)];exact q 2 (by omega)
  ·rw [Top.add_field' a (i*6) 3 (by omega)];exact q 3 (by omega)
  ·rw [Top.add_field' a (i*6) 4 (by omega)];exact q 4 (by omega)
  ·rw [Top.add_field' a (i*6) 5 (by omega)];exact q 5 (by omega)
end Go.Proofs.YtmgmdiekpmffbaaGreatDoor.OpenOps
namespace Go.Proofs.YtmgmdiekpmffbaaGreatDoor.Laid
open Go Go.RowKit Go.ChangeShapes Go.WideShapes Go.ChangeAt
def list:List (String×DataW Unit):= [("errors.errorType",Rows.laid_errors_errorType)]
theorem own:ownKnob Tryz.prog.godebug=none:=by kernel_rfl
theorem et:Tryz.prog.globalNamed "errors.errorType" =some 0:=by kernel_rfl
theorem rt:(Tryz.prog.cutTypes.find? (·.1== "internal/reflectlite.rtype")).map (·.2)=some 320:=by kernel_rfl
theorem oneRow:((List.range 452).filter fun t=>Tryz.prog.rowNamed t [101,114,114,111,114])= [153]:=by kernel_rfl
theorem size:Tryz.prog.types.size=452:=by kernel_rfl
theorem handle_of_laid {W:World}(h:laidMetH Tryz.prog list W):Reader.Handle W:=by
 have h':laidMet Tryz.prog [] W∧handlesMet Tryz.prog list W:=h
 obtain⟨name,u,ty,e1,e2,e3,e4,e5⟩:=h'.2 _ (List.mem_singleton.2 rfl)
 have en:name= [101,114,114,111,114]:=(Option.some.inj e1).symm
 subst en
 obtain rfl:=Option.some.inj (rt.symm.trans e2)
 have hm:ty∈(List.range 452).filter fun t=>Tryz.prog.rowNamed t [101,114,114,111,114]:=List.mem_filter.2 ⟨List.mem_range.2 (by rw[←size];exact e3),e4⟩
 rw[oneRow] at hm
 obtain rfl:=List.mem_singleton.1 hm
 have hh:typeHandle Tryz.prog 153= .pointer (some ⟨1,153,none⟩):=by kernel_rfl
 rw[hh] at e5
 unfold Reader.Handle
 simpa using World.var?_cell et e5 0
noncomputable def world (os:Os):World:=
 { World.holding Tryz.prog os ⟨#[],#[],[]⟩with heap:=(World.holding Tryz.prog os ⟨#[],#[],[]⟩).heap.modify 0 fun
   | .cells _ t frozen=> .cells #[.iface 320 (.agg #[.pointer (some ⟨1,153,none⟩)])] t frozen
   |o=>o }
theorem world_met (os:Os)(args:Array Value):laidMetH Tryz.prog list ((world os).forCall (fun _ _=>0) ⟨#[],args,[]⟩).memory:=
 laidMetH_of_parts (laidMet_nil _ _) (by kernel_rfl)
end Go.Proofs.YtmgmdiekpmffbaaGreatDoor.Laid
namespace Go.Proofs.YtmgmdiekpmffbaaGreatDoor.topAlone
open Go.ChangeShapes Go.WideShapes Go.ChangeAt Go.RowKit
open Go.ChangeMaps (open_string shut_string)
set_option linter.unusedVariables false
theorem len2 {α:Type}{l:List α}(h:l.length=2):∃a0 a1,l= [a0,a1]:=
 match l,h with
 | [a0,a1],_=>⟨a0,a1,rfl⟩
theorem own:ownKnob Tryz.prog.godebug=none:=by kernel_rfl
theorem laidOut:laidOutB Tryz.prog=true:=by kernel_rfl
theorem c9:Tryz.prog.cellsOf 9=1:=by kernel_rfl
theorem c22:Tryz.prog.cellsOf 22=1:=by kernel_rfl
theorem c24:Tryz.prog.cellsOf 24=2:=by kernel_rfl
theorem contract (H:Type)(enc:TypeId×Value→H)(W:World)(base:Nat)(args:Array Value)(ds gs:List (DataW H))(before:List MemPlace)
  (hval0:∀(j:Nat) t v,Tryz.f3.params[j]? =some t→args[j]? =some v→Value.okWide Tryz.prog W .any base t v)
  (hW:DataW.Whole enc Tryz.prog Tryz.f3.params.toList Rows.topAloneSpec.vars false W args.toList ds gs before) (hL:laidMetH Tryz.prog Rows.topAloneRow.laid W):
  Calls Tryz.prog 3 args W fun e W'=>∃v,e= .returned v∧Rows.topAloneSpec.post enc Tryz.prog Tryz.f3 false true false false W args v W':=by
 have hval:∀(j:Nat) t v,Tryz.f3.params[j]? =some t→args[j]? =some v→Value.okWide Tryz.prog W .any base t v:=hval0
 have hW':=hW
 obtain⟨p,q,hA0,hV,rfl,hfz,hnd⟩:=hW
 have hA:DataW.TrodAll enc Tryz.prog W 0 (fun _=>true) true Tryz.f3.params.toList args.toList ds p:=hA0
 rw[Tryz.params3] at hA hval
 obtain⟨v0,vs0,d0,ds0,p0,q0,hargs,rfl,rfl,h0,r0⟩:=trodAll_cons hA
 obtain⟨rfl,rfl,rfl⟩:=trodAll_nil r0
 obtain rfl:args= #[v0]:=by cases args;simp_all
 obtain⟨rfl,rfl⟩:=trodVars_none hV
 have h0k:=h0
 obtain⟨cs0,rfl,hs0⟩:=okWide_struct Tryz.underlying24 (hval 0 24 v0 rfl rfl)
 obtain⟨lx0⟩:=cs0
 rw[c24] at hs0
 obtain⟨c0_0c,c0_1c,rfl⟩:=len2 hs0
 obtain⟨n0,f0⟩:=h0
 have f0x:DataW.trod enc Tryz.prog W 0 (fun _=>true) true n0 24 [c0_0c,c0_1c]=some (d0,p0):=f0
 obtain⟨xs0,n0,_,ex0,_,hl0,hg0⟩:=DataW.trod_struct Tryz.underlying24 f0x
 obtain⟨y0_0,y0_1,rfl⟩:=len2 hl0
 have eb0:=OpenRow.agg_bulk ex0
 simp only[Rows.uptoBulkAll,List.map_cons,List.map_nil] at eb0
 have g0_0:DataW.trod enc Tryz.prog W 0 (fun _=>true) true n0 9 [c0_0c]=some y0_0:=by
  have z:DataW.trod enc Tryz.prog W 0 (fun _=>true) true n0 9 (([c0_0c,c0_1c].drop 0).take (Tryz.prog.cellsOf 9))= [y0_0,y0_1][0]? :=hg0 0 _ rfl
  rw[c9] at z
  exact z
 have g0_1:DataW.trod enc Tryz.prog W 0 (fun _=>true) true n0 22 [c0_1c]=some y0_1:=by
  have z:DataW.trod enc Tryz.prog W 0 (fun _=>true) true n0 22 (([c0_0c,c0_1c].drop 1).take (Tryz.prog.cellsOf 22))= [y0_0,y0_1][1]? :=hg0 1 _ rfl
  rw[c22] at z
  exact z
 obtain⟨a0_0,e0_0,q0_0,w0_0⟩:=DataW.trod_string Tryz.underlying9 g0_0
 simp only[List.cons.injEq,and_true] at e0_0
 subst e0_0
 have b0_0:=OpenRow.str_bulk q0_0
 obtain⟨A0_1,n0_1q,c0_1,es0_1⟩:=OpenRow.slice_value1 Tryz.underlying22 g0_1
 subst es0_1
 have hops0_1:=OpenOps.open_ops g0_1
 clear hA0 hval0
 have hlt0:∀x∈p0,x.block<W.heap.size:=by
  obtain⟨m0,hm0⟩:=h0k
  exact DataW.trod_lt m0 _ _ _ hm0
 refine(Top.top_alone a0_0 A0_1 n0_1q c0_1 W (Laid.handle_of_laid hL) hops0_1).mono fun e W' ⟨he,bel⟩=>?_
 subst he
 exact⟨_,rfl,_,_,_,[],_,[],hW',trodAll_mk1 (shut_bool Tryz.underlying4 _),(trodAll_cons_mk (Below.trod laidOut (by kernel_rfl) (of_decide_eq_true (by kernel_rfl)) h0k bel hlt0) trodAll_mk0),rfl,bel.frame _,fun h=>by cases h⟩
theorem reads (os:Os){H:Type}(enc:TypeId×Value→H):∃places,DataW.whole enc Tryz.prog ((Laid.world os).forCall (fun _ _=>0) ⟨#[],#[.agg #[.string ByteArray.empty,.slice none 0 0]],[]⟩).memory Tryz.f3.params.toList Rows.topAloneSpec.vars false (#[.agg #[.string ByteArray.empty,.slice none 0 0]]:Array Value).toList 8=some ([.agg [.lit (.string []),.nil]],[],places):=
 ⟨[],by kernel_rfl⟩
theorem lifted (os:Os)(started:os.Started)(H:Type)(enc:TypeId×Value→H)(F:Stop.Interp):
  ReturnsInHanded {} Tryz.checked os 3 .any ((OpenSpec.ofChange Rows.topAloneSpec).preRow enc Tryz.prog Tryz.f3 Rows.topAloneRow.domain false Rows.topAloneRow.laid) (((OpenSpec.ofChange Rows.topAloneSpec).at F).post enc Tryz.prog Tryz.f3 false true false false):=by
 obtain⟨places,hx⟩:=reads os enc
 refine returnsInHanded_of_row (C:=Tryz.checked) (s:=OpenSpec.ofChange Rows.topAloneSpec) own started (by kernel_rfl) Tryz.func3
  (witness_row_at (enc:=enc) (C:=Tryz.checked) false (Laid.world os) #[.agg #[.string ByteArray.empty,.slice none 0 0]] rfl (by kernel_rfl) (by kernel_rfl) (by kernel_rfl)
   (OpenSpec.preRow_of_cond 8 hx (by kernel_rfl) (fun k hk=>by cases hk) (by kernel_rfl) (Laid.world_met os _))) ?_
 intro W base args ds gs before hval hW _ _ _ hL _ _
 exact contract H enc W base args ds gs before hval hW hL
theorem band {a b:Bool}(h1:a=true)(h2:b=true):(a&&b)=true:=by rw[h1,h2];rfl
theorem closed1:(laidOutB Tryz.prog)=true:=by kernel_rfl
theorem closed2:(mapsRowed Tryz.prog)=true:=by kernel_rfl
theorem closed6:((Tryz.prog.stops== []))=true:=by kernel_rfl
theorem closed8:((Tryz.prog.stopKnobs== []))=true:=by kernel_rfl
theorem closed9:((Rows.topAloneRow.inPlace==Tryz.prog.inPlace 3))=true:=by kernel_rfl
theorem closed10:((Rows.topAloneRow.unfollowed==Tryz.prog.unfollowed 3))=true:=by kernel_rfl
theorem closed11:((Rows.topAloneRow.recurses==Tryz.prog.recurses 3))=true:=by kernel_rfl
theorem closed12:((Rows.topAloneRow.named==Tryz.prog.varsNamed 3))=true:=by kernel_rfl
theorem closed16:((Rows.topAloneRow.loops==(Tryz.f3.params.toList++Rows.topAloneSpec.plain.varTypes Tryz.prog).any (Tryz.prog.loopsFrom ·)))=true:=by kernel_rfl
theorem closed22:((Rows.topAloneRow.plainKeys==Tryz.prog.plainKeys))=true:=by kernel_rfl
theorem closed24:(Tryz.prog.stopsHeard)=true:=by kernel_rfl
theorem closed25:(Tryz.prog.mayEnter)=true:=by kernel_rfl
theorem closed26:((Rows.topAloneRow.lifted==Tryz.prog.liftsFinal))=true:=by kernel_rfl
theorem closed27:((Tryz.prog.make==some Rows.topAloneRow.make))=true:=by kernel_rfl
theorem closed:joinedFacts Tryz.prog 3 Tryz.f3 Rows.topAloneSpec Rows.topAloneRow=true:=by
 unfold joinedFacts
 refine(band (band (band (band (band (band (band (band (band (band (band (band (band (band (band (band (band (band (band (band (band (band (band (band (band (band (band (band (band (band (band ?_ ?_) ?_) ?_) ?_) ?_) ?_) ?_) ?_) ?_) ?_) ?_) ?_) ?_) ?_) ?_) ?_) ?_) ?_) ?_) ?_) ?_) ?_) ?_) ?_) ?_) ?_) ?_) ?_) ?_) ?_) ?_)
 ·kernel_rfl
 ·exact closed1
 ·exact closed2
 ·kernel_rfl
 ·kernel_rfl
 ·kernel_rfl
 ·exact closed6
 ·kernel_rfl
 ·exact closed8
 ·exact closed9
 ·exact closed10
 ·exact closed11
 ·exact closed12
 ·kernel_rfl
 ·kernel_rfl
 ·kernel_rfl
 ·exact closed16
 ·kernel_rfl
 ·kernel_rfl
 ·kernel_rfl
 ·kernel_rfl
 ·kernel_rfl
 ·exact closed22
 ·kernel_rfl
 ·exact closed24
 ·exact closed25
 ·exact closed26
 ·exact closed27
 ·kernel_rfl
 ·kernel_rfl
 ·kernel_rfl
 ·kernel_rfl
theorem said:Rows.TopAloneSaid:=
 OpenClaim.holds_of_cond 3 Tryz.f3 rfl rfl rfl rfl rfl rfl rfl ⟨rfl,rfl,rfl,rfl,rfl⟩ rfl rfl rfl rfl rfl (by kernel_rfl) Tryz.func3 closed
  (of_decide_eq_true (by kernel_rfl)) (by unfold Func.isWrapper;first|(rw[if_pos (by decide+kernel)];kernel_rfl)|(rw[if_neg (by decide+kernel)];exact⟨rfl,rfl⟩))
  (fun os started H enc _ F=>by rw[OpenClaim.pre_eq_preRow];exact lifted os started H enc F)
theorem plain (f:FuncId)(fn:Func)(hf:Tryz.pinned.checked.prog.funcNamed "stanchion/stanchiontop.TopAlone" =some f)(hfn:Tryz.pinned.checked.prog.funcs[f]? =some fn):
  true=Tryz.pinned.checked.prog.looks []∧∀(j:Nat) t,fn.params[j]? =some t→Tryz.pinned.checked.prog.wantsStandIn t=false:=by
 obtain rfl:f=3:=Option.some.inj ((show Tryz.prog.funcNamed "stanchion/stanchiontop.TopAlone" =some 3 by kernel_rfl).symm.trans hf) |>.symm
 obtain rfl:fn=Tryz.f3:=(Option.some.inj (Tryz.func3.symm.trans hfn)).symm
 refine⟨by kernel_rfl,fun j t ht=>?_⟩
 rw[Tryz.params3] at ht
 have hm:=Array.mem_of_getElem? ht
 simp only[List.mem_toArray,List.mem_cons,List.not_mem_nil,or_false] at hm
 rcases hm with rfl
 ·exact(show Tryz.prog.wantsStandIn 24=false by kernel_rfl)
theorem proved:Rows.TopAloneCardSaid:=
 Claim7.holds_tied_plain_at .later [] _ _ _ _ said (fun _ h=>by cases h) (by kernel_rfl) (fun _ h=>by cases h) topAlone_row_tie rfl ⟨rfl,rfl⟩ (by kernel_rfl) rfl plain (by kernel_rfl)
#print axioms proved
end Go.Proofs.YtmgmdiekpmffbaaGreatDoor.topAlone
namespace Go.Proofs.YtmgmdiekpmffbaaGreatDoor
theorem topAlone_card:Rows.TopAloneCardSaid:=topAlone.proved
end Go.Proofs.YtmgmdiekpmffbaaGreatDoor
