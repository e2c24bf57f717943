/- Part of the proof of the statement TopAlone, as a card; what is proved, and on which condition, stands at the head of YtmgmdiekpmffbaaGreatDoorPT20 (texts TopSt3) -/
import Derived.Test.YtmgmdiekpmffbaaGreatDoorPT9
import Derived.Test.YtmgmdiekpmffbaaGreatDoorPT10
set_option maxHeartbeats 64000000
set_option maxRecDepth 100000
set_option linter.unusedVariables false
set_option linter.unusedSimpArgs false
namespace Go.Proofs.YtmgmdiekpmffbaaGreatDoor.Top
open Go Go.RowKit Go.Proofs.YtmgmdiekpmffbaaGreatDoor.DecM Go.Proofs.YtmgmdiekpmffbaaGreatDoor.SumM Go.Proofs.YtmgmdiekpmffbaaGreatDoorW.PrintWords
def NextR (r:Int)(w:World)(en:Ending)(w':World):Prop:=∃A n c,en= .returned (.tuple #[.agg #[.slice A n c,.int .i64 r,.int .i64 (-1),.bool false],.int .i64 1,.int .i64 0])∧Rs tyFl 129 w' (.slice A n c) [eFile]∧Below w.heap.size w w'
theorem epoch_next_r (room r:Int)(w:World)(hr:Hid (r=room - epS.size))(h0:100≤room)(h1:room≤1000000):Calls Tryz.prog 12 #[.agg #[.slice none 0 0,.int .i64 room,.int .i64 (-1),.bool false]] w (NextR r w):=by
 have h:=hr.out
 subst h
 exact(epoch_next room w h0 h1).mono (fun e w' h=>by obtain⟨A,n,c,h1,h2,h3⟩:=h;exact⟨A,n,c,h1,h2,h3⟩)
def StartV (r:Int)(w:World)(en:Ending)(w':World):Prop:=∃A n c B m k,en= .returned (.tuple #[.agg #[.slice A n c,.int .i64 (r),.int .i64 (-1),.bool false,.int .i64 1,.int .i64 1,.int .i64 0,.slice none 0 0,.slice none 0 0,.bool false,.slice none 0 0,.slice none 0 0,.slice none 0 0,.int .i64 1,.int .u64 0,.int .i64 1,.slice none 0 0,.slice none 0 0,.int .i64 1,.int .u64 0,.slice B m k],.int .i64 0])∧Rs tyFl 129 w' (.slice A n c) [eFile]∧Rs tyBf 83 w' (.slice B m k) [⟨⟨#[]⟩,false⟩]∧Below w.heap.size w w'
theorem server_start (room r:Int)(w:World)(hr:Hid (r=room - epS.size))(h0:100≤room)(h1:room≤1000000):Calls Tryz.prog 6 #[.agg #[.slice none 0 0,.int .i64 room,.int .i64 (-1),.bool false],.int .i64 1,.int .u64 0] w (StartV r w):=by
 have hmk:∀u:World,(Instr.makeSlice 48 (.int .i64 1) (.int .i64 1)).run Tryz.prog u= .ok (.slice (some ⟨u.heap.size,0,none⟩) 1 1) (u.alloc (.cells #[.string ⟨#[]⟩,.bool false] 83)):=fun u=>by kernel_rfl
 have HB:Hid (Below w.heap.size w w):=h_ (Below.refl _ _)
 go_enter Tryz.func6,Tryz.ntmps6
 go_wp2_with fail
 refine(epoch_next_r room r _ hr h0 h1).mono ?_
 rintro e w1 ⟨A1,n1,c1,rfl,hR1,hb⟩
 have HR1:=h_ hR1
 clear hR1
 obtain⟨hz,_,hb,KD,KQ⟩:=na2 hb
 obtain⟨hz,HB⟩:=m1 hb HB
 obtain⟨D0,Df0,D1,Df1,D2,Df2,D3,Df3⟩:=cells4 KD.out
 go_wp2_with fail
 refine(engine_new _ _ _ (r) _ (Rs.puts HR1.out KD.out (by decide) 0 [.slice A1 n1 c1,.int .i64 (r),.int .i64 (-1),.bool false])).mono ?_
 rintro e w2 ⟨rfl,hb⟩
 clear D0 Df0 D1 Df1 D2 Df2 D3 Df3
 obtain⟨ho,kD⟩:=pw 0 [.slice A1 n1 c1,.int .i64 (r),.int .i64 (-1),.bool false] KD hb
 obtain⟨hz,KQ,HR1,HB⟩:=o3 ho KQ HR1 HB
 replace KD:=kD
 clear kD
 go_wp2_with fail
 refine nm fun w3 hb=>?_
 obtain⟨hz,_,hb,KE⟩:=na1 hb
 obtain⟨hz,KD,KQ,HR1,HB⟩:=m4 hb KD KQ HR1 HB
 obtain⟨E0,Ef0,E1,Ef1,E2,Ef2,E3,Ef3,E4,Ef4,E5,Ef5,E6,Ef6,E7,Ef7,E8,Ef8,E9,Ef9,E10,Ef10,E11,Ef11,E12,Ef12,E13,Ef13,E14,Ef14⟩:=cells15 KE.out
 have q1:w3.heap.size≠w2.heap.size:=by omega
 have q2:w2.heap.size≠w3.heap.size:=by omega
 have q3:w3.heap.size+1≠w2.heap.size:=by omega
 have q4:w2.heap.size≠w3.heap.size+1:=by omega
 go_upto_region 9 with(fail)
 go_cut [11] from 12 (fun s11 wx=>∃va ba,s11= .pointer (some ⟨va,0,none⟩)∧wx.heap[va]? =some (.cells #[.slice A1 n1 c1,.int .i64 (r),.int .i64 (-1),.bool false,.int .i64 1,.int .i64 1,.int .i64 0,.slice none 0 0,.slice none 0 0,.bool false,.slice none 0 0,.slice none 0 0,.slice none 0 0,.int .i64 1,.int .u64 0,.int .i64 1,.slice none 0 0,.slice none 0 0,.int .i64 1,.int .u64 0,.slice (some ⟨ba,0,none⟩) 1 1] 50 (0,0))∧wx.heap[ba]? =some (.cells #[.string ⟨#[]⟩,.bool false] 83 (0,0))∧va≠ba∧w3.heap.size≤va∧w3.heap.size≤ba∧Below w3.heap.size w3 wx)
 case first=>
  refine wp_region_held_drew (S:=fun u=>u.heap[w2.heap.size]? =some (.cells #[.slice A1 n1 c1,.int .i64 (r),.int .i64 (-1),.bool false,.int .i64 1,.int .i64 1,.int .i64 0,.slice none 0 0,.slice none 0 0,.bool false,.slice none 0 0,.slice none 0 0,.slice none 0 0,.int .i64 1,.int .u64 0] 43 (0,0))) (by kernel_rfl) (blk_drew KE.out) (fun hHeld=>?_)
  clear E0 Ef0 E1 Ef1 E2 Ef2 E3 Ef3 E4 Ef4 E5 Ef5 E6 Ef6 E7 Ef7 E8 Ef8 E9 Ef9 E10 Ef10 E11 Ef11 E12 Ef12 E13 Ef13 E14 Ef14
  refine wpAnyH_take (i:=0) rfl (by kernel_rfl) (by kernel_rfl) (by kernel_rfl) (fun _ _ _ h=>h) (yieldsIf_load_mid (by rfl) 43 _ (by rfl) w2.heap.size 0 (by rfl) [.slice A1 n1 c1,.int .i64 (r),.int .i64 (-1),.bool false,.int .i64 1,.int .i64 1,.int .i64 0,.slice none 0 0,.slice none 0 0,.bool false,.slice none 0 0,.slice none 0 0,.slice none 0 0,.int .i64 1,.int .u64 0] _ (fun w h=>range_blk h) Tryz.underlying43 (by rfl) (by kernel_rfl)) hHeld ?_
  try simp only[Act.put,List.getElem_toArray,List.getElem_cons_zero,List.getElem_cons_succ,List.setIfInBounds_toArray,List.set_cons_zero,List.set_cons_succ]
  refine wpAnyH_take (i:=1) (v:= ?_) rfl (by kernel_rfl) (by kernel_rfl) (by kernel_rfl) (fun _ _ _ h=>h) (Or.inl ⟨by rfl,?_⟩) hHeld ?_
  case refine_2=>(intro w hw;clear hw;go_simp;try with_reducible rfl)
  try simp only[Act.put,List.getElem_toArray,List.getElem_cons_zero,List.getElem_cons_succ,List.setIfInBounds_toArray,List.set_cons_zero,List.set_cons_succ]
  refine wpAnyH_take (i:=3) (v:= ?_) rfl (by kernel_rfl) (by kernel_rfl) (by kernel_rfl) (fun _ _ _ h=>h) (Or.inl ⟨by rfl,?_⟩) hHeld ?_
  case refine_2=>(intro w hw;clear hw;go_simp;try with_reducible rfl)
  try simp only[Act.put,List.getElem_toArray,List.getElem_cons_zero,List.getElem_cons_succ,List.setIfInBounds_toArray,List.set_cons_zero,List.set_cons_succ]
  obtain⟨u0,hu0⟩:∃u,u=w3.drew:=⟨_,rfl⟩
  rw[←hu0] at hHeld⊢
  have hL0:Below w3.heap.size w3 u0:=hu0▸drew_below _
  have hz0:=hL0.size
  clear hu0
  have hE:=blk_lt KE.out
  refine wpAnyH_ready (rs:= [2,4,6]) (by kernel_rfl) (by simp) ?_
  refine AllReadyH.cons rfl (fun K hK=>?_) ?_
  ·go_simp
   go_at_call 14
   refine(session_new _).mono ?_
   rintro e u1 ⟨rfl,hb⟩
   have hz1:=hb.size
   have hL1:=below_call hL0 hb
   refine hK.out _ _ (bb hHeld hb) (fun hHeld2=>?_)
   clear hK K hHeld hb
   have hHeld:=hHeld2
   clear hHeld2
   try simp only[Act.put,List.getElem_toArray,List.getElem_cons_zero,List.getElem_cons_succ,List.setIfInBounds_toArray,List.set_cons_zero,List.set_cons_succ]
   refine wpAnyH_ready (rs:= [4,6]) (by kernel_rfl) (by simp) ?_
   refine AllReadyH.cons rfl (fun K hK=>?_) ?_
   ·go_simp
    obtain⟨u2,hu⟩:∃u,u=u1.alloc (.cells #[.string ⟨#[]⟩,.bool false] 83):=⟨_,rfl⟩
    rw[←hu]
    have hb:Below u1.heap.size u1 u2:=hu▸one _ _
    have hB:Hid (u2.heap[u1.heap.size]? =some (.cells #[.string ⟨#[]⟩,.bool false] 83 (0,0))):=h_ (hu▸blk_new _ _)
    have hlB:u1.heap.size<u2.heap.size:=blk_lt hB.out
    clear hu
    have hz2:=hb.size
    have hL2:=below_call hL1 hb
    refine hK.out _ _ (bb hHeld hb) (fun hHeld2=>?_)
    clear hK K hHeld hb
    have hHeld:=hHeld2
    clear hHeld2
    try simp only[Act.put,List.getElem_toArray,List.getElem_cons_zero,List.getElem_cons_succ,List.setIfInBounds_toArray,List.set_cons_zero,List.set_cons_succ]
    refine wpAnyH_take (i:=5) (v:= ?_) rfl (by kernel_rfl) (by kernel_rfl) (by kernel_rfl) (fun _ _ _ h=>h) (Or.inl ⟨by rfl,?_⟩) hHeld ?_
    case refine_2=>(intro w hw;clear hw;go_simp;try with_reducible rfl)
    try simp only[Act.put,List.getElem_toArray,List.getElem_cons_zero,List.getElem_cons_succ,List.setIfInBounds_toArray,List.set_cons_zero,List.set_cons_succ]
    refine wpAnyH_ready (rs:= [6]) (by kernel_rfl) (by simp) ?_
    refine AllReadyH.cons rfl (fun K hK=>?_) ?_
    ·go_simp
     obtain⟨u3,hu⟩:∃u,u=u2.alloc (.cells #[.slice none 0 0,.int .i64 0,.int .i64 0,.bool false,.int .i64 0,.int .i64 0,.int .i64 0,.slice none 0 0,.slice none 0 0,.bool false,.slice none 0 0,.slice none 0 0,.slice none 0 0,.int .i64 0,.int .u64 0,.int .i64 0,.slice none 0 0,.slice none 0 0,.int .i64 0,.int .u64 0,.slice none 0 0] 50):=⟨_,rfl⟩
     rw[←hu]
     have hb:Below u2.heap.size u2 u3:=hu▸one _ _
     have hV:Hid (u3.heap[u2.heap.size]? =some (.cells #[.slice none 0 0,.int .i64 0,.int .i64 0,.bool false,.int .i64 0,.int .i64 0,.int .i64 0,.slice none 0 0,.slice none 0 0,.bool false,.slice none 0 0,.slice none 0 0,.slice none 0 0,.int .i64 0,.int .u64 0,.int .i64 0,.slice none 0 0,.slice none 0 0,.int .i64 0,.int .u64 0,.slice none 0 0] 50 (0,0))):=h_ (hu▸blk_new _ _)
     have hlV:u2.heap.size<u3.heap.size:=blk_lt hV.out
     clear hu
     replace hB:=h_ (bb hB.out hb)
     have hz3:=hb.size
     have hL3:=below_call hL2 hb
     refine hK.out _ _ (bb hHeld hb) (fun hHeld2=>?_)
     clear hK K hHeld hb
     have hHeld:=hHeld2
     clear hHeld2
     try simp only[Act.put,List.getElem_toArray,List.getElem_cons_zero,List.getElem_cons_succ,List.setIfInBounds_toArray,List.set_cons_zero,List.set_cons_succ]
     refine wpAnyH_ready (rs:= [7]) (by kernel_rfl) (by simp) ?_
     refine AllReadyH.cons rfl (fun K hK=>?_) ?_
     case refine_2=>exact AllReadyH.nil
     rw[if_pos (by rfl)]
     refine wp_store_mid 50 _ _ rfl u2.heap.size 0 #[.slice A1 n1 c1,.int .i64 (r),.int .i64 (-1),.bool false,.int .i64 1,.int .i64 1,.int .i64 0,.slice none 0 0,.slice none 0 0,.bool false,.slice none 0 0,.slice none 0 0,.slice none 0 0,.int .i64 1,.int .u64 0,.int .i64 1,.slice none 0 0,.slice none 0 0,.int .i64 1,.int .u64 0,.slice (some ⟨u1.heap.size,0,none⟩) 1 1] rfl rfl (there_blk hV.out _ (Nat.le_refl _)) (by kernel_rfl) (by first|kernel_rfl|simp[Value.oneCell']) ?_
     rw[put_cells]
     try simp only[Act.put,List.getElem_toArray,List.getElem_cons_zero,List.getElem_cons_succ,List.setIfInBounds_toArray,List.set_cons_zero,List.set_cons_succ]
     refine hK.out _ _ (blk_puts_far hHeld (u2.heap.size) (by omega) 0 _) (fun hHeld2=>?_)
     clear hK K hHeld2
     refine wpAnyH_done (by kernel_rfl) ?_ _
     go_wp2_with fail
     go_meet
     exact⟨u2.heap.size,u1.heap.size,rfl,blk_put hV.out 0 [.slice A1 n1 c1,.int .i64 (r),.int .i64 (-1),.bool false,.int .i64 1,.int .i64 1,.int .i64 0,.slice none 0 0,.slice none 0 0,.bool false,.slice none 0 0,.slice none 0 0,.slice none 0 0,.int .i64 1,.int .u64 0,.int .i64 1,.slice none 0 0,.slice none 0 0,.int .i64 1,.int .u64 0,.slice (some ⟨u1.heap.size,0,none⟩) 1 1] (Nat.le_of_ble_eq_true rfl),blk_puts_far hB.out (u2.heap.size) (by omega) 0 _,by omega,by omega,by omega,below_puts hL3 (u2.heap.size) (by omega) 0 _⟩
    exact AllReadyH.nil
   refine AllReadyH.cons rfl (fun K hK=>?_) ?_
   ·go_simp
    obtain⟨u2,hu⟩:∃u,u=u1.alloc (.cells #[.slice none 0 0,.int .i64 0,.int .i64 0,.bool false,.int .i64 0,.int .i64 0,.int .i64 0,.slice none 0 0,.slice none 0 0,.bool false,.slice none 0 0,.slice none 0 0,.slice none 0 0,.int .i64 0,.int .u64 0,.int .i64 0,.slice none 0 0,.slice none 0 0,.int .i64 0,.int .u64 0,.slice none 0 0] 50):=⟨_,rfl⟩
    rw[←hu]
    have hb:Below u1.heap.size u1 u2:=hu▸one _ _
    have hV:Hid (u2.heap[u1.heap.size]? =some (.cells #[.slice none 0 0,.int .i64 0,.int .i64 0,.bool false,.int .i64 0,.int .i64 0,.int .i64 0,.slice none 0 0,.slice none 0 0,.bool false,.slice none 0 0,.slice none 0 0,.slice none 0 0,.int .i64 0,.int .u64 0,.int .i64 0,.slice none 0 0,.slice none 0 0,.int .i64 0,.int .u64 0,.slice none 0 0] 50 (0,0))):=h_ (hu▸blk_new _ _)
    have hlV:u1.heap.size<u2.heap.size:=blk_lt hV.out
    clear hu
    have hz2:=hb.size
    have hL2:=below_call hL1 hb
    refine hK.out _ _ (bb hHeld hb) (fun hHeld2=>?_)
    clear hK K hHeld hb
    have hHeld:=hHeld2
    clear hHeld2
    try simp only[Act.put,List.getElem_toArray,List.getElem_cons_zero,List.getElem_cons_succ,List.setIfInBounds_toArray,List.set_cons_zero,List.set_cons_succ]
    refine wpAnyH_ready (rs:= [4]) (by kernel_rfl) (by simp) ?_
    refine AllReadyH.cons rfl (fun K hK=>?_) ?_
    ·go_simp
     obtain⟨u3,hu⟩:∃u,u=u2.alloc (.cells #[.string ⟨#[]⟩,.bool false] 83):=⟨_,rfl⟩
     rw[←hu]
     have hb:Below u2.heap.size u2 u3:=hu▸one _ _
     have hB:Hid (u3.heap[u2.heap.size]? =some (.cells #[.string ⟨#[]⟩,.bool false] 83 (0,0))):=h_ (hu▸blk_new _ _)
     have hlB:u2.heap.size<u3.heap.size:=blk_lt hB.out
     clear hu
     replace hV:=h_ (bb hV.out hb)
     have hz3:=hb.size
     have hL3:=below_call hL2 hb
     refine hK.out _ _ (bb hHeld hb) (fun hHeld2=>?_)
     clear hK K hHeld hb
     have hHeld:=hHeld2
     clear hHeld2
     try simp only[Act.put,List.getElem_toArray,List.getElem_cons_zero,List.getElem_cons_succ,List.setIfInBounds_toArray,List.set_cons_zero,List.set_cons_succ]
     refine wpAnyH_take (i:=5) (v:= ?_) rfl (by kernel_rfl) (by kernel_rfl) (by kernel_rfl) (fun _ _ _ h=>h) (Or.inl ⟨by rfl,?_⟩) hHeld ?_
     case refine_2=>(intro w hw;clear hw;go_simp;try with_reducible rfl)
     try simp only[Act.put,List.getElem_toArray,List.getElem_cons_zero,List.getElem_cons_succ,List.setIfInBounds_toArray,List.set_cons_zero,List.set_cons_succ]
     refine wpAnyH_ready (rs:= [7]) (by kernel_rfl) (by simp) ?_
     refine AllReadyH.cons rfl (fun K hK=>?_) ?_
     case refine_2=>exact AllReadyH.nil
     rw[if_pos (by rfl)]
     refine wp_store_mid 50 _ _ rfl u1.heap.size 0 #[.slice A1 n1 c1,.int .i64 (r),.int .i64 (-1),.bool false,.int .i64 1,.int .i64 1,.int .i64 0,.slice none 0 0,.slice none 0 0,.bool false,.slice none 0 0,.slice none 0 0,.slice none 0 0,.int .i64 1,.int .u64 0,.int .i64 1,.slice none 0 0,.slice none 0 0,.int .i64 1,.int .u64 0,.slice (some ⟨u2.heap.size,0,none⟩) 1 1] rfl rfl (there_blk hV.out _ (Nat.le_refl _)) (by kernel_rfl) (by first|kernel_rfl|simp[Value.oneCell']) ?_
     rw[put_cells]
     try simp only[Act.put,List.getElem_toArray,List.getElem_cons_zero,List.getElem_cons_succ,List.setIfInBounds_toArray,List.set_cons_zero,List.set_cons_succ]
     refine hK.out _ _ (blk_puts_far hHeld (u1.heap.size) (by omega) 0 _) (fun hHeld2=>?_)
     clear hK K hHeld2
     refine wpAnyH_done (by kernel_rfl) ?_ _
     go_wp2_with fail
     go_meet
     exact⟨u1.heap.size,u2.heap.size,rfl,blk_put hV.out 0 [.slice A1 n1 c1,.int .i64 (r),.int .i64 (-1),.bool false,.int .i64 1,.int .i64 1,.int .i64 0,.slice none 0 0,.slice none 0 0,.bool false,.slice none 0 0,.slice none 0 0,.slice none 0 0,.int .i64 1,.int .u64 0,.int .i64 1,.slice none 0 0,.slice none 0 0,.int .i64 1,.int .u64 0,.slice (some ⟨u2.heap.size,0,none⟩) 1 1] (Nat.le_of_ble_eq_true rfl),blk_puts_far hB.out (u1.heap.size) (by omega) 0 _,by omega,by omega,by omega,below_puts hL3 (u1.heap.size) (by omega) 0 _⟩
    exact AllReadyH.nil
   exact AllReadyH.nil
  refine AllReadyH.cons rfl (fun K hK=>?_) ?_
  ·go_simp
   obtain⟨u1,hu⟩:∃u,u=u0.alloc (.cells #[.string ⟨#[]⟩,.bool false] 83):=⟨_,rfl⟩
   rw[←hu]
   have hb:Below u0.heap.size u0 u1:=hu▸one _ _
   have hB:Hid (u1.heap[u0.heap.size]? =some (.cells #[.string ⟨#[]⟩,.bool false] 83 (0,0))):=h_ (hu▸blk_new _ _)
   have hlB:u0.heap.size<u1.heap.size:=blk_lt hB.out
   clear hu
   have hz1:=hb.size
   have hL1:=below_call hL0 hb
   refine hK.out _ _ (bb hHeld hb) (fun hHeld2=>?_)
   clear hK K hHeld hb
   have hHeld:=hHeld2
   clear hHeld2
   try simp only[Act.put,List.getElem_toArray,List.getElem_cons_zero,List.getElem_cons_succ,List.setIfInBounds_toArray,List.set_cons_zero,List.set_cons_succ]
   refine wpAnyH_ready (rs:= [2,6]) (by kernel_rfl) (by simp) ?_
   refine AllReadyH.cons rfl (fun K hK=>?_) ?_
   ·go_simp
    go_at_call 14
    refine(session_new _).mono ?_
    rintro e u2 ⟨rfl,hb⟩
    replace hB:=h_ (bb hB.out hb)
    have hz2:=hb.size
    have hL2:=below_call hL1 hb
    refine hK.out _ _ (bb hHeld hb) (fun hHeld2=>?_)
    clear hK K hHeld hb
    have hHeld:=hHeld2
    clear hHeld2
    try simp only[Act.put,List.getElem_toArray,List.getElem_cons_zero,List.getElem_cons_succ,List.setIfInBounds_toArray,List.set_cons_zero,List.set_cons_succ]
    refine wpAnyH_take (i:=5) (v:= ?_) rfl (by kernel_rfl) (by kernel_rfl) (by kernel_rfl) (fun _ _ _ h=>h) (Or.inl ⟨by rfl,?_⟩) hHeld ?_
    case refine_2=>(intro w hw;clear hw;go_simp;try with_reducible rfl)
    try simp only[Act.put,List.getElem_toArray,List.getElem_cons_zero,List.getElem_cons_succ,List.setIfInBounds_toArray,List.set_cons_zero,List.set_cons_succ]
    refine wpAnyH_ready (rs:= [6]) (by kernel_rfl) (by simp) ?_
    refine AllReadyH.cons rfl (fun K hK=>?_) ?_
    ·go_simp
     obtain⟨u3,hu⟩:∃u,u=u2.alloc (.cells #[.slice none 0 0,.int .i64 0,.int .i64 0,.bool false,.int .i64 0,.int .i64 0,.int .i64 0,.slice none 0 0,.slice none 0 0,.bool false,.slice none 0 0,.slice none 0 0,.slice none 0 0,.int .i64 0,.int .u64 0,.int .i64 0,.slice none 0 0,.slice none 0 0,.int .i64 0,.int .u64 0,.slice none 0 0] 50):=⟨_,rfl⟩
     rw[←hu]
     have hb:Below u2.heap.size u2 u3:=hu▸one _ _
     have hV:Hid (u3.heap[u2.heap.size]? =some (.cells #[.slice none 0 0,.int .i64 0,.int .i64 0,.bool false,.int .i64 0,.int .i64 0,.int .i64 0,.slice none 0 0,.slice none 0 0,.bool false,.slice none 0 0,.slice none 0 0,.slice none 0 0,.int .i64 0,.int .u64 0,.int .i64 0,.slice none 0 0,.slice none 0 0,.int .i64 0,.int .u64 0,.slice none 0 0] 50 (0,0))):=h_ (hu▸blk_new _ _)
     have hlV:u2.heap.size<u3.heap.size:=blk_lt hV.out
     clear hu
     replace hB:=h_ (bb hB.out hb)
     have hz3:=hb.size
     have hL3:=below_call hL2 hb
     refine hK.out _ _ (bb hHeld hb) (fun hHeld2=>?_)
     clear hK K hHeld hb
     have hHeld:=hHeld2
     clear hHeld2
     try simp only[Act.put,List.getElem_toArray,List.getElem_cons_zero,List.getElem_cons_succ,List.setIfInBounds_toArray,List.set_cons_zero,List.set_cons_succ]
     refine wpAnyH_ready (rs:= [7]) (by kernel_rfl) (by simp) ?_
     refine AllReadyH.cons rfl (fun K hK=>?_) ?_
     case refine_2=>exact AllReadyH.nil
     rw[if_pos (by rfl)]
     refine wp_store_mid 50 _ _ rfl u2.heap.size 0 #[.slice A1 n1 c1,.int .i64 (r),.int .i64 (-1),.bool false,.int .i64 1,.int .i64 1,.int .i64 0,.slice none 0 0,.slice none 0 0,.bool false,.slice none 0 0,.slice none 0 0,.slice none 0 0,.int .i64 1,.int .u64 0,.int .i64 1,.slice none 0 0,.slice none 0 0,.int .i64 1,.int .u64 0,.slice (some ⟨u0.heap.size,0,none⟩) 1 1] rfl rfl (there_blk hV.out _ (Nat.le_refl _)) (by kernel_rfl) (by first|kernel_rfl|simp[Value.oneCell']) ?_
     rw[put_cells]
     try simp only[Act.put,List.getElem_toArray,List.getElem_cons_zero,List.getElem_cons_succ,List.setIfInBounds_toArray,List.set_cons_zero,List.set_cons_succ]
     refine hK.out _ _ (blk_puts_far hHeld (u2.heap.size) (by omega) 0 _) (fun hHeld2=>?_)
     clear hK K hHeld2
     refine wpAnyH_done (by kernel_rfl) ?_ _
     go_wp2_with fail
     go_meet
     exact⟨u2.heap.size,u0.heap.size,rfl,blk_put hV.out 0 [.slice A1 n1 c1,.int .i64 (r),.int .i64 (-1),.bool false,.int .i64 1,.int .i64 1,.int .i64 0,.slice none 0 0,.slice none 0 0,.bool false,.slice none 0 0,.slice none 0 0,.slice none 0 0,.int .i64 1,.int .u64 0,.int .i64 1,.slice none 0 0,.slice none 0 0,.int .i64 1,.int .u64 0,.slice (some ⟨u0.heap.size,0,none⟩) 1 1] (Nat.le_of_ble_eq_true rfl),blk_puts_far hB.out (u2.heap.size) (by omega) 0 _,by omega,by omega,by omega,below_puts hL3 (u2.heap.size) (by omega) 0 _⟩
    exact AllReadyH.nil
   refine AllReadyH.cons rfl (fun K hK=>?_) ?_
   ·go_simp
    obtain⟨u2,hu⟩:∃u,u=u1.alloc (.cells #[.slice none 0 0,.int .i64 0,.int .i64 0,.bool false,.int .i64 0,.int .i64 0,.int .i64 0,.slice none 0 0,.slice none 0 0,.bool false,.slice none 0 0,.slice none 0 0,.slice none 0 0,.int .i64 0,.int .u64 0,.int .i64 0,.slice none 0 0,.slice none 0 0,.int .i64 0,.int .u64 0,.slice none 0 0] 50):=⟨_,rfl⟩
    rw[←hu]
    have hb:Below u1.heap.size u1 u2:=hu▸one _ _
    have hV:Hid (u2.heap[u1.heap.size]? =some (.cells #[.slice none 0 0,.int .i64 0,.int .i64 0,.bool false,.int .i64 0,.int .i64 0,.int .i64 0,.slice none 0 0,.slice none 0 0,.bool false,.slice none 0 0,.slice none 0 0,.slice none 0 0,.int .i64 0,.int .u64 0,.int .i64 0,.slice none 0 0,.slice none 0 0,.int .i64 0,.int .u64 0,.slice none 0 0] 50 (0,0))):=h_ (hu▸blk_new _ _)
    have hlV:u1.heap.size<u2.heap.size:=blk_lt hV.out
    clear hu
    replace hB:=h_ (bb hB.out hb)
    have hz2:=hb.size
    have hL2:=below_call hL1 hb
    refine hK.out _ _ (bb hHeld hb) (fun hHeld2=>?_)
    clear hK K hHeld hb
    have hHeld:=hHeld2
    clear hHeld2
    try simp only[Act.put,List.getElem_toArray,List.getElem_cons_zero,List.getElem_cons_succ,List.setIfInBounds_toArray,List.set_cons_zero,List.set_cons_succ]
    refine wpAnyH_ready (rs:= [2]) (by kernel_rfl) (by simp) ?_
    refine AllReadyH.cons rfl (fun K hK=>?_) ?_
    ·go_simp
     go_at_call 14
     refine(session_new _).mono ?_
     rintro e u3 ⟨rfl,hb⟩
     replace hB:=h_ (bb hB.out hb)
     replace hV:=h_ (bb hV.out hb)
     have hz3:=hb.size
     have hL3:=below_call hL2 hb
     refine hK.out _ _ (bb hHeld hb) (fun hHeld2=>?_)
     clear hK K hHeld hb
     have hHeld:=hHeld2
     clear hHeld2
     try simp only[Act.put,List.getElem_toArray,List.getElem_cons_zero,List.getElem_cons_succ,List.setIfInBounds_toArray,List.set_cons_zero,List.set_cons_succ]
     refine wpAnyH_take (i:=5) (v:= ?_) rfl (by kernel_rfl) (by kernel_rfl) (by kernel_rfl) (fun _ _ _ h=>h) (Or.inl ⟨by rfl,?_⟩) hHeld ?_
     case refine_2=>(intro w hw;clear hw;go_simp;try with_reducible rfl)
     try simp only[Act.put,List.getElem_toArray,List.getElem_cons_zero,List.getElem_cons_succ,List.setIfInBounds_toArray,List.set_cons_zero,List.set_cons_succ]
     refine wpAnyH_ready (rs:= [7]) (by kernel_rfl) (by simp) ?_
     refine AllReadyH.cons rfl (fun K hK=>?_) ?_
     case refine_2=>exact AllReadyH.nil
     rw[if_pos (by rfl)]
     refine wp_store_mid 50 _ _ rfl u1.heap.size 0 #[.slice A1 n1 c1,.int .i64 (r),.int .i64 (-1),.bool false,.int .i64 1,.int .i64 1,.int .i64 0,.slice none 0 0,.slice none 0 0,.bool false,.slice none 0 0,.slice none 0 0,.slice none 0 0,.int .i64 1,.int .u64 0,.int .i64 1,.slice none 0 0,.slice none 0 0,.int .i64 1,.int .u64 0,.slice (some ⟨u0.heap.size,0,none⟩) 1 1] rfl rfl (there_blk hV.out _ (Nat.le_refl _)) (by kernel_rfl) (by first|kernel_rfl|simp[Value.oneCell']) ?_
     rw[put_cells]
     try simp only[Act.put,List.getElem_toArray,List.getElem_cons_zero,List.getElem_cons_succ,List.setIfInBounds_toArray,List.set_cons_zero,List.set_cons_succ]
     refine hK.out _ _ (blk_puts_far hHeld (u1.heap.size) (by omega) 0 _) (fun hHeld2=>?_)
     clear hK K hHeld2
     refine wpAnyH_done (by kernel_rfl) ?_ _
     go_wp2_with fail
     go_meet
     exact⟨u1.heap.size,u0.heap.size,rfl,blk_put hV.out 0 [.slice A1 n1 c1,.int .i64 (r),.int .i64 (-1),.bool false,.int .i64 1,.int .i64 1,.int .i64 0,.slice none 0 0,.slice none 0 0,.bool false,.slice none 0 0,.slice none 0 0,.slice none 0 0,.int .i64 1,.int .u64 0,.int .i64 1,.slice none 0 0,.slice none 0 0,.int .i64 1,.int .u64 0,.slice (some ⟨u0.heap.size,0,none⟩) 1 1] (Nat.le_of_ble_eq_true rfl),blk_puts_far hB.out (u1.heap.size) (by omega) 0 _,by omega,by omega,by omega,below_puts hL3 (u1.heap.size) (by omega) 0 _⟩
    exact AllReadyH.nil
   exact AllReadyH.nil
  refine AllReadyH.cons rfl (fun K hK=>?_) ?_
  ·go_simp
   obtain⟨u1,hu⟩:∃u,u=u0.alloc (.cells #[.slice none 0 0,.int .i64 0,.int .i64 0,.bool false,.int .i64 0,.int .i64 0,.int .i64 0,.slice none 0 0,.slice none 0 0,.bool false,.slice none 0 0,.slice none 0 0,.slice none 0 0,.int .i64 0,.int .u64 0,.int .i64 0,.slice none 0 0,.slice none 0 0,.int .i64 0,.int .u64 0,.slice none 0 0] 50):=⟨_,rfl⟩
   rw[←hu]
   have hb:Below u0.heap.size u0 u1:=hu▸one _ _
   have hV:Hid (u1.heap[u0.heap.size]? =some (.cells #[.slice none 0 0,.int .i64 0,.int .i64 0,.bool false,.int .i64 0,.int .i64 0,.int .i64 0,.slice none 0 0,.slice none 0 0,.bool false,.slice none 0 0,.slice none 0 0,.slice none 0 0,.int .i64 0,.int .u64 0,.int .i64 0,.slice none 0 0,.slice none 0 0,.int .i64 0,.int .u64 0,.slice none 0 0] 50 (0,0))):=h_ (hu▸blk_new _ _)
   have hlV:u0.heap.size<u1.heap.size:=blk_lt hV.out
   clear hu
   have hz1:=hb.size
   have hL1:=below_call hL0 hb
   refine hK.out _ _ (bb hHeld hb) (fun hHeld2=>?_)
   clear hK K hHeld hb
   have hHeld:=hHeld2
   clear hHeld2
   try simp only[Act.put,List.getElem_toArray,List.getElem_cons_zero,List.getElem_cons_succ,List.setIfInBounds_toArray,List.set_cons_zero,List.set_cons_succ]
   refine wpAnyH_ready (rs:= [2,4]) (by kernel_rfl) (by simp) ?_
   refine AllReadyH.cons rfl (fun K hK=>?_) ?_
   ·go_simp
    go_at_call 14
    refine(session_new _).mono ?_
    rintro e u2 ⟨rfl,hb⟩
    replace hV:=h_ (bb hV.out hb)
    have hz2:=hb.size
    have hL2:=below_call hL1 hb
    refine hK.out _ _ (bb hHeld hb) (fun hHeld2=>?_)
    clear hK K hHeld hb
    have hHeld:=hHeld2
    clear hHeld2
    try simp only[Act.put,List.getElem_toArray,List.getElem_cons_zero,List.getElem_cons_succ,List.setIfInBounds_toArray,List.set_cons_zero,List.set_cons_succ]
    refine wpAnyH_ready (rs:= [4]) (by kernel_rfl) (by simp) ?_
    refine AllReadyH.cons rfl (fun K hK=>?_) ?_
    ·go_simp
     obtain⟨u3,hu⟩:∃u,u=u2.alloc (.cells #[.string ⟨#[]⟩,.bool false] 83):=⟨_,rfl⟩
     rw[←hu]
     have hb:Below u2.heap.size u2 u3:=hu▸one _ _
     have hB:Hid (u3.heap[u2.heap.size]? =some (.cells #[.string ⟨#[]⟩,.bool false] 83 (0,0))):=h_ (hu▸blk_new _ _)
     have hlB:u2.heap.size<u3.heap.size:=blk_lt hB.out
     clear hu
     replace hV:=h_ (bb hV.out hb)
     have hz3:=hb.size
     have hL3:=below_call hL2 hb
     refine hK.out _ _ (bb hHeld hb) (fun hHeld2=>?_)
     clear hK K hHeld hb
     have hHeld:=hHeld2
     clear hHeld2
     try simp only[Act.put,List.getElem_toArray,List.getElem_cons_zero,List.getElem_cons_succ,List.setIfInBounds_toArray,List.set_cons_zero,List.set_cons_succ]
     refine wpAnyH_take (i:=5) (v:= ?_) rfl (by kernel_rfl) (by kernel_rfl) (by kernel_rfl) (fun _ _ _ h=>h) (Or.inl ⟨by rfl,?_⟩) hHeld ?_
     case refine_2=>(intro w hw;clear hw;go_simp;try with_reducible rfl)
     try simp only[Act.put,List.getElem_toArray,List.getElem_cons_zero,List.getElem_cons_succ,List.setIfInBounds_toArray,List.set_cons_zero,List.set_cons_succ]
     refine wpAnyH_ready (rs:= [7]) (by kernel_rfl) (by simp) ?_
     refine AllReadyH.cons rfl (fun K hK=>?_) ?_
     case refine_2=>exact AllReadyH.nil
     rw[if_pos (by rfl)]
     refine wp_store_mid 50 _ _ rfl u0.heap.size 0 #[.slice A1 n1 c1,.int .i64 (r),.int .i64 (-1),.bool false,.int .i64 1,.int .i64 1,.int .i64 0,.slice none 0 0,.slice none 0 0,.bool false,.slice none 0 0,.slice none 0 0,.slice none 0 0,.int .i64 1,.int .u64 0,.int .i64 1,.slice none 0 0,.slice none 0 0,.int .i64 1,.int .u64 0,.slice (some ⟨u2.heap.size,0,none⟩) 1 1] rfl rfl (there_blk hV.out _ (Nat.le_refl _)) (by kernel_rfl) (by first|kernel_rfl|simp[Value.oneCell']) ?_
     rw[put_cells]
     try simp only[Act.put,List.getElem_toArray,List.getElem_cons_zero,List.getElem_cons_succ,List.setIfInBounds_toArray,List.set_cons_zero,List.set_cons_succ]
     refine hK.out _ _ (blk_puts_far hHeld (u0.heap.size) (by omega) 0 _) (fun hHeld2=>?_)
     clear hK K hHeld2
     refine wpAnyH_done (by kernel_rfl) ?_ _
     go_wp2_with fail
     go_meet
     exact⟨u0.heap.size,u2.heap.size,rfl,blk_put hV.out 0 [.slice A1 n1 c1,.int .i64 (r),.int .i64 (-1),.bool false,.int .i64 1,.int .i64 1,.int .i64 0,.slice none 0 0,.slice none 0 0,.bool false,.slice none 0 0,.slice none 0 0,.slice none 0 0,.int .i64 1,.int .u64 0,.int .i64 1,.slice none 0 0,.slice none 0 0,.int .i64 1,.int .u64 0,.slice (some ⟨u2.heap.size,0,none⟩) 1 1] (Nat.le_of_ble_eq_true rfl),blk_puts_far hB.out (u0.heap.size) (by omega) 0 _,by omega,by omega,by omega,below_puts hL3 (u0.heap.size) (by omega) 0 _⟩
    exact AllReadyH.nil
   refine AllReadyH.cons rfl (fun K hK=>?_) ?_
   ·go_simp
    obtain⟨u2,hu⟩:∃u,u=u1.alloc (.cells #[.string ⟨#[]⟩,.bool false] 83):=⟨_,rfl⟩
    rw[←hu]
    have hb:Below u1.heap.size u1 u2:=hu▸one _ _
    have hB:Hid (u2.heap[u1.heap.size]? =some (.cells #[.string ⟨#[]⟩,.bool false] 83 (0,0))):=h_ (hu▸blk_new _ _)
    have hlB:u1.heap.size<u2.heap.size:=blk_lt hB.out
    clear hu
    replace hV:=h_ (bb hV.out hb)
    have hz2:=hb.size
    have hL2:=below_call hL1 hb
    refine hK.out _ _ (bb hHeld hb) (fun hHeld2=>?_)
    clear hK K hHeld hb
    have hHeld:=hHeld2
    clear hHeld2
    try simp only[Act.put,List.getElem_toArray,List.getElem_cons_zero,List.getElem_cons_succ,List.setIfInBounds_toArray,List.set_cons_zero,List.set_cons_succ]
    refine wpAnyH_ready (rs:= [2]) (by kernel_rfl) (by simp) ?_
    refine AllReadyH.cons rfl (fun K hK=>?_) ?_
    ·go_simp
     go_at_call 14
     refine(session_new _).mono ?_
     rintro e u3 ⟨rfl,hb⟩
     replace hV:=h_ (bb hV.out hb)
     replace hB:=h_ (bb hB.out hb)
     have hz3:=hb.size
     have hL3:=below_call hL2 hb
     refine hK.out _ _ (bb hHeld hb) (fun hHeld2=>?_)
     clear hK K hHeld hb
     have hHeld:=hHeld2
     clear hHeld2
     try simp only[Act.put,List.getElem_toArray,List.getElem_cons_zero,List.getElem_cons_succ,List.setIfInBounds_toArray,List.set_cons_zero,List.set_cons_succ]
     refine wpAnyH_take (i:=5) (v:= ?_) rfl (by kernel_rfl) (by kernel_rfl) (by kernel_rfl) (fun _ _ _ h=>h) (Or.inl ⟨by rfl,?_⟩) hHeld ?_
     case refine_2=>(intro w hw;clear hw;go_simp;try with_reducible rfl)
     try simp only[Act.put,List.getElem_toArray,List.getElem_cons_zero,List.getElem_cons_succ,List.setIfInBounds_toArray,List.set_cons_zero,List.set_cons_succ]
     refine wpAnyH_ready (rs:= [7]) (by kernel_rfl) (by simp) ?_
     refine AllReadyH.cons rfl (fun K hK=>?_) ?_
     case refine_2=>exact AllReadyH.nil
     rw[if_pos (by rfl)]
     refine wp_store_mid 50 _ _ rfl u0.heap.size 0 #[.slice A1 n1 c1,.int .i64 (r),.int .i64 (-1),.bool false,.int .i64 1,.int .i64 1,.int .i64 0,.slice none 0 0,.slice none 0 0,.bool false,.slice none 0 0,.slice none 0 0,.slice none 0 0,.int .i64 1,.int .u64 0,.int .i64 1,.slice none 0 0,.slice none 0 0,.int .i64 1,.int .u64 0,.slice (some ⟨u1.heap.size,0,none⟩) 1 1] rfl rfl (there_blk hV.out _ (Nat.le_refl _)) (by kernel_rfl) (by first|kernel_rfl|simp[Value.oneCell']) ?_
     rw[put_cells]
     try simp only[Act.put,List.getElem_toArray,List.getElem_cons_zero,List.getElem_cons_succ,List.setIfInBounds_toArray,List.set_cons_zero,List.set_cons_succ]
     refine hK.out _ _ (blk_puts_far hHeld (u0.heap.size) (by omega) 0 _) (fun hHeld2=>?_)
     clear hK K hHeld2
     refine wpAnyH_done (by kernel_rfl) ?_ _
     go_wp2_with fail
     go_meet
     exact⟨u0.heap.size,u1.heap.size,rfl,blk_put hV.out 0 [.slice A1 n1 c1,.int .i64 (r),.int .i64 (-1),.bool false,.int .i64 1,.int .i64 1,.int .i64 0,.slice none 0 0,.slice none 0 0,.bool false,.slice none 0 0,.slice none 0 0,.slice none 0 0,.int .i64 1,.int .u64 0,.int .i64 1,.slice none 0 0,.slice none 0 0,.int .i64 1,.int .u64 0,.slice (some ⟨u1.heap.size,0,none⟩) 1 1] (Nat.le_of_ble_eq_true rfl),blk_puts_far hB.out (u0.heap.size) (by omega) 0 _,by omega,by omega,by omega,below_puts hL3 (u0.heap.size) (by omega) 0 _⟩
    exact AllReadyH.nil
   exact AllReadyH.nil
  exact AllReadyH.nil
 case rest=>
  obtain⟨va,ba,rfl,hV,hB0,hvb,hva,hba,hb⟩:=hcut
  have hB1:=hB0
  clear hB0
  have hvb2:=hvb.symm
  clear E0 Ef0 E1 Ef1 E2 Ef2 E3 Ef3 E4 Ef4 E5 Ef5 E6 Ef6 E7 Ef7 E8 Ef8 E9 Ef9 E10 Ef10 E11 Ef11 E12 Ef12 E13 Ef13 E14 Ef14
  obtain⟨hz,KD,KQ,KE,HR1,HB⟩:=m5 hb KD KQ KE HR1 HB
  have KV:=h_ hV
  clear hV
  have KB:=h_ hB1
  clear hB1
  obtain⟨V0,Vf0,V1,Vf1,V2,Vf2,V3,Vf3,V4,Vf4,V5,Vf5,V6,Vf6,V7,Vf7,V8,Vf8,V9,Vf9,V10,Vf10,V11,Vf11,V12,Vf12,V13,Vf13,V14,Vf14,V15,Vf15,V16,Vf16,V17,Vf17,V18,Vf18,V19,Vf19,V20,Vf20⟩:=cells21 KV.out
  go_upto_region 11 with(fail)
  refine nm fun w5 hb=>?_
  clear V0 Vf0 V1 Vf1 V2 Vf2 V3 Vf3 V4 Vf4 V5 Vf5 V6 Vf6 V7 Vf7 V8 Vf8 V9 Vf9 V10 Vf10 V11 Vf11 V12 Vf12 V13 Vf13 V14 Vf14 V15 Vf15 V16 Vf16 V17 Vf17 V18 Vf18 V19 Vf19 V20 Vf20
  have kD:=hid_mv (bb (blk_far' (blk_far' KD.out _ _ (by omega) _) _ _ (by omega) _) hb)
  have kQ:=hid_mv (bb (blk_far' (blk_far' KQ.out _ _ (by omega) _) _ _ (by omega) _) hb)
  have kE:=hid_mv (bb (blk_far' (blk_far' KE.out _ _ (by omega) _) _ _ (by omega) _) hb)
  have kV:=hid_mv (show w5.heap[va]? =some (.cells #[.slice A1 n1 c1,.int .i64 (r),.int .i64 (-1),.bool false,.int .i64 1,.int .i64 1,.int .i64 0,.slice none 0 0,.slice none 0 0,.bool false,.slice none 0 0,.slice none 0 0,.slice none 0 0,.int .i64 1,.int .u64 0,.int .i64 1,.slice none 0 0,.slice none 0 0,.int .i64 1,.int .u64 0,.slice (some ⟨ba,0,none⟩) 1 1] 50 (0,0))from bb (blk_set (blk_set KV.out 14 _) 19 _) hb)
  have kB:=hid_mv (bb (blk_far' (blk_far' KB.out _ _ (by omega) _) _ _ (by omega) _) hb)
  have hR1:Rs tyFl 129 w5 (.slice A1 n1 c1) ([eFile]):=Rs.below (Rs.set (Rs.set HR1.out KV.out (by decide) _ _) (blk_set KV.out 14 _) (by decide) _ _) hb
  have hz:=(hb).size
  clear KD KQ KE KV KB HR1
  obtain⟨KD,D4lt,D4ne,D4en⟩:=kD
  obtain⟨KQ,Q4lt,Q4ne,Q4en⟩:=kQ
  obtain⟨KE,E4lt,E4ne,E4en⟩:=kE
  obtain⟨KV,V4lt,V4ne,V4en⟩:=kV
  obtain⟨KB,B4lt,B4ne,B4en⟩:=kB
  have HR1:=h_ hR1
  clear hR1
  replace HB:=h_ (below_call (below_set (below_set HB.out _ _ (by omega) _) _ _ (by omega) _) hb)
  have hs4_:=HB.out.size
  clear hb
  refine wp_region_lit ?_
  refine wpList_load_mid (by rfl) 50 _ (by rfl) va 0 (by rfl) [.slice A1 n1 c1,.int .i64 (r),.int .i64 (-1),.bool false,.int .i64 1,.int .i64 1,.int .i64 0,.slice none 0 0,.slice none 0 0,.bool false,.slice none 0 0,.slice none 0 0,.slice none 0 0,.int .i64 1,.int .u64 0,.int .i64 1,.slice none 0 0,.slice none 0 0,.int .i64 1,.int .u64 0,.slice (some ⟨ba,0,none⟩) 1 1] _ (range_blk KV.out) Tryz.underlying50 (by rfl) (by kernel_rfl) ?_
  refine wpList_store_mid (by rfl) 50 _ _ (by rfl) (w.heap.size+1) 0 #[.slice A1 n1 c1,.int .i64 (r),.int .i64 (-1),.bool false,.int .i64 1,.int .i64 1,.int .i64 0,.slice none 0 0,.slice none 0 0,.bool false,.slice none 0 0,.slice none 0 0,.slice none 0 0,.int .i64 1,.int .u64 0,.int .i64 1,.slice none 0 0,.slice none 0 0,.int .i64 1,.int .u64 0,.slice (some ⟨ba,0,none⟩) 1 1] (by rfl) (by rfl) (there_blk KQ.out _ (Nat.le_refl _)) (by kernel_rfl) (by first|kernel_rfl|simp[Value.oneCell']) ?_
  rw[put_cells]
  go_wp2
  refine bodyPost_ret (res_cell_tmp (cs:=#[.slice A1 n1 c1,.int .i64 (r),.int .i64 (-1),.bool false,.int .i64 1,.int .i64 1,.int .i64 0,.slice none 0 0,.slice none 0 0,.bool false,.slice none 0 0,.slice none 0 0,.slice none 0 0,.int .i64 1,.int .u64 0,.int .i64 1,.slice none 0 0,.slice none 0 0,.int .i64 1,.int .u64 0,.slice (some ⟨ba,0,none⟩) 1 1]) Tryz.results6 rfl (blk_put KQ.out 0 [.slice A1 n1 c1,.int .i64 (r),.int .i64 (-1),.bool false,.int .i64 1,.int .i64 1,.int .i64 0,.slice none 0 0,.slice none 0 0,.bool false,.slice none 0 0,.slice none 0 0,.slice none 0 0,.int .i64 1,.int .u64 0,.int .i64 1,.slice none 0 0,.slice none 0 0,.int .i64 1,.int .u64 0,.slice (some ⟨ba,0,none⟩) 1 1] (Nat.le_of_ble_eq_true rfl)) Tryz.underlying50 rfl (by kernel_rfl)) rfl ⟨_,_,_,_,_,_,rfl,?_,?_,?_⟩
  ·exact(Rs.puts HR1.out KQ.out (by decide) 0 [.slice A1 n1 c1,.int .i64 (r),.int .i64 (-1),.bool false,.int .i64 1,.int .i64 1,.int .i64 0,.slice none 0 0,.slice none 0 0,.bool false,.slice none 0 0,.slice none 0 0,.slice none 0 0,.int .i64 1,.int .u64 0,.int .i64 1,.slice none 0 0,.slice none 0 0,.int .i64 1,.int .u64 0,.slice (some ⟨ba,0,none⟩) 1 1])
  ·exact .inr ⟨ba,1,_,(0,0),rfl,Nat.le_refl _,(blk_puts_far KB.out (w.heap.size+1) (by omega) 0 [.slice A1 n1 c1,.int .i64 (r),.int .i64 (-1),.bool false,.int .i64 1,.int .i64 1,.int .i64 0,.slice none 0 0,.slice none 0 0,.bool false,.slice none 0 0,.slice none 0 0,.slice none 0 0,.int .i64 1,.int .u64 0,.int .i64 1,.slice none 0 0,.slice none 0 0,.int .i64 1,.int .u64 0,.slice (some ⟨ba,0,none⟩) 1 1]),fun j u hu=>by rw[Ty.all_single] at hu;simpa [tyBf] using hu⟩
  ·exact(below_puts HB.out (w.heap.size+1) (by omega) 0 [.slice A1 n1 c1,.int .i64 (r),.int .i64 (-1),.bool false,.int .i64 1,.int .i64 1,.int .i64 0,.slice none 0 0,.slice none 0 0,.bool false,.slice none 0 0,.slice none 0 0,.slice none 0 0,.int .i64 1,.int .u64 0,.int .i64 1,.slice none 0 0,.slice none 0 0,.int .i64 1,.int .u64 0,.slice (some ⟨ba,0,none⟩) 1 1])
end Go.Proofs.YtmgmdiekpmffbaaGreatDoor.Top
