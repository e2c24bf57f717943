-- Written by the session's program gen.sh, which calls the kit's printer with imports of the session's choice.
import Derived.Test.YtcepfdilbbbemaaQFrx0
import Derived.Test.YtcepfdilbbbemaaQFrx2
namespace Go.Proofs.Ytcepfdilbbbemaa.QFr
open Go.RowKit Go.Proofs.YtcepfdilbbbemaaW.PrintWords Go.Proofs.YtcepfdilbbbemaaW.PrintLast Go.Proofs.YtcepfdilbbbemaaW.PrintMore
attribute [local go_sem] max2_int min2_int max_two min_two max_three min_three max_four min_four   -- for this text's walks alone
set_option linter.unusedVariables false
set_option linter.unusedSimpArgs false

/-! ### stanchionlaw14_FrameSmall: function 4 -/
def stanchionlaw14_FrameSmall.l0 : Nat → List ByteArray → Bool → Int → ByteArray → Bool → Option (Bool)
  | 0, _, _, _, _, _ => none
  | k + 1, x0, x3, x5, x219000, x219001 => if x5 < (x0.length : Int) then (if 0 ≤ x5 then ((frame_Feed.f x219000 x219001 (rdOf ByteArray.empty x0 x5)).bind fun bt220 => (if (bt220.1.size : Int) > 2053 then (some false) else (stanchionlaw14_FrameSmall.l0 k x0 x3 (wrap64 (x5 + 1)) bt220.1 bt220.2.1))) else (none)) else (some x3)
def stanchionlaw14_FrameSmall.f (k : Nat) (l0 : List ByteArray) : Option (Bool) := (stanchionlaw14_shown.f).bind fun t217 => (stanchionlaw14_FrameSmall.l0 k l0 t217 0 (⟨#[]⟩ : ByteArray) false)
theorem stanchionlaw14_FrameSmall.mono_l : ∀ k, (∀ y0 y1 y2 y3 y4, LeO (stanchionlaw14_FrameSmall.l0 k y0 y1 y2 y3 y4) (stanchionlaw14_FrameSmall.l0 (k + 1) y0 y1 y2 y3 y4))
  | 0 => fun _ _ _ _ _ r h => by simp [stanchionlaw14_FrameSmall.l0] at h
  | k + 1 => by
    have ih0 := stanchionlaw14_FrameSmall.mono_l k
    · intro y0 y1 y2 y3 y4
      unfold stanchionlaw14_FrameSmall.l0
      repeat' first
      | (with_reducible exact ih0 _ _ _ _ _)
      | (with_reducible exact LeO.refl _)
      | (with_reducible exact LeO.none _)
      | (with_reducible refine LeO.ite ?_ ?_)
      | (with_reducible refine LeO.bind ?_ (fun _ => ?_))
      | exact ih0 _ _ _ _ _
      | exact LeO.none _
      | refine LeO.ite ?_ ?_
      | refine LeO.bind ?_ (fun _ => ?_)
theorem stanchionlaw14_FrameSmall.mono : ∀ a0 k, LeO (stanchionlaw14_FrameSmall.f k a0) (stanchionlaw14_FrameSmall.f (k + 1) a0) := by
  intro a0 k
  have ih0 := stanchionlaw14_FrameSmall.mono_l k
  unfold stanchionlaw14_FrameSmall.f
  repeat' first
      | (with_reducible exact ih0 _ _ _ _ _)
      | (with_reducible exact LeO.refl _)
      | (with_reducible exact LeO.none _)
      | (with_reducible refine LeO.ite ?_ ?_)
      | (with_reducible refine LeO.bind ?_ (fun _ => ?_))
      | exact ih0 _ _ _ _ _
      | exact LeO.none _
      | refine LeO.ite ?_ ?_
      | refine LeO.bind ?_ (fun _ => ?_)
def stanchionlaw14_FrameSmall.T6 : Bool × List (List Nat × List Nat) := (true, [([], []), ([], []), ([], []), ([1, 2], [1, 2]), ([3], [3]), ([0, 4], [0, 4]), ([5], [5]), ([6], [6]), ([6], [6]), ([6], [6]), ([], []), ([10, 7, 5, 0, 1, 2, 3, 4, 5, 6, 7, 10], [7, 10]), ([8, 11, 0, 1, 2, 3, 4, 5, 6, 7, 8, 10, 11], [8]), ([9, 12, 0, 1, 2, 3, 4, 5, 6, 7, 8, 9, 10, 11, 12], [9])])
def stanchionlaw14_FrameSmall.B6 : List Nat := [0, 0, 0, 6, 14, 31, 63, 127, 127, 127, 0, 1279, 3583, 8191]
theorem stanchionlaw14_FrameSmall.tab6 : rtab .any (opsOf Try.f4 6) = stanchionlaw14_FrameSmall.T6 := by kernel_rfl
theorem stanchionlaw14_FrameSmall.bits6 : waitsOk stanchionlaw14_FrameSmall.T6.2 stanchionlaw14_FrameSmall.B6 = true := by kernel_rfl
set_option maxHeartbeats 8000000 in
set_option maxRecDepth 100000 in
theorem stanchionlaw14_FrameSmall.calls (k : Nat) (A0 : Option Addr) (c0 : Nat) (l0 : List ByteArray) (r : Bool) (w : World) (hr0 : Kd.C Kd.string w A0 l0.length l0) (hc0 : l0.length ≤ c0) (h : stanchionlaw14_FrameSmall.f k l0 = some r) :
    Calls Try.prog 4 #[.slice A0 l0.length c0] w fun e w' => e = .returned (.bool r) ∧ Below w.heap.size w w' := by
  have hu25 := Try.underlying25
  have HR0 := Aside0.mk hr0
  have HC0 := Aside0.mk hc0
  clear hr0 hc0
  have HB := Aside0.mk (Below.refl w.heap.size w)
  have H : ((stanchionlaw14_shown.f).bind fun t217 => (stanchionlaw14_FrameSmall.l0 k l0 t217 0 (⟨#[]⟩ : ByteArray) false)) = some r := h
  clear h
  replace H := Option.bind_eq_some_iff.mp H
  obtain ⟨t217, A20, H⟩ := H
  replace H : (stanchionlaw14_FrameSmall.l0 k l0 t217 0 (⟨#[]⟩ : ByteArray) false) = some r := H
  have A2 := Aside0.mk A20
  clear A20
  have H' := Aside0.mk H
  clear H
  go_enter Try.func4, Try.ntmps4
  go_wp2_with (first | ((with_reducible refine gate_callee (f := 9) rfl ?_); refine goesL_ (some 9) rfl rfl Try.func9 (by kernel_rfl) rfl #[] rfl (by (try simp only [List.map_toArray, List.map_cons, List.map_nil]); first | done | rfl | (simp only [List.length_drop, List.length_take]; rfl)) ?_; (with_reducible refine (stanchionlaw14_shown.calls  t217 _ A2.out).mono ?_); rintro e w3 ⟨rfl, hb⟩; refine ⟨_, rfl, ?_⟩; have n0_ := Aside0.mk (below_step (by repeat (first | (with_reducible first | exact HB.out | apply below_alloc | apply pw_below_drewN | apply below_drew1) | exact HB.out)) hb); clear HB; have HB := n0_; clear n0_; (try clear hb); (try clear hb2); (try clear hk); (try clear hi)) | ((with_reducible refine gate_dst (N := 4) rfl ?_); refine box_event ?hg (N := 4) ?hd (cs := #[.string (⟨#[]⟩ : ByteArray), .bool false]) (t := 25) ?hr ?_; (case hd => rfl); (case hg => rfl); (case hr => first | (go_simp; done) | (go_simp; rfl)); intro gb218 hg w4 hbox hb; have n0_ := Aside0.mk (below_step (by repeat (first | (with_reducible first | exact HB.out | apply below_alloc | apply pw_below_drewN | apply below_drew1) | exact HB.out)) hb); have n1_ := Aside0.mk (hbox); have n2_ := Aside0.mk ((by rw [hg]; exact (below_size (by repeat (first | (with_reducible first | exact HB.out | apply below_alloc | apply pw_below_drewN | apply below_drew1) | exact HB.out))) : w.heap.size ≤ gb218)); have n3_ := Aside0.mk ((by rw [hg]; exact (below_size (by repeat (first | (with_reducible first | exact HB.out | apply below_alloc | apply pw_below_drewN | apply below_drew1) | exact HB.out))) : w.heap.size ≤ gb218)); clear HB; have HB := n0_; have BK218 := n1_; have GW218 := n2_; have GE218 := n3_; clear n0_ n1_ n2_ n3_; clear hb hbox hg; have hcz5_0 : w4.cell? ⟨gb218, 0, none⟩ = some (.string (⟨#[]⟩ : ByteArray)) := (blk_cell BK218.out 0).trans rfl; have hcz5_1 : w4.cell? ⟨gb218, 1, none⟩ = some (.bool false) := (blk_cell BK218.out 1).trans rfl; have hfz5_0 := blk_frozen BK218.out 0; have hfz5_1 := blk_frozen BK218.out 1))
  go_loopg [5] k (fun kq v5 w' => ∃ (x5_1 : Int) (x219000_1 : ByteArray) (x219001_1 : Bool), v5 = .int .i64 x5_1 ∧ Aside0 (stanchionlaw14_FrameSmall.l0 kq l0 t217 x5_1 x219000_1 x219001_1 = some r) ∧ Aside0 (kq ≤ k) ∧ Aside0 (w'.heap[gb218]? = some (.cells #[.string x219000_1, .bool x219001_1] 25 (0, 0))) ∧ Aside0 (Below w.heap.size w w'))
  case atStart => exact ⟨(0), ((⟨#[]⟩ : ByteArray)), (false), (by first | rfl | (simp; done) | (simp [*]; done)), H', ⟨Nat.le_refl _⟩, ⟨by (with_reducible repeat (first | refine blk_drewN ?_ _ | refine blk_drew ?_ | refine blk_alloc ?_ _)); refine blk_put (cs := #[.string (⟨#[]⟩ : ByteArray), .bool false]) ?_ 1 _ rfl; (with_reducible repeat (first | refine blk_drewN ?_ _ | refine blk_drew ?_ | refine blk_alloc ?_ _)); refine blk_put (cs := #[.string (⟨#[]⟩ : ByteArray), .bool false]) ?_ 0 _ rfl; (with_reducible repeat (first | refine blk_drewN ?_ _ | refine blk_drew ?_ | refine blk_alloc ?_ _)); exact BK218.out⟩, ⟨by repeat (first | (with_reducible first | exact HB.out | apply below_alloc | apply pw_below_drewN | apply below_drew1 | refine below_set ?_ GE218.out) | exact HB.out)⟩⟩
  case round =>
    clear H'
    try clear p2
    try clear c4
    try clear hcz5_0
    try clear hcz5_1
    try clear hfz5_0
    try clear hfz5_1
    obtain ⟨x5_1, x219000_1, x219001_1, rfl, HA, HK1, BK218, HB⟩ := hrel
    cases gk with
    | zero => exact absurd HA.out (by simp [stanchionlaw14_FrameSmall.l0])
    | succ k1 =>
      have H := HA.out
      clear HA
      simp only [stanchionlaw14_FrameSmall.l0] at H
      by_cases c6 : x5_1 < (l0.length : Int)
      · rw [if_pos c6] at H
        have c6b0 : decide (x5_1 < (l0.length : Int)) = true := decide_eq_true c6
        clear c6
        by_cases c7 : 0 ≤ x5_1
        · rw [if_pos c7] at H
          have c7b0 : decide (0 ≤ x5_1) = true := decide_eq_true c7
          clear c7
          replace H := Option.bind_eq_some_iff.mp H
          obtain ⟨⟨t220, t221, t222, t225⟩, A80, H⟩ := H
          replace H : (if (t220.size : Int) > 2053 then (some false) else (stanchionlaw14_FrameSmall.l0 k1 l0 t217 (wrap64 (x5_1 + 1)) t220 t221)) = some r := H
          have A8 := Aside0.mk A80
          clear A80
          by_cases c9 : (t220.size : Int) > 2053
          · rw [if_pos c9] at H
            have c9b0 : decide (2053 < (t220.size : Int)) = true := decide_eq_true c9
            have c9b1 : decide (2053 < t220.size) = true := decide_eq_true (by omega)
            clear c9
            obtain rfl := Option.some.inj H
            try go_wp2
            have n0_ := Aside0.mk (blk_drew BK218.out)
            have n1_ := Aside0.mk (below_drew1 HB.out)
            clear BK218
            clear HB
            have BK218 := n0_
            have HB := n1_
            clear n0_ n1_
            have p219 : 0 ≤ (x5_1 : Int) := of_decide_eq_true (by first | (with_reducible assumption) | assumption)
            have q219 : x5_1 < (l0.length : Int) := of_decide_eq_true (by first | (with_reducible assumption) | assumption)
            obtain ⟨ad219, e219, hx219_0⟩ := Kd.at_string HR0.out x5_1 p219 q219
            have hw219_0 := hx219_0
            cases e219
            replace hx219_0 := (HB.out.cell (World.block_lt_of_cell? w _ hx219_0)).trans hx219_0
            replace p219 := eq_true p219
            replace q219 := eq_true q219
            refine start_ (n := 14) (S := fun w' => w'.cell? ⟨gb218, 0, none⟩ = some (.string x219000_1) ∧ w'.cell? ⟨gb218, 1, none⟩ = some (.bool x219001_1) ∧ w'.cell? (ad219.add (x5_1).toNat) = some (.string (rdOf ByteArray.empty l0 x5_1))) (ds := []) #[false, false, false, false, false, false, false, false, false, false, false, false, false, false] (by kernel_rfl) rfl rfl ⟨(blk_cell BK218.out 0).trans rfl, (blk_cell BK218.out 1).trans rfl, ((HB.out.cell (World.block_lt_of_cell? w _ hw219_0)).trans hw219_0)⟩ (fun hHeld => ?_); refine with_tabW stanchionlaw14_FrameSmall.tab6 stanchionlaw14_FrameSmall.bits6 (fun HT_ HW_ => ?_)
            generalize wr.drew = w10 at BK218 HB hx219_0 hHeld ⊢
            refine pure_ (i := 1) (N := some 19) (v := ?_) (a' := ?_) #[false, true, false, false, false, false, false, false, false, false, false, false, false, false] rfl rfl (any_of HT_.out (by kernel_rfl)) (fun _ _ _ h => h) (Or.inl ⟨by rfl, ?_⟩) ?_ ?_
            rotate_left
            · intro w'
              go_simp
              with_reducible rfl
            rotate_left
            · simp only [Act.put, List.setIfInBounds_toArray, List.set_cons_zero, List.set_cons_succ, i64_w, i32_w]
              rfl
            refine pure_ (i := 2) (N := some 20) (v := ?_) (a' := ?_) #[false, true, true, false, false, false, false, false, false, false, false, false, false, false] rfl rfl (any_of HT_.out (by kernel_rfl)) (fun _ _ _ h => h) (Or.inl ⟨by rfl, ?_⟩) ?_ ?_
            rotate_left
            · intro w'
              go_simp
              with_reducible rfl
            rotate_left
            · simp only [Act.put, List.setIfInBounds_toArray, List.set_cons_zero, List.set_cons_succ, i64_w, i32_w]
              rfl
            refine pure_ (i := 3) (N := some 21) (v := ?_) (a' := ?_) #[false, true, true, true, false, false, false, false, false, false, false, false, false, false] rfl rfl (any_of HT_.out (by kernel_rfl)) (fun _ _ _ h => h) (Or.inl ⟨by rfl, ?_⟩) ?_ ?_
            rotate_left
            · intro w'
              go_simp
              with_reducible rfl
            rotate_left
            · simp only [Act.put, List.setIfInBounds_toArray, List.set_cons_zero, List.set_cons_succ, i64_w, i32_w]
              rfl
            refine take_ (i := 0) (N := some 18) (v := ?_) (a' := ?_) #[true, true, true, true, false, false, false, false, false, false, false, false, false, false] rfl rfl (take_ofW HT_.out HW_.out (by kernel_rfl)) (fun _ _ _ h => h) (Or.inl ⟨by rfl, ?_⟩) hHeld ?_ ?_
            rotate_left
            · rintro w' ⟨s0, s1, s2⟩
              go_simp
              with_reducible rfl
            rotate_left
            · simp only [Act.put, List.setIfInBounds_toArray, List.set_cons_zero, List.set_cons_succ, i64_w, i32_w]
              rfl
            refine take_ (i := 4) (N := some 22) (v := ?_) (a' := ?_) #[true, true, true, true, true, false, false, false, false, false, false, false, false, false] rfl rfl (take_ofW HT_.out HW_.out (by kernel_rfl)) (fun _ _ _ h => h) (Or.inl ⟨by rfl, ?_⟩) hHeld ?_ ?_
            rotate_left
            · rintro w' ⟨s0, s1, s2⟩
              go_simp
              with_reducible rfl
            rotate_left
            · simp only [Act.put, List.setIfInBounds_toArray, List.set_cons_zero, List.set_cons_succ, i64_w, i32_w]
              rfl
            refine join_ (σ := Value × Nat) 3 #[true, true, true, true, true, true, true, true, true, true, true, false, false, false] (fun s_ => [(23, .tuple #[.agg #[.string t220, .bool t221], s_.1, .int .i64 t225]), (6, .pointer (some ⟨s_.2, 0, none⟩)), (17, .tuple #[.agg #[.string t220, .bool t221], s_.1, .int .i64 t225]), (24, .agg #[.string t220, .bool t221]), (25, s_.1), (26, .int .i64 t225)]) (fun s_ w' => (w'.cell? ⟨gb218, 0, none⟩ = some (.string x219000_1) ∧ w'.cell? ⟨gb218, 1, none⟩ = some (.bool x219001_1) ∧ w'.cell? (ad219.add (x5_1).toNat) = some (.string (rdOf ByteArray.empty l0 x5_1))) ∧ (Kd.R Kd.string 9 w' w.heap.size (fun _ => True) s_.1 t222) ∧ (w'.heap[gb218]? = some (.cells #[.string x219000_1, .bool x219001_1] 25 (0, 0))) ∧ (w'.heap[s_.2]? = some (.cells #[.string (⟨#[]⟩ : ByteArray), .bool false] 25 (0, 0))) ∧ (w.heap.size ≤ s_.2) ∧ (w.heap.size ≤ s_.2) ∧ (gb218 ≠ s_.2) ∧ (s_.2 ≠ gb218) ∧ (Below w.heap.size w w')) ?_ ?_
            rotate_left
            · intro hCont
              refine two_ (i := 5) (j := 10) (Ni := some 23) (Nj := some 6) #[true, true, true, true, true, true, false, false, false, false, false, false, false, false] #[true, true, true, true, true, false, false, false, false, false, true, false, false, false] rfl rfl rfl rfl (two_of HT_.out (by kernel_rfl)) (by decide) (by decide) (fun K hK => ?_) (fun K hK => ?_)
              · skip
                refine goes_ Try.func10 (by kernel_rfl) rfl #[.agg #[.string x219000_1, .bool x219001_1], .string (rdOf ByteArray.empty l0 x5_1)] (by rfl) rfl rfl (by (try simp only [List.map_toArray, List.map_cons, List.map_nil]); first | done | rfl | (simp only [List.length_drop, List.length_take]; rfl)) ?_
                with_reducible refine (frame_Feed.calls x219000_1 x219001_1 (rdOf ByteArray.empty l0 x5_1) t220 t221 t222 t225 _ A8.out).mono ?_
                rintro e w11 ⟨v223, rfl, ho0, hb⟩
                refine ⟨_, rfl, ?_⟩
                have n0_ := Aside0.mk (Kd.R_lower ho0 (below_size (by repeat (first | (with_reducible first | exact HB.out | apply below_alloc | apply pw_below_drewN | apply below_drew1 | refine below_set ?_ GE218.out) | exact HB.out))))
                have n1_ := Aside0.mk (blk_below (g := gb218) (o := .cells #[.string x219000_1, .bool x219001_1] 25 (0, 0)) (by (with_reducible repeat (first | refine blk_drewN ?_ _ | refine blk_drew ?_ | refine blk_alloc ?_ _)); exact BK218.out) hb)
                have n2_ := Aside0.mk (below_step (by repeat (first | (with_reducible first | exact HB.out | apply below_alloc | apply pw_below_drewN | apply below_drew1 | refine below_set ?_ GE218.out) | exact HB.out)) hb)
                clear BK218
                clear HB
                have HO224 := n0_
                have BK218 := n1_
                have HB := n2_
                clear n0_ n1_ n2_
                (try clear hb)
                (try clear hb2)
                (try clear hk)
                (try clear hi)
                (try clear ho0)
                refine hK.out _ _ ⟨(blk_cell BK218.out 0).trans rfl, (blk_cell BK218.out 1).trans rfl, ((HB.out.cell (World.block_lt_of_cell? w _ hw219_0)).trans hw219_0)⟩ (fun hHeld => ?_)
                clear hK K
                refine norm_ (a' := ?_) ?_ ?_
                rotate_left
                · show Act.put _ (some 23) _ = _
                  simp only [Act.put, List.setIfInBounds_toArray, List.set_cons_zero, List.set_cons_succ, i64_w, i32_w]
                  rfl
                refine pure_ (i := 6) (N := some 17) (v := ?_) (a' := ?_) #[true, true, true, true, true, true, true, false, false, false, false, false, false, false] rfl rfl (any_of HT_.out (by kernel_rfl)) (fun _ _ _ h => h) (Or.inl ⟨by rfl, ?_⟩) ?_ ?_
                rotate_left
                · intro w'
                  go_simp
                  with_reducible rfl
                rotate_left
                · simp only [Act.put, List.setIfInBounds_toArray, List.set_cons_zero, List.set_cons_succ, i64_w, i32_w]
                  rfl
                refine pure_ (i := 7) (N := some 24) (v := ?_) (a' := ?_) #[true, true, true, true, true, true, true, true, false, false, false, false, false, false] rfl rfl (any_of HT_.out (by kernel_rfl)) (fun _ _ _ h => h) (Or.inl ⟨by rfl, ?_⟩) ?_ ?_
                rotate_left
                · intro w'
                  go_simp
                  with_reducible rfl
                rotate_left
                · simp only [Act.put, List.setIfInBounds_toArray, List.set_cons_zero, List.set_cons_succ, i64_w, i32_w]
                  rfl
                refine pure_ (i := 8) (N := some 25) (v := ?_) (a' := ?_) #[true, true, true, true, true, true, true, true, true, false, false, false, false, false] rfl rfl (any_of HT_.out (by kernel_rfl)) (fun _ _ _ h => h) (Or.inl ⟨by rfl, ?_⟩) ?_ ?_
                rotate_left
                · intro w'
                  go_simp
                  with_reducible rfl
                rotate_left
                · simp only [Act.put, List.setIfInBounds_toArray, List.set_cons_zero, List.set_cons_succ, i64_w, i32_w]
                  rfl
                refine pure_ (i := 9) (N := some 26) (v := ?_) (a' := ?_) #[true, true, true, true, true, true, true, true, true, true, false, false, false, false] rfl rfl (any_of HT_.out (by kernel_rfl)) (fun _ _ _ h => h) (Or.inl ⟨by rfl, ?_⟩) ?_ ?_
                rotate_left
                · intro w'
                  go_simp
                  with_reducible rfl
                rotate_left
                · simp only [Act.put, List.setIfInBounds_toArray, List.set_cons_zero, List.set_cons_succ, i64_w, i32_w]
                  rfl
                refine one_ (i := 10) (N := some 6) #[true, true, true, true, true, true, true, true, true, true, true, false, false, false] rfl rfl (one_of HT_.out (by kernel_rfl)) (by decide) (fun K hK => ?_)
                refine box_step ?hg (N := 6) ?hd (cs := #[.string (⟨#[]⟩ : ByteArray), .bool false]) (t := 25) ?hr ?_; (case hd => rfl); (case hg => rfl); (case hr => first | (go_simp; done) | (go_simp; rfl))
                intro gb226 hg w12 hbox hb
                have n0_ := Aside0.mk (Kd.R_below (by (with_reducible repeat (first | apply Kd.R_alloc | apply Kd.R_drewN | apply Kd.R_drew)); exact HO224.out) hb)
                have n1_ := Aside0.mk (blk_below (g := gb218) (o := .cells #[.string x219000_1, .bool x219001_1] 25 (0, 0)) (by (with_reducible repeat (first | refine blk_drewN ?_ _ | refine blk_drew ?_ | refine blk_alloc ?_ _)); exact BK218.out) hb)
                have n2_ := Aside0.mk (below_step (by repeat (first | (with_reducible first | exact HB.out | apply below_alloc | apply pw_below_drewN | apply below_drew1 | refine below_set ?_ GE218.out) | exact HB.out)) hb)
                have n3_ := Aside0.mk (hbox)
                have n4_ := Aside0.mk ((by rw [hg]; exact (below_size (by repeat (first | (with_reducible first | exact HB.out | apply below_alloc | apply pw_below_drewN | apply below_drew1 | refine below_set ?_ GE218.out) | exact HB.out))) : w.heap.size ≤ gb226))
                have n5_ := Aside0.mk ((by rw [hg]; exact (below_size (by repeat (first | (with_reducible first | exact HB.out | apply below_alloc | apply pw_below_drewN | apply below_drew1 | refine below_set ?_ GE218.out) | exact HB.out))) : w.heap.size ≤ gb226))
                have n6_ := Aside0.mk ((by rw [hg]; exact Nat.ne_of_lt (blk_lt (g := gb218) (o := .cells #[.string x219000_1, .bool x219001_1] 25 (0, 0)) (by (with_reducible repeat (first | refine blk_drewN ?_ _ | refine blk_drew ?_ | refine blk_alloc ?_ _)); exact BK218.out)) : gb218 ≠ gb226))
                have n7_ := Aside0.mk ((by rw [hg]; exact Nat.ne_of_gt (blk_lt (g := gb218) (o := .cells #[.string x219000_1, .bool x219001_1] 25 (0, 0)) (by (with_reducible repeat (first | refine blk_drewN ?_ _ | refine blk_drew ?_ | refine blk_alloc ?_ _)); exact BK218.out)) : gb226 ≠ gb218))
                clear HO224
                clear BK218
                clear HB
                have HO224 := n0_
                have BK218 := n1_
                have HB := n2_
                have BK226 := n3_
                have GW226 := n4_
                have GE226 := n5_
                have NB218_226 := n6_
                have NB226_218 := n7_
                clear n0_ n1_ n2_ n3_ n4_ n5_ n6_ n7_
                clear hb hbox hg
                refine hK.out _ _ ⟨(blk_cell BK218.out 0).trans rfl, (blk_cell BK218.out 1).trans rfl, ((HB.out.cell (World.block_lt_of_cell? w _ hw219_0)).trans hw219_0)⟩ (fun hHeld => ?_)
                clear hK K
                refine norm_ (a' := ?_) ?_ ?_
                rotate_left
                · show Act.put _ (some 6) _ = _
                  simp only [Act.put, List.setIfInBounds_toArray, List.set_cons_zero, List.set_cons_succ, i64_w, i32_w]
                  rfl
                exact norm_ (by simp only [putAll, Act.put, List.setIfInBounds_toArray, List.set_cons_zero, List.set_cons_succ]) (hCont (v223, gb226) _ ⟨hHeld, (by (with_reducible repeat (first | apply Kd.R_alloc | apply Kd.R_drewN | apply Kd.R_drew)); exact HO224.out), (by (with_reducible repeat (first | refine blk_drewN ?_ _ | refine blk_drew ?_ | refine blk_alloc ?_ _)); exact BK218.out), (by (with_reducible repeat (first | refine blk_drewN ?_ _ | refine blk_drew ?_ | refine blk_alloc ?_ _)); exact BK226.out), GW226.out, GE226.out, NB218_226.out, NB226_218.out, (by repeat (first | (with_reducible first | exact HB.out | apply below_alloc | apply pw_below_drewN | apply below_drew1 | refine below_set ?_ GE218.out | refine below_set ?_ GE226.out) | exact HB.out))⟩)
              · skip
                refine box_step ?hg (N := 6) ?hd (cs := #[.string (⟨#[]⟩ : ByteArray), .bool false]) (t := 25) ?hr ?_; (case hd => rfl); (case hg => rfl); (case hr => first | (go_simp; done) | (go_simp; rfl))
                intro gb226 hg w11 hbox hb
                have n0_ := Aside0.mk (blk_below (g := gb218) (o := .cells #[.string x219000_1, .bool x219001_1] 25 (0, 0)) (by (with_reducible repeat (first | refine blk_drewN ?_ _ | refine blk_drew ?_ | refine blk_alloc ?_ _)); exact BK218.out) hb)
                have n1_ := Aside0.mk (below_step (by repeat (first | (with_reducible first | exact HB.out | apply below_alloc | apply pw_below_drewN | apply below_drew1 | refine below_set ?_ GE218.out) | exact HB.out)) hb)
                have n2_ := Aside0.mk (hbox)
                have n3_ := Aside0.mk ((by rw [hg]; exact (below_size (by repeat (first | (with_reducible first | exact HB.out | apply below_alloc | apply pw_below_drewN | apply below_drew1 | refine below_set ?_ GE218.out) | exact HB.out))) : w.heap.size ≤ gb226))
                have n4_ := Aside0.mk ((by rw [hg]; exact (below_size (by repeat (first | (with_reducible first | exact HB.out | apply below_alloc | apply pw_below_drewN | apply below_drew1 | refine below_set ?_ GE218.out) | exact HB.out))) : w.heap.size ≤ gb226))
                have n5_ := Aside0.mk ((by rw [hg]; exact Nat.ne_of_lt (blk_lt (g := gb218) (o := .cells #[.string x219000_1, .bool x219001_1] 25 (0, 0)) (by (with_reducible repeat (first | refine blk_drewN ?_ _ | refine blk_drew ?_ | refine blk_alloc ?_ _)); exact BK218.out)) : gb218 ≠ gb226))
                have n6_ := Aside0.mk ((by rw [hg]; exact Nat.ne_of_gt (blk_lt (g := gb218) (o := .cells #[.string x219000_1, .bool x219001_1] 25 (0, 0)) (by (with_reducible repeat (first | refine blk_drewN ?_ _ | refine blk_drew ?_ | refine blk_alloc ?_ _)); exact BK218.out)) : gb226 ≠ gb218))
                clear BK218
                clear HB
                have BK218 := n0_
                have HB := n1_
                have BK226 := n2_
                have GW226 := n3_
                have GE226 := n4_
                have NB218_226 := n5_
                have NB226_218 := n6_
                clear n0_ n1_ n2_ n3_ n4_ n5_ n6_
                clear hb hbox hg
                refine hK.out _ _ ⟨(blk_cell BK218.out 0).trans rfl, (blk_cell BK218.out 1).trans rfl, ((HB.out.cell (World.block_lt_of_cell? w _ hw219_0)).trans hw219_0)⟩ (fun hHeld => ?_)
                clear hK K
                refine norm_ (a' := ?_) ?_ ?_
                rotate_left
                · show Act.put _ (some 6) _ = _
                  simp only [Act.put, List.setIfInBounds_toArray, List.set_cons_zero, List.set_cons_succ, i64_w, i32_w]
                  rfl
                refine one_ (i := 5) (N := some 23) #[true, true, true, true, true, true, false, false, false, false, true, false, false, false] rfl rfl (one_of HT_.out (by kernel_rfl)) (by decide) (fun K hK => ?_)
                refine goes_ Try.func10 (by kernel_rfl) rfl #[.agg #[.string x219000_1, .bool x219001_1], .string (rdOf ByteArray.empty l0 x5_1)] (by rfl) rfl rfl (by (try simp only [List.map_toArray, List.map_cons, List.map_nil]); first | done | rfl | (simp only [List.length_drop, List.length_take]; rfl)) ?_
                with_reducible refine (frame_Feed.calls x219000_1 x219001_1 (rdOf ByteArray.empty l0 x5_1) t220 t221 t222 t225 _ A8.out).mono ?_
                rintro e w12 ⟨v223, rfl, ho0, hb⟩
                refine ⟨_, rfl, ?_⟩
                have n0_ := Aside0.mk (Kd.R_lower ho0 (below_size (by repeat (first | (with_reducible first | exact HB.out | apply below_alloc | apply pw_below_drewN | apply below_drew1 | refine below_set ?_ GE218.out | refine below_set ?_ GE226.out) | exact HB.out))))
                have n1_ := Aside0.mk (blk_below (g := gb218) (o := .cells #[.string x219000_1, .bool x219001_1] 25 (0, 0)) (by (with_reducible repeat (first | refine blk_drewN ?_ _ | refine blk_drew ?_ | refine blk_alloc ?_ _)); exact BK218.out) hb)
                have n2_ := Aside0.mk (blk_below (g := gb226) (o := .cells #[.string (⟨#[]⟩ : ByteArray), .bool false] 25 (0, 0)) (by (with_reducible repeat (first | refine blk_drewN ?_ _ | refine blk_drew ?_ | refine blk_alloc ?_ _)); exact BK226.out) hb)
                have n3_ := Aside0.mk (below_step (by repeat (first | (with_reducible first | exact HB.out | apply below_alloc | apply pw_below_drewN | apply below_drew1 | refine below_set ?_ GE218.out | refine below_set ?_ GE226.out) | exact HB.out)) hb)
                clear BK218
                clear BK226
                clear HB
                have HO224 := n0_
                have BK218 := n1_
                have BK226 := n2_
                have HB := n3_
                clear n0_ n1_ n2_ n3_
                (try clear hb)
                (try clear hb2)
                (try clear hk)
                (try clear hi)
                (try clear ho0)
                refine hK.out _ _ ⟨(blk_cell BK218.out 0).trans rfl, (blk_cell BK218.out 1).trans rfl, ((HB.out.cell (World.block_lt_of_cell? w _ hw219_0)).trans hw219_0)⟩ (fun hHeld => ?_)
                clear hK K
                refine norm_ (a' := ?_) ?_ ?_
                rotate_left
                · show Act.put _ (some 23) _ = _
                  simp only [Act.put, List.setIfInBounds_toArray, List.set_cons_zero, List.set_cons_succ, i64_w, i32_w]
                  rfl
                refine pure_ (i := 6) (N := some 17) (v := ?_) (a' := ?_) #[true, true, true, true, true, true, true, false, false, false, true, false, false, false] rfl rfl (any_of HT_.out (by kernel_rfl)) (fun _ _ _ h => h) (Or.inl ⟨by rfl, ?_⟩) ?_ ?_
                rotate_left
                · intro w'
                  go_simp
                  with_reducible rfl
                rotate_left
                · simp only [Act.put, List.setIfInBounds_toArray, List.set_cons_zero, List.set_cons_succ, i64_w, i32_w]
                  rfl
                refine pure_ (i := 7) (N := some 24) (v := ?_) (a' := ?_) #[true, true, true, true, true, true, true, true, false, false, true, false, false, false] rfl rfl (any_of HT_.out (by kernel_rfl)) (fun _ _ _ h => h) (Or.inl ⟨by rfl, ?_⟩) ?_ ?_
                rotate_left
                · intro w'
                  go_simp
                  with_reducible rfl
                rotate_left
                · simp only [Act.put, List.setIfInBounds_toArray, List.set_cons_zero, List.set_cons_succ, i64_w, i32_w]
                  rfl
                refine pure_ (i := 8) (N := some 25) (v := ?_) (a' := ?_) #[true, true, true, true, true, true, true, true, true, false, true, false, false, false] rfl rfl (any_of HT_.out (by kernel_rfl)) (fun _ _ _ h => h) (Or.inl ⟨by rfl, ?_⟩) ?_ ?_
                rotate_left
                · intro w'
                  go_simp
                  with_reducible rfl
                rotate_left
                · simp only [Act.put, List.setIfInBounds_toArray, List.set_cons_zero, List.set_cons_succ, i64_w, i32_w]
                  rfl
                refine pure_ (i := 9) (N := some 26) (v := ?_) (a' := ?_) #[true, true, true, true, true, true, true, true, true, true, true, false, false, false] rfl rfl (any_of HT_.out (by kernel_rfl)) (fun _ _ _ h => h) (Or.inl ⟨by rfl, ?_⟩) ?_ ?_
                rotate_left
                · intro w'
                  go_simp
                  with_reducible rfl
                rotate_left
                · simp only [Act.put, List.setIfInBounds_toArray, List.set_cons_zero, List.set_cons_succ, i64_w, i32_w]
                  rfl
                exact norm_ (by simp only [putAll, Act.put, List.setIfInBounds_toArray, List.set_cons_zero, List.set_cons_succ]) (hCont (v223, gb226) _ ⟨hHeld, (by (with_reducible repeat (first | apply Kd.R_alloc | apply Kd.R_drewN | apply Kd.R_drew)); exact HO224.out), (by (with_reducible repeat (first | refine blk_drewN ?_ _ | refine blk_drew ?_ | refine blk_alloc ?_ _)); exact BK218.out), (by (with_reducible repeat (first | refine blk_drewN ?_ _ | refine blk_drew ?_ | refine blk_alloc ?_ _)); exact BK226.out), GW226.out, GE226.out, NB218_226.out, NB226_218.out, (by repeat (first | (with_reducible first | exact HB.out | apply below_alloc | apply pw_below_drewN | apply below_drew1 | refine below_set ?_ GE218.out | refine below_set ?_ GE226.out) | exact HB.out))⟩)
            rintro ⟨v223, gb226⟩ w13 ⟨hS_, h0_, h1_, h2_, h3_, h4_, h5_, h6_, h7_⟩
            have n0_ : Aside0 (Kd.R Kd.string 9 w13 w.heap.size (fun _ => True) v223 t222) := ⟨h0_⟩
            have n1_ : Aside0 (w13.heap[gb218]? = some (.cells #[.string x219000_1, .bool x219001_1] 25 (0, 0))) := ⟨h1_⟩
            have n2_ : Aside0 (w13.heap[gb226]? = some (.cells #[.string (⟨#[]⟩ : ByteArray), .bool false] 25 (0, 0))) := ⟨h2_⟩
            have n3_ : Aside0 (w.heap.size ≤ gb226) := ⟨h3_⟩
            have n4_ : Aside0 (w.heap.size ≤ gb226) := ⟨h4_⟩
            have n5_ : Aside0 (gb218 ≠ gb226) := ⟨h5_⟩
            have n6_ : Aside0 (gb226 ≠ gb218) := ⟨h6_⟩
            have n7_ : Aside0 (Below w.heap.size w w13) := ⟨h7_⟩
            clear BK218
            clear HB
            clear h0_ h1_ h2_ h3_ h4_ h5_ h6_ h7_
            have HO224 := n0_
            have BK218 := n1_
            have BK226 := n2_
            have GW226 := n3_
            have GE226 := n4_
            have NB218_226 := n5_
            have NB226_218 := n6_
            have HB := n7_
            clear n0_ n1_ n2_ n3_ n4_ n5_ n6_ n7_
            have hHeld : w13.cell? ⟨gb218, 0, none⟩ = some (.string x219000_1) ∧ w13.cell? ⟨gb218, 1, none⟩ = some (.bool x219001_1) ∧ w13.cell? (ad219.add (x5_1).toNat) = some (.string (rdOf ByteArray.empty l0 x5_1)) := hS_
            refine norm_ (a' := ?_) ?_ ?_
            rotate_left
            · simp only [putAll, Act.put, List.setIfInBounds_toArray, List.set_cons_zero, List.set_cons_succ]
              rfl
            refine one_ (i := 11) (N := none) #[true, true, true, true, true, true, true, true, true, true, true, true, false, false] rfl rfl (one_of HT_.out (by kernel_rfl)) (by decide) (fun K hK => ?_)
            have hs14 : w13.cell? ⟨gb226, 0, none⟩ = some (.string (⟨#[]⟩ : ByteArray)) := (blk_cell BK226.out 0).trans rfl
            have hfs14 := blk_frozen BK226.out 0
            have hns14_0 := NB218_226.out
            have hms14_0 := NB226_218.out
            have hs15 : w13.cell? ⟨gb226, 1, none⟩ = some (.bool false) := (blk_cell BK226.out 1).trans rfl
            have hfs15 := blk_frozen BK226.out 1
            have hns15_0 := NB218_226.out
            have hms15_0 := NB226_218.out
            refine skip_ (w1 := ?_) (by rfl) rfl ?_ ?_
            rotate_left
            · go_simp
              rfl
            refine hK.out _ _ ⟨((cell_far (p := ⟨gb226, _, none⟩) NB218_226.out _).trans (((cell_far (p := ⟨gb226, _, none⟩) NB218_226.out _).trans (hHeld.1)))), ((cell_far (p := ⟨gb226, _, none⟩) NB218_226.out _).trans (((cell_far (p := ⟨gb226, _, none⟩) NB218_226.out _).trans (hHeld.2.1)))), ((cell_far (p := ⟨gb226, _, none⟩) (by first | exact Nat.ne_of_lt (Nat.lt_of_lt_of_le (by have := World.block_lt_of_cell? _ _ hw219_0; first | rwa [add_block] at this | exact this) GW226.out) | (rw [add_block]; exact Nat.ne_of_lt (Nat.lt_of_lt_of_le (by have := World.block_lt_of_cell? _ _ hw219_0; first | rwa [add_block] at this | exact this) GW226.out)) | (show (Addr.add _ _).block ≠ _; rw [add_block]; exact Nat.ne_of_lt (Nat.lt_of_lt_of_le (by have := World.block_lt_of_cell? _ _ hw219_0; first | rwa [add_block] at this | exact this) GW226.out)) | (dsimp only; exact Nat.ne_of_lt (Nat.lt_of_lt_of_le (by have := World.block_lt_of_cell? _ _ hw219_0; first | rwa [add_block] at this | exact this) GW226.out))) _).trans (((cell_far (p := ⟨gb226, _, none⟩) (by first | exact Nat.ne_of_lt (Nat.lt_of_lt_of_le (by have := World.block_lt_of_cell? _ _ hw219_0; first | rwa [add_block] at this | exact this) GW226.out) | (rw [add_block]; exact Nat.ne_of_lt (Nat.lt_of_lt_of_le (by have := World.block_lt_of_cell? _ _ hw219_0; first | rwa [add_block] at this | exact this) GW226.out)) | (show (Addr.add _ _).block ≠ _; rw [add_block]; exact Nat.ne_of_lt (Nat.lt_of_lt_of_le (by have := World.block_lt_of_cell? _ _ hw219_0; first | rwa [add_block] at this | exact this) GW226.out)) | (dsimp only; exact Nat.ne_of_lt (Nat.lt_of_lt_of_le (by have := World.block_lt_of_cell? _ _ hw219_0; first | rwa [add_block] at this | exact this) GW226.out))) _).trans (hHeld.2.2))))⟩ (fun hHeld => ?_)
            clear hK K
            refine pure_ (i := 12) (N := some 7) (v := ?_) (a' := ?_) #[true, true, true, true, true, true, true, true, true, true, true, true, true, false] rfl rfl (any_of HT_.out (by kernel_rfl)) (fun _ _ _ h => h) (Or.inl ⟨by rfl, ?_⟩) ?_ ?_
            rotate_left
            · intro w'
              go_simp
              with_reducible rfl
            rotate_left
            · simp only [Act.put, List.setIfInBounds_toArray, List.set_cons_zero, List.set_cons_succ, i64_w, i32_w]
              rfl
            refine pure_ (i := 13) (N := some 8) (v := ?_) (a' := ?_) #[true, true, true, true, true, true, true, true, true, true, true, true, true, true] rfl rfl (any_of HT_.out (by kernel_rfl)) (fun _ _ _ h => h) (Or.inl ⟨by rfl, ?_⟩) ?_ ?_
            rotate_left
            · intro w'
              go_simp
              with_reducible rfl
            rotate_left
            · simp only [Act.put, List.setIfInBounds_toArray, List.set_cons_zero, List.set_cons_succ, i64_w, i32_w]
              rfl
            refine done_ (done_of HT_.out (by kernel_rfl)) ?_
            have hnb16 := NB226_218.out
            have hnc16 := NB218_226.out
            have hcz17_0 : w13.cell? ⟨gb226, 0, none⟩ = some (.string (⟨#[]⟩ : ByteArray)) := (blk_cell BK226.out 0).trans rfl
            have hcz17_1 : w13.cell? ⟨gb226, 1, none⟩ = some (.bool false) := (blk_cell BK226.out 1).trans rfl
            have hfz17_0 := blk_frozen BK226.out 0
            have hfz17_1 := blk_frozen BK226.out 1
            have hcz18_0 : w13.cell? ⟨gb218, 0, none⟩ = some (.string x219000_1) := (blk_cell BK218.out 0).trans rfl
            have hcz18_1 : w13.cell? ⟨gb218, 1, none⟩ = some (.bool x219001_1) := (blk_cell BK218.out 1).trans rfl
            have hfz18_0 := blk_frozen BK218.out 0
            have hfz18_1 := blk_frozen BK218.out 1
            try go_wp2
            go_ret
            exact ⟨by first | rfl | (simp [errW_none, errW_some] <;> rfl) | (simp [*, errW_none, errW_some] <;> rfl), by repeat (first | (with_reducible first | exact HB.out | apply below_alloc | apply pw_below_drewN | apply below_drew1 | refine below_set ?_ GE218.out | refine below_set ?_ GE226.out) | exact HB.out)⟩
          · rw [if_neg c9] at H
            have c9b0 : decide (2053 < (t220.size : Int)) = false := decide_eq_false c9
            have c9b1 : decide (2053 < t220.size) = false := decide_eq_false (by omega)
            clear c9
            have H' := Aside0.mk H
            clear H
            try go_wp2
            have n0_ := Aside0.mk (blk_drew BK218.out)
            have n1_ := Aside0.mk (below_drew1 HB.out)
            clear BK218
            clear HB
            have BK218 := n0_
            have HB := n1_
            clear n0_ n1_
            have p219 : 0 ≤ (x5_1 : Int) := of_decide_eq_true (by first | (with_reducible assumption) | assumption)
            have q219 : x5_1 < (l0.length : Int) := of_decide_eq_true (by first | (with_reducible assumption) | assumption)
            obtain ⟨ad219, e219, hx219_0⟩ := Kd.at_string HR0.out x5_1 p219 q219
            have hw219_0 := hx219_0
            cases e219
            replace hx219_0 := (HB.out.cell (World.block_lt_of_cell? w _ hx219_0)).trans hx219_0
            replace p219 := eq_true p219
            replace q219 := eq_true q219
            refine start_ (n := 14) (S := fun w' => w'.cell? ⟨gb218, 0, none⟩ = some (.string x219000_1) ∧ w'.cell? ⟨gb218, 1, none⟩ = some (.bool x219001_1) ∧ w'.cell? (ad219.add (x5_1).toNat) = some (.string (rdOf ByteArray.empty l0 x5_1))) (ds := []) #[false, false, false, false, false, false, false, false, false, false, false, false, false, false] (by kernel_rfl) rfl rfl ⟨(blk_cell BK218.out 0).trans rfl, (blk_cell BK218.out 1).trans rfl, ((HB.out.cell (World.block_lt_of_cell? w _ hw219_0)).trans hw219_0)⟩ (fun hHeld => ?_); refine with_tabW stanchionlaw14_FrameSmall.tab6 stanchionlaw14_FrameSmall.bits6 (fun HT_ HW_ => ?_)
            generalize wr.drew = w19 at BK218 HB hx219_0 hHeld ⊢
            refine pure_ (i := 1) (N := some 19) (v := ?_) (a' := ?_) #[false, true, false, false, false, false, false, false, false, false, false, false, false, false] rfl rfl (any_of HT_.out (by kernel_rfl)) (fun _ _ _ h => h) (Or.inl ⟨by rfl, ?_⟩) ?_ ?_
            rotate_left
            · intro w'
              go_simp
              with_reducible rfl
            rotate_left
            · simp only [Act.put, List.setIfInBounds_toArray, List.set_cons_zero, List.set_cons_succ, i64_w, i32_w]
              rfl
            refine pure_ (i := 2) (N := some 20) (v := ?_) (a' := ?_) #[false, true, true, false, false, false, false, false, false, false, false, false, false, false] rfl rfl (any_of HT_.out (by kernel_rfl)) (fun _ _ _ h => h) (Or.inl ⟨by rfl, ?_⟩) ?_ ?_
            rotate_left
            · intro w'
              go_simp
              with_reducible rfl
            rotate_left
            · simp only [Act.put, List.setIfInBounds_toArray, List.set_cons_zero, List.set_cons_succ, i64_w, i32_w]
              rfl
            refine pure_ (i := 3) (N := some 21) (v := ?_) (a' := ?_) #[false, true, true, true, false, false, false, false, false, false, false, false, false, false] rfl rfl (any_of HT_.out (by kernel_rfl)) (fun _ _ _ h => h) (Or.inl ⟨by rfl, ?_⟩) ?_ ?_
            rotate_left
            · intro w'
              go_simp
              with_reducible rfl
            rotate_left
            · simp only [Act.put, List.setIfInBounds_toArray, List.set_cons_zero, List.set_cons_succ, i64_w, i32_w]
              rfl
            refine take_ (i := 0) (N := some 18) (v := ?_) (a' := ?_) #[true, true, true, true, false, false, false, false, false, false, false, false, false, false] rfl rfl (take_ofW HT_.out HW_.out (by kernel_rfl)) (fun _ _ _ h => h) (Or.inl ⟨by rfl, ?_⟩) hHeld ?_ ?_
            rotate_left
            · rintro w' ⟨s0, s1, s2⟩
              go_simp
              with_reducible rfl
            rotate_left
            · simp only [Act.put, List.setIfInBounds_toArray, List.set_cons_zero, List.set_cons_succ, i64_w, i32_w]
              rfl
            refine take_ (i := 4) (N := some 22) (v := ?_) (a' := ?_) #[true, true, true, true, true, false, false, false, false, false, false, false, false, false] rfl rfl (take_ofW HT_.out HW_.out (by kernel_rfl)) (fun _ _ _ h => h) (Or.inl ⟨by rfl, ?_⟩) hHeld ?_ ?_
            rotate_left
            · rintro w' ⟨s0, s1, s2⟩
              go_simp
              with_reducible rfl
            rotate_left
            · simp only [Act.put, List.setIfInBounds_toArray, List.set_cons_zero, List.set_cons_succ, i64_w, i32_w]
              rfl
            refine join_ (σ := Value × Nat) 3 #[true, true, true, true, true, true, true, true, true, true, true, false, false, false] (fun s_ => [(23, .tuple #[.agg #[.string t220, .bool t221], s_.1, .int .i64 t225]), (6, .pointer (some ⟨s_.2, 0, none⟩)), (17, .tuple #[.agg #[.string t220, .bool t221], s_.1, .int .i64 t225]), (24, .agg #[.string t220, .bool t221]), (25, s_.1), (26, .int .i64 t225)]) (fun s_ w' => (w'.cell? ⟨gb218, 0, none⟩ = some (.string x219000_1) ∧ w'.cell? ⟨gb218, 1, none⟩ = some (.bool x219001_1) ∧ w'.cell? (ad219.add (x5_1).toNat) = some (.string (rdOf ByteArray.empty l0 x5_1))) ∧ (Kd.R Kd.string 9 w' w.heap.size (fun _ => True) s_.1 t222) ∧ (w'.heap[gb218]? = some (.cells #[.string x219000_1, .bool x219001_1] 25 (0, 0))) ∧ (w'.heap[s_.2]? = some (.cells #[.string (⟨#[]⟩ : ByteArray), .bool false] 25 (0, 0))) ∧ (w.heap.size ≤ s_.2) ∧ (w.heap.size ≤ s_.2) ∧ (gb218 ≠ s_.2) ∧ (s_.2 ≠ gb218) ∧ (Below w.heap.size w w')) ?_ ?_
            rotate_left
            · intro hCont
              refine two_ (i := 5) (j := 10) (Ni := some 23) (Nj := some 6) #[true, true, true, true, true, true, false, false, false, false, false, false, false, false] #[true, true, true, true, true, false, false, false, false, false, true, false, false, false] rfl rfl rfl rfl (two_of HT_.out (by kernel_rfl)) (by decide) (by decide) (fun K hK => ?_) (fun K hK => ?_)
              · skip
                refine goes_ Try.func10 (by kernel_rfl) rfl #[.agg #[.string x219000_1, .bool x219001_1], .string (rdOf ByteArray.empty l0 x5_1)] (by rfl) rfl rfl (by (try simp only [List.map_toArray, List.map_cons, List.map_nil]); first | done | rfl | (simp only [List.length_drop, List.length_take]; rfl)) ?_
                with_reducible refine (frame_Feed.calls x219000_1 x219001_1 (rdOf ByteArray.empty l0 x5_1) t220 t221 t222 t225 _ A8.out).mono ?_
                rintro e w20 ⟨v223, rfl, ho0, hb⟩
                refine ⟨_, rfl, ?_⟩
                have n0_ := Aside0.mk (Kd.R_lower ho0 (below_size (by repeat (first | (with_reducible first | exact HB.out | apply below_alloc | apply pw_below_drewN | apply below_drew1 | refine below_set ?_ GE218.out) | exact HB.out))))
                have n1_ := Aside0.mk (blk_below (g := gb218) (o := .cells #[.string x219000_1, .bool x219001_1] 25 (0, 0)) (by (with_reducible repeat (first | refine blk_drewN ?_ _ | refine blk_drew ?_ | refine blk_alloc ?_ _)); exact BK218.out) hb)
                have n2_ := Aside0.mk (below_step (by repeat (first | (with_reducible first | exact HB.out | apply below_alloc | apply pw_below_drewN | apply below_drew1 | refine below_set ?_ GE218.out) | exact HB.out)) hb)
                clear BK218
                clear HB
                have HO224 := n0_
                have BK218 := n1_
                have HB := n2_
                clear n0_ n1_ n2_
                (try clear hb)
                (try clear hb2)
                (try clear hk)
                (try clear hi)
                (try clear ho0)
                refine hK.out _ _ ⟨(blk_cell BK218.out 0).trans rfl, (blk_cell BK218.out 1).trans rfl, ((HB.out.cell (World.block_lt_of_cell? w _ hw219_0)).trans hw219_0)⟩ (fun hHeld => ?_)
                clear hK K
                refine norm_ (a' := ?_) ?_ ?_
                rotate_left
                · show Act.put _ (some 23) _ = _
                  simp only [Act.put, List.setIfInBounds_toArray, List.set_cons_zero, List.set_cons_succ, i64_w, i32_w]
                  rfl
                refine pure_ (i := 6) (N := some 17) (v := ?_) (a' := ?_) #[true, true, true, true, true, true, true, false, false, false, false, false, false, false] rfl rfl (any_of HT_.out (by kernel_rfl)) (fun _ _ _ h => h) (Or.inl ⟨by rfl, ?_⟩) ?_ ?_
                rotate_left
                · intro w'
                  go_simp
                  with_reducible rfl
                rotate_left
                · simp only [Act.put, List.setIfInBounds_toArray, List.set_cons_zero, List.set_cons_succ, i64_w, i32_w]
                  rfl
                refine pure_ (i := 7) (N := some 24) (v := ?_) (a' := ?_) #[true, true, true, true, true, true, true, true, false, false, false, false, false, false] rfl rfl (any_of HT_.out (by kernel_rfl)) (fun _ _ _ h => h) (Or.inl ⟨by rfl, ?_⟩) ?_ ?_
                rotate_left
                · intro w'
                  go_simp
                  with_reducible rfl
                rotate_left
                · simp only [Act.put, List.setIfInBounds_toArray, List.set_cons_zero, List.set_cons_succ, i64_w, i32_w]
                  rfl
                refine pure_ (i := 8) (N := some 25) (v := ?_) (a' := ?_) #[true, true, true, true, true, true, true, true, true, false, false, false, false, false] rfl rfl (any_of HT_.out (by kernel_rfl)) (fun _ _ _ h => h) (Or.inl ⟨by rfl, ?_⟩) ?_ ?_
                rotate_left
                · intro w'
                  go_simp
                  with_reducible rfl
                rotate_left
                · simp only [Act.put, List.setIfInBounds_toArray, List.set_cons_zero, List.set_cons_succ, i64_w, i32_w]
                  rfl
                refine pure_ (i := 9) (N := some 26) (v := ?_) (a' := ?_) #[true, true, true, true, true, true, true, true, true, true, false, false, false, false] rfl rfl (any_of HT_.out (by kernel_rfl)) (fun _ _ _ h => h) (Or.inl ⟨by rfl, ?_⟩) ?_ ?_
                rotate_left
                · intro w'
                  go_simp
                  with_reducible rfl
                rotate_left
                · simp only [Act.put, List.setIfInBounds_toArray, List.set_cons_zero, List.set_cons_succ, i64_w, i32_w]
                  rfl
                refine one_ (i := 10) (N := some 6) #[true, true, true, true, true, true, true, true, true, true, true, false, false, false] rfl rfl (one_of HT_.out (by kernel_rfl)) (by decide) (fun K hK => ?_)
                refine box_step ?hg (N := 6) ?hd (cs := #[.string (⟨#[]⟩ : ByteArray), .bool false]) (t := 25) ?hr ?_; (case hd => rfl); (case hg => rfl); (case hr => first | (go_simp; done) | (go_simp; rfl))
                intro gb226 hg w21 hbox hb
                have n0_ := Aside0.mk (Kd.R_below (by (with_reducible repeat (first | apply Kd.R_alloc | apply Kd.R_drewN | apply Kd.R_drew)); exact HO224.out) hb)
                have n1_ := Aside0.mk (blk_below (g := gb218) (o := .cells #[.string x219000_1, .bool x219001_1] 25 (0, 0)) (by (with_reducible repeat (first | refine blk_drewN ?_ _ | refine blk_drew ?_ | refine blk_alloc ?_ _)); exact BK218.out) hb)
                have n2_ := Aside0.mk (below_step (by repeat (first | (with_reducible first | exact HB.out | apply below_alloc | apply pw_below_drewN | apply below_drew1 | refine below_set ?_ GE218.out) | exact HB.out)) hb)
                have n3_ := Aside0.mk (hbox)
                have n4_ := Aside0.mk ((by rw [hg]; exact (below_size (by repeat (first | (with_reducible first | exact HB.out | apply below_alloc | apply pw_below_drewN | apply below_drew1 | refine below_set ?_ GE218.out) | exact HB.out))) : w.heap.size ≤ gb226))
                have n5_ := Aside0.mk ((by rw [hg]; exact (below_size (by repeat (first | (with_reducible first | exact HB.out | apply below_alloc | apply pw_below_drewN | apply below_drew1 | refine below_set ?_ GE218.out) | exact HB.out))) : w.heap.size ≤ gb226))
                have n6_ := Aside0.mk ((by rw [hg]; exact Nat.ne_of_lt (blk_lt (g := gb218) (o := .cells #[.string x219000_1, .bool x219001_1] 25 (0, 0)) (by (with_reducible repeat (first | refine blk_drewN ?_ _ | refine blk_drew ?_ | refine blk_alloc ?_ _)); exact BK218.out)) : gb218 ≠ gb226))
                have n7_ := Aside0.mk ((by rw [hg]; exact Nat.ne_of_gt (blk_lt (g := gb218) (o := .cells #[.string x219000_1, .bool x219001_1] 25 (0, 0)) (by (with_reducible repeat (first | refine blk_drewN ?_ _ | refine blk_drew ?_ | refine blk_alloc ?_ _)); exact BK218.out)) : gb226 ≠ gb218))
                clear HO224
                clear BK218
                clear HB
                have HO224 := n0_
                have BK218 := n1_
                have HB := n2_
                have BK226 := n3_
                have GW226 := n4_
                have GE226 := n5_
                have NB218_226 := n6_
                have NB226_218 := n7_
                clear n0_ n1_ n2_ n3_ n4_ n5_ n6_ n7_
                clear hb hbox hg
                refine hK.out _ _ ⟨(blk_cell BK218.out 0).trans rfl, (blk_cell BK218.out 1).trans rfl, ((HB.out.cell (World.block_lt_of_cell? w _ hw219_0)).trans hw219_0)⟩ (fun hHeld => ?_)
                clear hK K
                refine norm_ (a' := ?_) ?_ ?_
                rotate_left
                · show Act.put _ (some 6) _ = _
                  simp only [Act.put, List.setIfInBounds_toArray, List.set_cons_zero, List.set_cons_succ, i64_w, i32_w]
                  rfl
                exact norm_ (by simp only [putAll, Act.put, List.setIfInBounds_toArray, List.set_cons_zero, List.set_cons_succ]) (hCont (v223, gb226) _ ⟨hHeld, (by (with_reducible repeat (first | apply Kd.R_alloc | apply Kd.R_drewN | apply Kd.R_drew)); exact HO224.out), (by (with_reducible repeat (first | refine blk_drewN ?_ _ | refine blk_drew ?_ | refine blk_alloc ?_ _)); exact BK218.out), (by (with_reducible repeat (first | refine blk_drewN ?_ _ | refine blk_drew ?_ | refine blk_alloc ?_ _)); exact BK226.out), GW226.out, GE226.out, NB218_226.out, NB226_218.out, (by repeat (first | (with_reducible first | exact HB.out | apply below_alloc | apply pw_below_drewN | apply below_drew1 | refine below_set ?_ GE218.out | refine below_set ?_ GE226.out) | exact HB.out))⟩)
              · skip
                refine box_step ?hg (N := 6) ?hd (cs := #[.string (⟨#[]⟩ : ByteArray), .bool false]) (t := 25) ?hr ?_; (case hd => rfl); (case hg => rfl); (case hr => first | (go_simp; done) | (go_simp; rfl))
                intro gb226 hg w20 hbox hb
                have n0_ := Aside0.mk (blk_below (g := gb218) (o := .cells #[.string x219000_1, .bool x219001_1] 25 (0, 0)) (by (with_reducible repeat (first | refine blk_drewN ?_ _ | refine blk_drew ?_ | refine blk_alloc ?_ _)); exact BK218.out) hb)
                have n1_ := Aside0.mk (below_step (by repeat (first | (with_reducible first | exact HB.out | apply below_alloc | apply pw_below_drewN | apply below_drew1 | refine below_set ?_ GE218.out) | exact HB.out)) hb)
                have n2_ := Aside0.mk (hbox)
                have n3_ := Aside0.mk ((by rw [hg]; exact (below_size (by repeat (first | (with_reducible first | exact HB.out | apply below_alloc | apply pw_below_drewN | apply below_drew1 | refine below_set ?_ GE218.out) | exact HB.out))) : w.heap.size ≤ gb226))
                have n4_ := Aside0.mk ((by rw [hg]; exact (below_size (by repeat (first | (with_reducible first | exact HB.out | apply below_alloc | apply pw_below_drewN | apply below_drew1 | refine below_set ?_ GE218.out) | exact HB.out))) : w.heap.size ≤ gb226))
                have n5_ := Aside0.mk ((by rw [hg]; exact Nat.ne_of_lt (blk_lt (g := gb218) (o := .cells #[.string x219000_1, .bool x219001_1] 25 (0, 0)) (by (with_reducible repeat (first | refine blk_drewN ?_ _ | refine blk_drew ?_ | refine blk_alloc ?_ _)); exact BK218.out)) : gb218 ≠ gb226))
                have n6_ := Aside0.mk ((by rw [hg]; exact Nat.ne_of_gt (blk_lt (g := gb218) (o := .cells #[.string x219000_1, .bool x219001_1] 25 (0, 0)) (by (with_reducible repeat (first | refine blk_drewN ?_ _ | refine blk_drew ?_ | refine blk_alloc ?_ _)); exact BK218.out)) : gb226 ≠ gb218))
                clear BK218
                clear HB
                have BK218 := n0_
                have HB := n1_
                have BK226 := n2_
                have GW226 := n3_
                have GE226 := n4_
                have NB218_226 := n5_
                have NB226_218 := n6_
                clear n0_ n1_ n2_ n3_ n4_ n5_ n6_
                clear hb hbox hg
                refine hK.out _ _ ⟨(blk_cell BK218.out 0).trans rfl, (blk_cell BK218.out 1).trans rfl, ((HB.out.cell (World.block_lt_of_cell? w _ hw219_0)).trans hw219_0)⟩ (fun hHeld => ?_)
                clear hK K
                refine norm_ (a' := ?_) ?_ ?_
                rotate_left
                · show Act.put _ (some 6) _ = _
                  simp only [Act.put, List.setIfInBounds_toArray, List.set_cons_zero, List.set_cons_succ, i64_w, i32_w]
                  rfl
                refine one_ (i := 5) (N := some 23) #[true, true, true, true, true, true, false, false, false, false, true, false, false, false] rfl rfl (one_of HT_.out (by kernel_rfl)) (by decide) (fun K hK => ?_)
                refine goes_ Try.func10 (by kernel_rfl) rfl #[.agg #[.string x219000_1, .bool x219001_1], .string (rdOf ByteArray.empty l0 x5_1)] (by rfl) rfl rfl (by (try simp only [List.map_toArray, List.map_cons, List.map_nil]); first | done | rfl | (simp only [List.length_drop, List.length_take]; rfl)) ?_
                with_reducible refine (frame_Feed.calls x219000_1 x219001_1 (rdOf ByteArray.empty l0 x5_1) t220 t221 t222 t225 _ A8.out).mono ?_
                rintro e w21 ⟨v223, rfl, ho0, hb⟩
                refine ⟨_, rfl, ?_⟩
                have n0_ := Aside0.mk (Kd.R_lower ho0 (below_size (by repeat (first | (with_reducible first | exact HB.out | apply below_alloc | apply pw_below_drewN | apply below_drew1 | refine below_set ?_ GE218.out | refine below_set ?_ GE226.out) | exact HB.out))))
                have n1_ := Aside0.mk (blk_below (g := gb218) (o := .cells #[.string x219000_1, .bool x219001_1] 25 (0, 0)) (by (with_reducible repeat (first | refine blk_drewN ?_ _ | refine blk_drew ?_ | refine blk_alloc ?_ _)); exact BK218.out) hb)
                have n2_ := Aside0.mk (blk_below (g := gb226) (o := .cells #[.string (⟨#[]⟩ : ByteArray), .bool false] 25 (0, 0)) (by (with_reducible repeat (first | refine blk_drewN ?_ _ | refine blk_drew ?_ | refine blk_alloc ?_ _)); exact BK226.out) hb)
                have n3_ := Aside0.mk (below_step (by repeat (first | (with_reducible first | exact HB.out | apply below_alloc | apply pw_below_drewN | apply below_drew1 | refine below_set ?_ GE218.out | refine below_set ?_ GE226.out) | exact HB.out)) hb)
                clear BK218
                clear BK226
                clear HB
                have HO224 := n0_
                have BK218 := n1_
                have BK226 := n2_
                have HB := n3_
                clear n0_ n1_ n2_ n3_
                (try clear hb)
                (try clear hb2)
                (try clear hk)
                (try clear hi)
                (try clear ho0)
                refine hK.out _ _ ⟨(blk_cell BK218.out 0).trans rfl, (blk_cell BK218.out 1).trans rfl, ((HB.out.cell (World.block_lt_of_cell? w _ hw219_0)).trans hw219_0)⟩ (fun hHeld => ?_)
                clear hK K
                refine norm_ (a' := ?_) ?_ ?_
                rotate_left
                · show Act.put _ (some 23) _ = _
                  simp only [Act.put, List.setIfInBounds_toArray, List.set_cons_zero, List.set_cons_succ, i64_w, i32_w]
                  rfl
                refine pure_ (i := 6) (N := some 17) (v := ?_) (a' := ?_) #[true, true, true, true, true, true, true, false, false, false, true, false, false, false] rfl rfl (any_of HT_.out (by kernel_rfl)) (fun _ _ _ h => h) (Or.inl ⟨by rfl, ?_⟩) ?_ ?_
                rotate_left
                · intro w'
                  go_simp
                  with_reducible rfl
                rotate_left
                · simp only [Act.put, List.setIfInBounds_toArray, List.set_cons_zero, List.set_cons_succ, i64_w, i32_w]
                  rfl
                refine pure_ (i := 7) (N := some 24) (v := ?_) (a' := ?_) #[true, true, true, true, true, true, true, true, false, false, true, false, false, false] rfl rfl (any_of HT_.out (by kernel_rfl)) (fun _ _ _ h => h) (Or.inl ⟨by rfl, ?_⟩) ?_ ?_
                rotate_left
                · intro w'
                  go_simp
                  with_reducible rfl
                rotate_left
                · simp only [Act.put, List.setIfInBounds_toArray, List.set_cons_zero, List.set_cons_succ, i64_w, i32_w]
                  rfl
                refine pure_ (i := 8) (N := some 25) (v := ?_) (a' := ?_) #[true, true, true, true, true, true, true, true, true, false, true, false, false, false] rfl rfl (any_of HT_.out (by kernel_rfl)) (fun _ _ _ h => h) (Or.inl ⟨by rfl, ?_⟩) ?_ ?_
                rotate_left
                · intro w'
                  go_simp
                  with_reducible rfl
                rotate_left
                · simp only [Act.put, List.setIfInBounds_toArray, List.set_cons_zero, List.set_cons_succ, i64_w, i32_w]
                  rfl
                refine pure_ (i := 9) (N := some 26) (v := ?_) (a' := ?_) #[true, true, true, true, true, true, true, true, true, true, true, false, false, false] rfl rfl (any_of HT_.out (by kernel_rfl)) (fun _ _ _ h => h) (Or.inl ⟨by rfl, ?_⟩) ?_ ?_
                rotate_left
                · intro w'
                  go_simp
                  with_reducible rfl
                rotate_left
                · simp only [Act.put, List.setIfInBounds_toArray, List.set_cons_zero, List.set_cons_succ, i64_w, i32_w]
                  rfl
                exact norm_ (by simp only [putAll, Act.put, List.setIfInBounds_toArray, List.set_cons_zero, List.set_cons_succ]) (hCont (v223, gb226) _ ⟨hHeld, (by (with_reducible repeat (first | apply Kd.R_alloc | apply Kd.R_drewN | apply Kd.R_drew)); exact HO224.out), (by (with_reducible repeat (first | refine blk_drewN ?_ _ | refine blk_drew ?_ | refine blk_alloc ?_ _)); exact BK218.out), (by (with_reducible repeat (first | refine blk_drewN ?_ _ | refine blk_drew ?_ | refine blk_alloc ?_ _)); exact BK226.out), GW226.out, GE226.out, NB218_226.out, NB226_218.out, (by repeat (first | (with_reducible first | exact HB.out | apply below_alloc | apply pw_below_drewN | apply below_drew1 | refine below_set ?_ GE218.out | refine below_set ?_ GE226.out) | exact HB.out))⟩)
            rintro ⟨v223, gb226⟩ w22 ⟨hS_, h0_, h1_, h2_, h3_, h4_, h5_, h6_, h7_⟩
            have n0_ : Aside0 (Kd.R Kd.string 9 w22 w.heap.size (fun _ => True) v223 t222) := ⟨h0_⟩
            have n1_ : Aside0 (w22.heap[gb218]? = some (.cells #[.string x219000_1, .bool x219001_1] 25 (0, 0))) := ⟨h1_⟩
            have n2_ : Aside0 (w22.heap[gb226]? = some (.cells #[.string (⟨#[]⟩ : ByteArray), .bool false] 25 (0, 0))) := ⟨h2_⟩
            have n3_ : Aside0 (w.heap.size ≤ gb226) := ⟨h3_⟩
            have n4_ : Aside0 (w.heap.size ≤ gb226) := ⟨h4_⟩
            have n5_ : Aside0 (gb218 ≠ gb226) := ⟨h5_⟩
            have n6_ : Aside0 (gb226 ≠ gb218) := ⟨h6_⟩
            have n7_ : Aside0 (Below w.heap.size w w22) := ⟨h7_⟩
            clear BK218
            clear HB
            clear h0_ h1_ h2_ h3_ h4_ h5_ h6_ h7_
            have HO224 := n0_
            have BK218 := n1_
            have BK226 := n2_
            have GW226 := n3_
            have GE226 := n4_
            have NB218_226 := n5_
            have NB226_218 := n6_
            have HB := n7_
            clear n0_ n1_ n2_ n3_ n4_ n5_ n6_ n7_
            have hHeld : w22.cell? ⟨gb218, 0, none⟩ = some (.string x219000_1) ∧ w22.cell? ⟨gb218, 1, none⟩ = some (.bool x219001_1) ∧ w22.cell? (ad219.add (x5_1).toNat) = some (.string (rdOf ByteArray.empty l0 x5_1)) := hS_
            refine norm_ (a' := ?_) ?_ ?_
            rotate_left
            · simp only [putAll, Act.put, List.setIfInBounds_toArray, List.set_cons_zero, List.set_cons_succ]
              rfl
            refine one_ (i := 11) (N := none) #[true, true, true, true, true, true, true, true, true, true, true, true, false, false] rfl rfl (one_of HT_.out (by kernel_rfl)) (by decide) (fun K hK => ?_)
            have hs23 : w22.cell? ⟨gb226, 0, none⟩ = some (.string (⟨#[]⟩ : ByteArray)) := (blk_cell BK226.out 0).trans rfl
            have hfs23 := blk_frozen BK226.out 0
            have hns23_0 := NB218_226.out
            have hms23_0 := NB226_218.out
            have hs24 : w22.cell? ⟨gb226, 1, none⟩ = some (.bool false) := (blk_cell BK226.out 1).trans rfl
            have hfs24 := blk_frozen BK226.out 1
            have hns24_0 := NB218_226.out
            have hms24_0 := NB226_218.out
            refine skip_ (w1 := ?_) (by rfl) rfl ?_ ?_
            rotate_left
            · go_simp
              rfl
            refine hK.out _ _ ⟨((cell_far (p := ⟨gb226, _, none⟩) NB218_226.out _).trans (((cell_far (p := ⟨gb226, _, none⟩) NB218_226.out _).trans (hHeld.1)))), ((cell_far (p := ⟨gb226, _, none⟩) NB218_226.out _).trans (((cell_far (p := ⟨gb226, _, none⟩) NB218_226.out _).trans (hHeld.2.1)))), ((cell_far (p := ⟨gb226, _, none⟩) (by first | exact Nat.ne_of_lt (Nat.lt_of_lt_of_le (by have := World.block_lt_of_cell? _ _ hw219_0; first | rwa [add_block] at this | exact this) GW226.out) | (rw [add_block]; exact Nat.ne_of_lt (Nat.lt_of_lt_of_le (by have := World.block_lt_of_cell? _ _ hw219_0; first | rwa [add_block] at this | exact this) GW226.out)) | (show (Addr.add _ _).block ≠ _; rw [add_block]; exact Nat.ne_of_lt (Nat.lt_of_lt_of_le (by have := World.block_lt_of_cell? _ _ hw219_0; first | rwa [add_block] at this | exact this) GW226.out)) | (dsimp only; exact Nat.ne_of_lt (Nat.lt_of_lt_of_le (by have := World.block_lt_of_cell? _ _ hw219_0; first | rwa [add_block] at this | exact this) GW226.out))) _).trans (((cell_far (p := ⟨gb226, _, none⟩) (by first | exact Nat.ne_of_lt (Nat.lt_of_lt_of_le (by have := World.block_lt_of_cell? _ _ hw219_0; first | rwa [add_block] at this | exact this) GW226.out) | (rw [add_block]; exact Nat.ne_of_lt (Nat.lt_of_lt_of_le (by have := World.block_lt_of_cell? _ _ hw219_0; first | rwa [add_block] at this | exact this) GW226.out)) | (show (Addr.add _ _).block ≠ _; rw [add_block]; exact Nat.ne_of_lt (Nat.lt_of_lt_of_le (by have := World.block_lt_of_cell? _ _ hw219_0; first | rwa [add_block] at this | exact this) GW226.out)) | (dsimp only; exact Nat.ne_of_lt (Nat.lt_of_lt_of_le (by have := World.block_lt_of_cell? _ _ hw219_0; first | rwa [add_block] at this | exact this) GW226.out))) _).trans (hHeld.2.2))))⟩ (fun hHeld => ?_)
            clear hK K
            refine pure_ (i := 12) (N := some 7) (v := ?_) (a' := ?_) #[true, true, true, true, true, true, true, true, true, true, true, true, true, false] rfl rfl (any_of HT_.out (by kernel_rfl)) (fun _ _ _ h => h) (Or.inl ⟨by rfl, ?_⟩) ?_ ?_
            rotate_left
            · intro w'
              go_simp
              with_reducible rfl
            rotate_left
            · simp only [Act.put, List.setIfInBounds_toArray, List.set_cons_zero, List.set_cons_succ, i64_w, i32_w]
              rfl
            refine pure_ (i := 13) (N := some 8) (v := ?_) (a' := ?_) #[true, true, true, true, true, true, true, true, true, true, true, true, true, true] rfl rfl (any_of HT_.out (by kernel_rfl)) (fun _ _ _ h => h) (Or.inl ⟨by rfl, ?_⟩) ?_ ?_
            rotate_left
            · intro w'
              go_simp
              with_reducible rfl
            rotate_left
            · simp only [Act.put, List.setIfInBounds_toArray, List.set_cons_zero, List.set_cons_succ, i64_w, i32_w]
              rfl
            refine done_ (done_of HT_.out (by kernel_rfl)) ?_
            have hnb25 := NB226_218.out
            have hnc25 := NB218_226.out
            have hcz26_0 : w22.cell? ⟨gb226, 0, none⟩ = some (.string (⟨#[]⟩ : ByteArray)) := (blk_cell BK226.out 0).trans rfl
            have hcz26_1 : w22.cell? ⟨gb226, 1, none⟩ = some (.bool false) := (blk_cell BK226.out 1).trans rfl
            have hfz26_0 := blk_frozen BK226.out 0
            have hfz26_1 := blk_frozen BK226.out 1
            have hcz27_0 : w22.cell? ⟨gb218, 0, none⟩ = some (.string x219000_1) := (blk_cell BK218.out 0).trans rfl
            have hcz27_1 : w22.cell? ⟨gb218, 1, none⟩ = some (.bool x219001_1) := (blk_cell BK218.out 1).trans rfl
            have hfz27_0 := blk_frozen BK218.out 0
            have hfz27_1 := blk_frozen BK218.out 1
            try go_wp2
            go_roundg k1
            case measure => have := HK1.out; omega
            case rel => exact ⟨(wrap64 (x5_1 + 1)), (t220), (t221), (by first | rfl | (simp; done) | (simp [*]; done)), H', ⟨by have := HK1.out; omega⟩, ⟨by (with_reducible repeat (first | refine blk_drewN ?_ _ | refine blk_drew ?_ | refine blk_alloc ?_ _)); refine blk_put (cs := #[.string t220, .bool x219001_1]) ?_ 1 _ rfl; (with_reducible repeat (first | refine blk_drewN ?_ _ | refine blk_drew ?_ | refine blk_alloc ?_ _)); refine blk_put (cs := #[.string x219000_1, .bool x219001_1]) ?_ 0 _ rfl; (with_reducible repeat (first | refine blk_drewN ?_ _ | refine blk_drew ?_ | refine blk_alloc ?_ _)); refine blk_far ?_ NB218_226.out _; (with_reducible repeat (first | refine blk_drewN ?_ _ | refine blk_drew ?_ | refine blk_alloc ?_ _)); refine blk_far ?_ NB218_226.out _; (with_reducible repeat (first | refine blk_drewN ?_ _ | refine blk_drew ?_ | refine blk_alloc ?_ _)); exact BK218.out⟩, ⟨by repeat (first | (with_reducible first | exact HB.out | apply below_alloc | apply pw_below_drewN | apply below_drew1 | refine below_set ?_ GE218.out | refine below_set ?_ GE226.out) | exact HB.out)⟩⟩
        · rw [if_neg c7] at H
          exact absurd H (by simp)
      · rw [if_neg c6] at H
        have c6b0 : decide (x5_1 < (l0.length : Int)) = false := decide_eq_false c6
        clear c6
        obtain rfl := Option.some.inj H
        go_wp2
        go_ret
        exact ⟨by first | rfl | (simp [errW_none, errW_some] <;> rfl) | (simp [*, errW_none, errW_some] <;> rfl), by repeat (first | (with_reducible first | exact HB.out | apply below_alloc | apply pw_below_drewN | apply below_drew1 | refine below_set ?_ GE218.out) | exact HB.out)⟩

end Go.Proofs.Ytcepfdilbbbemaa.QFr
