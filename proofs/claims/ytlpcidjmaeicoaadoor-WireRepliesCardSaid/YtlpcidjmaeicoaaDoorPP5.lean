/- Part of the proof of the statement WireReplies, as a card; what is proved, and on which condition, stands at the head of YtlpcidjmaeicoaaDoorPP6 (texts QWix7, RepP, RightP, RefRepC, QWix2, QWix10, QWix14, QWix15) -/
import Derived.Test.YtlpcidjmaeicoaaDoorPP4
namespace Go.Proofs.YtlpcidjmaeicoaaDoor.QWi
open Go.RowKit Go.Proofs.YtlpcidjmaeicoaaDoorW.PrintWords Go.Proofs.YtlpcidjmaeicoaaDoorW.PrintLast Go.Proofs.YtlpcidjmaeicoaaDoorW.PrintMore
attribute [local go_sem] max2_int min2_int max_two min_two max_three min_three max_four min_four
set_option linter.unusedVariables false
set_option linter.unusedSimpArgs false
def wire_Reply.l0 : Nat → ByteArray → List (S74) → Int → Int → Option (ByteArray × Int)
  | 0, _, _, _, _ => none
  | k + 1, x4, x38, x39, x40 => if x40 < x39 then (if 0 ≤ x40 then (if x40 < (x38.length : Int) then ((wire_texts.f (([(rd_T74 x38 x40).f0, (rd_T74 x38 x40).f1] : List ByteArray))).bind fun t154 => (if x4.size + t154.size ≤ 9223372036854775807 then (wire_Reply.l0 k (x4 ++ t154) x38 x39 (wrap64 (x40 + 1))) else (none))) else (none)) else (none)) else (some (x4, 0))
def wire_Reply.f (k : Nat) (a0_0 : Int) (a0_1 : Int) (a0_2 : Int) (a0_3 : Int) (a0_4 : ByteArray) (a0_5 : Bool) (l0_6 : List (S74)) (a0_7 : Bool) : Option (ByteArray × Int) := (wire_mayReply.f a0_0 a0_1 a0_2 a0_3 a0_4 a0_5 l0_6 a0_7).bind fun t134 => (if t134 = true then ((wire_nums.f (([a0_0, a0_1, a0_2, a0_3] : List Int))).bind fun t138 => ((wire_texts.f (([a0_4] : List ByteArray))).bind fun t142 => (if t138.size + t142.size ≤ 9223372036854775807 then ((wire_flag.f a0_5).bind fun t143 => ((wire_flag.f a0_7).bind fun t144 => ((wire_nums.f (([t143, t144, (l0_6.length : Int)] : List Int))).bind fun t148 => (if (t138 ++ t142).size + t148.size ≤ 9223372036854775807 then (wire_Reply.l0 k ((t138 ++ t142) ++ t148) l0_6 (l0_6.length : Int) 0) else (none))))) else (none)))) else (some ((⟨#[]⟩ : ByteArray), 1)))
def wire_Reply.T3 : Bool × List (List Nat × List Nat) := (true, [([], []), ([0], [0]), ([], []), ([2], [2]), ([], []), ([4], [4]), ([], []), ([6], [6]), ([1, 3, 5, 7], [1, 3, 5, 7]), ([8], [8]), ([], []), ([10], [10]), ([11], [11]), ([12, 9], [12]), ([9, 13], [9, 13]), ([], []), ([15], [15]), ([16, 13], [16]), ([], []), ([18], [18]), ([19, 17], [19]), ([], []), ([21], [21]), ([22], [22]), ([17, 20, 23], [17, 20, 23]), ([24, 20], [24]), ([14, 25], [14, 25]), ([26, 25, 0, 1, 2, 3, 4, 5, 6, 7, 8, 9, 10, 11, 12, 13, 14, 15, 16, 17, 18, 19, 20, 21, 22, 23, 24, 25, 26], [26])])
def wire_Reply.B3 : List Nat := [0, 1, 0, 4, 0, 16, 0, 64, 255, 511, 0, 1024, 3072, 8191, 16383, 0, 32768, 114687, 0, 262144, 1032191, 0, 2097152, 6291456, 16760831, 33538047, 67108863, 134217727]
theorem wire_Reply.tab3 : rtab .any (opsOf Tryd.f15 3) = wire_Reply.T3 := by kernel_rfl
theorem wire_Reply.bits3 : waitsOk wire_Reply.T3.2 wire_Reply.B3 = true := by kernel_rfl
set_option maxHeartbeats 8000000 in
set_option maxRecDepth 100000 in
theorem wire_Reply.calls (k : Nat) (a0_0 : Int) (a0_1 : Int) (a0_2 : Int) (a0_3 : Int) (a0_4 : ByteArray) (a0_5 : Bool) (A0_6 : Option Addr) (c0_6 : Nat) (l0_6 : List (S74)) (a0_7 : Bool) (r1 : ByteArray) (r2 : Int) (w : World) (hr0_6 : Kd.C k74 w A0_6 l0_6.length l0_6) (hc0_6 : l0_6.length ≤ c0_6) (h : wire_Reply.f k a0_0 a0_1 a0_2 a0_3 a0_4 a0_5 l0_6 a0_7 = some (r1, r2)) :
    Calls Tryd.prog 15 #[.agg #[.int .i64 a0_0, .int .i64 a0_1, .int .i64 a0_2, .int .i64 a0_3, .string a0_4, .bool a0_5, .slice A0_6 l0_6.length c0_6, .bool a0_7]] w fun e w' => e = .returned (.tuple #[.string r1, .int .i64 r2]) ∧ Below w.heap.size w w' := by
  have hu41 := Tryd.underlying41
  have hu74 := Tryd.underlying74
  have HR0_6 := Aside0.mk hr0_6
  have HC0_6 := Aside0.mk hc0_6
  clear hr0_6 hc0_6
  have HB := Aside0.mk (Below.refl w.heap.size w)
  have H : ((wire_mayReply.f a0_0 a0_1 a0_2 a0_3 a0_4 a0_5 l0_6 a0_7).bind fun t134 => (if t134 = true then ((wire_nums.f (([a0_0, a0_1, a0_2, a0_3] : List Int))).bind fun t138 => ((wire_texts.f (([a0_4] : List ByteArray))).bind fun t142 => (if t138.size + t142.size ≤ 9223372036854775807 then ((wire_flag.f a0_5).bind fun t143 => ((wire_flag.f a0_7).bind fun t144 => ((wire_nums.f (([t143, t144, (l0_6.length : Int)] : List Int))).bind fun t148 => (if (t138 ++ t142).size + t148.size ≤ 9223372036854775807 then (wire_Reply.l0 k ((t138 ++ t142) ++ t148) l0_6 (l0_6.length : Int) 0) else (none))))) else (none)))) else (some ((⟨#[]⟩ : ByteArray), 1)))) = some (r1, r2) := h
  clear h
  replace H := Option.bind_eq_some_iff.mp H
  obtain ⟨t134, A20, H⟩ := H
  replace H : (if t134 = true then ((wire_nums.f (([a0_0, a0_1, a0_2, a0_3] : List Int))).bind fun t138 => ((wire_texts.f (([a0_4] : List ByteArray))).bind fun t142 => (if t138.size + t142.size ≤ 9223372036854775807 then ((wire_flag.f a0_5).bind fun t143 => ((wire_flag.f a0_7).bind fun t144 => ((wire_nums.f (([t143, t144, (l0_6.length : Int)] : List Int))).bind fun t148 => (if (t138 ++ t142).size + t148.size ≤ 9223372036854775807 then (wire_Reply.l0 k ((t138 ++ t142) ++ t148) l0_6 (l0_6.length : Int) 0) else (none))))) else (none)))) else (some ((⟨#[]⟩ : ByteArray), 1))) = some (r1, r2) := H
  have A2 := Aside0.mk A20
  clear A20
  by_cases c3 : t134 = true
  · subst c3
    have H1 : ((wire_nums.f (([a0_0, a0_1, a0_2, a0_3] : List Int))).bind fun t138 => ((wire_texts.f (([a0_4] : List ByteArray))).bind fun t142 => (if t138.size + t142.size ≤ 9223372036854775807 then ((wire_flag.f a0_5).bind fun t143 => ((wire_flag.f a0_7).bind fun t144 => ((wire_nums.f (([t143, t144, (l0_6.length : Int)] : List Int))).bind fun t148 => (if (t138 ++ t142).size + t148.size ≤ 9223372036854775807 then (wire_Reply.l0 k ((t138 ++ t142) ++ t148) l0_6 (l0_6.length : Int) 0) else (none))))) else (none)))) = some (r1, r2) := by rw [if_pos rfl] at H; exact H
    clear H
    have H := H1
    clear H1
    obtain ⟨y135, hy135⟩ : ∃ y_ : List Int, y_ = (([a0_0, a0_1, a0_2, a0_3] : List Int)) := ⟨_, rfl⟩
    replace H : ((wire_nums.f y135).bind fun t138 => ((wire_texts.f (([a0_4] : List ByteArray))).bind fun t142 => (if t138.size + t142.size ≤ 9223372036854775807 then ((wire_flag.f a0_5).bind fun t143 => ((wire_flag.f a0_7).bind fun t144 => ((wire_nums.f (([t143, t144, (l0_6.length : Int)] : List Int))).bind fun t148 => (if (t138 ++ t142).size + t148.size ≤ 9223372036854775807 then (wire_Reply.l0 k ((t138 ++ t142) ++ t148) l0_6 (l0_6.length : Int) 0) else (none))))) else (none)))) = some (r1, r2) := by first | (rw [hy135]; with_reducible exact H) | (have H2_ := (Option.bind_some _ _).symm.trans H; rw [hy135]; with_reducible exact H2_) | (have H2_ := (Option.bind_some _ _).symm.trans H; with_reducible exact H2_) | with_reducible exact H | (rw [hy135]; exact H) | exact H
    have Ny135 := Aside0.mk hy135
    clear hy135
    replace H := Option.bind_eq_some_iff.mp H
    obtain ⟨t138, A40, H⟩ := H
    replace H : ((wire_texts.f (([a0_4] : List ByteArray))).bind fun t142 => (if t138.size + t142.size ≤ 9223372036854775807 then ((wire_flag.f a0_5).bind fun t143 => ((wire_flag.f a0_7).bind fun t144 => ((wire_nums.f (([t143, t144, (l0_6.length : Int)] : List Int))).bind fun t148 => (if (t138 ++ t142).size + t148.size ≤ 9223372036854775807 then (wire_Reply.l0 k ((t138 ++ t142) ++ t148) l0_6 (l0_6.length : Int) 0) else (none))))) else (none))) = some (r1, r2) := H
    have A4 := Aside0.mk A40
    clear A40
    obtain ⟨y139, hy139⟩ : ∃ y_ : List ByteArray, y_ = (([a0_4] : List ByteArray)) := ⟨_, rfl⟩
    replace H : ((wire_texts.f y139).bind fun t142 => (if t138.size + t142.size ≤ 9223372036854775807 then ((wire_flag.f a0_5).bind fun t143 => ((wire_flag.f a0_7).bind fun t144 => ((wire_nums.f (([t143, t144, (l0_6.length : Int)] : List Int))).bind fun t148 => (if (t138 ++ t142).size + t148.size ≤ 9223372036854775807 then (wire_Reply.l0 k ((t138 ++ t142) ++ t148) l0_6 (l0_6.length : Int) 0) else (none))))) else (none))) = some (r1, r2) := by first | (rw [hy139]; with_reducible exact H) | (have H2_ := (Option.bind_some _ _).symm.trans H; rw [hy139]; with_reducible exact H2_) | (have H2_ := (Option.bind_some _ _).symm.trans H; with_reducible exact H2_) | with_reducible exact H | (rw [hy139]; exact H) | exact H
    have Ny139 := Aside0.mk hy139
    clear hy139
    replace H := Option.bind_eq_some_iff.mp H
    obtain ⟨t142, A50, H⟩ := H
    replace H : (if t138.size + t142.size ≤ 9223372036854775807 then ((wire_flag.f a0_5).bind fun t143 => ((wire_flag.f a0_7).bind fun t144 => ((wire_nums.f (([t143, t144, (l0_6.length : Int)] : List Int))).bind fun t148 => (if (t138 ++ t142).size + t148.size ≤ 9223372036854775807 then (wire_Reply.l0 k ((t138 ++ t142) ++ t148) l0_6 (l0_6.length : Int) 0) else (none))))) else (none)) = some (r1, r2) := H
    have A5 := Aside0.mk A50
    clear A50
    by_cases c6 : t138.size + t142.size ≤ 9223372036854775807
    · rw [if_pos c6] at H
      have c6b0 := eq_true c6
      have c6b1 : decide (t138.size + t142.size ≤ 9223372036854775807) = true := decide_eq_true c6
      try have c6b2 : (9223372036854775807 < t138.size + t142.size) = False := eq_false (Nat.not_lt.2 c6)
      replace H := Option.bind_eq_some_iff.mp H
      obtain ⟨t143, A70, H⟩ := H
      replace H : ((wire_flag.f a0_7).bind fun t144 => ((wire_nums.f (([t143, t144, (l0_6.length : Int)] : List Int))).bind fun t148 => (if (t138 ++ t142).size + t148.size ≤ 9223372036854775807 then (wire_Reply.l0 k ((t138 ++ t142) ++ t148) l0_6 (l0_6.length : Int) 0) else (none)))) = some (r1, r2) := H
      have A7 := Aside0.mk A70
      clear A70
      replace H := Option.bind_eq_some_iff.mp H
      obtain ⟨t144, A80, H⟩ := H
      replace H : ((wire_nums.f (([t143, t144, (l0_6.length : Int)] : List Int))).bind fun t148 => (if (t138 ++ t142).size + t148.size ≤ 9223372036854775807 then (wire_Reply.l0 k ((t138 ++ t142) ++ t148) l0_6 (l0_6.length : Int) 0) else (none))) = some (r1, r2) := H
      have A8 := Aside0.mk A80
      clear A80
      obtain ⟨y145, hy145⟩ : ∃ y_ : List Int, y_ = (([t143, t144, (l0_6.length : Int)] : List Int)) := ⟨_, rfl⟩
      replace H : ((wire_nums.f y145).bind fun t148 => (if (t138 ++ t142).size + t148.size ≤ 9223372036854775807 then (wire_Reply.l0 k ((t138 ++ t142) ++ t148) l0_6 (l0_6.length : Int) 0) else (none))) = some (r1, r2) := by first | (rw [hy145]; with_reducible exact H) | (have H2_ := (Option.bind_some _ _).symm.trans H; rw [hy145]; with_reducible exact H2_) | (have H2_ := (Option.bind_some _ _).symm.trans H; with_reducible exact H2_) | with_reducible exact H | (rw [hy145]; exact H) | exact H
      have Ny145 := Aside0.mk hy145
      clear hy145
      replace H := Option.bind_eq_some_iff.mp H
      obtain ⟨t148, A90, H⟩ := H
      replace H : (if (t138 ++ t142).size + t148.size ≤ 9223372036854775807 then (wire_Reply.l0 k ((t138 ++ t142) ++ t148) l0_6 (l0_6.length : Int) 0) else (none)) = some (r1, r2) := H
      have A9 := Aside0.mk A90
      clear A90
      by_cases c10 : (t138 ++ t142).size + t148.size ≤ 9223372036854775807
      · rw [if_pos c10] at H
        have c10b0 := eq_true c10
        have c10b1 : decide ((t138 ++ t142).size + t148.size ≤ 9223372036854775807) = true := decide_eq_true c10
        try have c10b2 : (9223372036854775807 < (t138 ++ t142).size + t148.size) = False := eq_false (Nat.not_lt.2 c10)
        try have c10b9 : (9223372036854775807 < t138.size + t142.size + t148.size) = False := by first | (rw [← ByteArray.size_append]; exact c10b2) | (have h9 := c10b2; simp only [ByteArray.size_append] at h9 ⊢; exact h9)
        have H' := Aside0.mk H
        clear H
        go_enter Tryd.func15, Tryd.ntmps15
        try go_wp2_with (first | ((with_reducible refine gate_dst (N := 1) rfl ?_); refine box_event ?hg (N := 1) ?hd (cs := #[.int .i64 a0_0, .int .i64 a0_1, .int .i64 a0_2, .int .i64 a0_3, .string a0_4, .bool a0_5, .slice A0_6 l0_6.length c0_6, .bool a0_7]) (t := 41) ?hr ?_; (case hd => rfl); (case hg => rfl); (case hr => first | (go_simp; done) | (go_simp; rfl)); intro gb133 hg w11 hbox hb; have n0_ := Aside0.mk (below_step (by repeat (first | (with_reducible first | exact HB.out | apply below_alloc | apply pw_below_drewN | apply below_drew1) | exact HB.out)) hb); have n1_ := Aside0.mk (hbox); have n2_ := Aside0.mk ((by rw [hg]; exact (below_size (by repeat (first | (with_reducible first | exact HB.out | apply below_alloc | apply pw_below_drewN | apply below_drew1) | exact HB.out))) : w.heap.size ≤ gb133)); have n3_ := Aside0.mk ((by rw [hg]; exact (below_size (by repeat (first | (with_reducible first | exact HB.out | apply below_alloc | apply pw_below_drewN | apply below_drew1) | exact HB.out))) : w.heap.size ≤ gb133)); clear HB; have HB := n0_; have BK133 := n1_; have GW133 := n2_; have GE133 := n3_; clear n0_ n1_ n2_ n3_; clear hb hbox hg; have hcz12_0 : w11.cell? ⟨gb133, 0, none⟩ = some (.int .i64 a0_0) := (blk_cell BK133.out 0).trans rfl; have hcz12_1 : w11.cell? ⟨gb133, 1, none⟩ = some (.int .i64 a0_1) := (blk_cell BK133.out 1).trans rfl; have hcz12_2 : w11.cell? ⟨gb133, 2, none⟩ = some (.int .i64 a0_2) := (blk_cell BK133.out 2).trans rfl; have hcz12_3 : w11.cell? ⟨gb133, 3, none⟩ = some (.int .i64 a0_3) := (blk_cell BK133.out 3).trans rfl; have hcz12_4 : w11.cell? ⟨gb133, 4, none⟩ = some (.string a0_4) := (blk_cell BK133.out 4).trans rfl; have hcz12_5 : w11.cell? ⟨gb133, 5, none⟩ = some (.bool a0_5) := (blk_cell BK133.out 5).trans rfl; have hcz12_6 : w11.cell? ⟨gb133, 6, none⟩ = some (.slice A0_6 l0_6.length c0_6) := (blk_cell BK133.out 6).trans rfl; have hcz12_7 : w11.cell? ⟨gb133, 7, none⟩ = some (.bool a0_7) := (blk_cell BK133.out 7).trans rfl; have hfz12_0 := blk_frozen BK133.out 0; have hfz12_1 := blk_frozen BK133.out 1; have hfz12_2 := blk_frozen BK133.out 2; have hfz12_3 := blk_frozen BK133.out 3; have hfz12_4 := blk_frozen BK133.out 4; have hfz12_5 := blk_frozen BK133.out 5; have hfz12_6 := blk_frozen BK133.out 6; have hfz12_7 := blk_frozen BK133.out 7) | ((with_reducible refine gate_callee (f := 32) rfl ?_); refine goesL_ (some 8) rfl rfl Tryd.func32 (by kernel_rfl) rfl #[.agg #[.int .i64 a0_0, .int .i64 a0_1, .int .i64 a0_2, .int .i64 a0_3, .string a0_4, .bool a0_5, .slice A0_6 l0_6.length c0_6, .bool a0_7]] rfl (by (try simp only [List.map_toArray, List.map_cons, List.map_nil]); first | done | rfl | (simp only [List.length_drop, List.length_take]; rfl)) ?_; (with_reducible refine (wire_mayReply.calls a0_0 a0_1 a0_2 a0_3 a0_4 a0_5 _ _ l0_6 a0_7 true _ ?side1 ?side2 A2.out).mono ?_); (case side1 => repeat (first | exact (Kd.C_below HR0_6.out HB.out) | (with_reducible refine Kd.C_alloc ?_ _) | (with_reducible refine Kd.C_drewN ?_ _) | (with_reducible refine Kd.C_drew ?_))); (case side2 => exact HC0_6.out); rintro e w13 ⟨rfl, hb⟩; refine ⟨_, rfl, ?_⟩; have n0_ := Aside0.mk (blk_below (g := gb133) (o := .cells #[.int .i64 a0_0, .int .i64 a0_1, .int .i64 a0_2, .int .i64 a0_3, .string a0_4, .bool a0_5, .slice A0_6 l0_6.length c0_6, .bool a0_7] 41 (0, 0)) (by (with_reducible repeat (first | refine blk_drewN ?_ _ | refine blk_drew ?_ | refine blk_alloc ?_ _)); exact BK133.out) hb); have n1_ := Aside0.mk (below_step (by repeat (first | (with_reducible first | exact HB.out | apply below_alloc | apply pw_below_drewN | apply below_drew1 | refine below_set ?_ GE133.out) | exact HB.out)) hb); clear BK133; clear HB; have BK133 := n0_; have HB := n1_; clear n0_ n1_; (try clear hb); (try clear hb2); (try clear hk); (try clear hi)))
        have n0_ := Aside0.mk (blk_drew BK133.out)
        have n1_ := Aside0.mk (below_drew1 HB.out)
        clear BK133
        clear HB
        have BK133 := n0_
        have HB := n1_
        clear n0_ n1_
        refine start_ (n := 28) (S := fun w' => w'.cell? ⟨gb133, 0, none⟩ = some (.int .i64 a0_0) ∧ w'.cell? ⟨gb133, 1, none⟩ = some (.int .i64 a0_1) ∧ w'.cell? ⟨gb133, 2, none⟩ = some (.int .i64 a0_2) ∧ w'.cell? ⟨gb133, 3, none⟩ = some (.int .i64 a0_3) ∧ w'.cell? ⟨gb133, 4, none⟩ = some (.string a0_4) ∧ w'.cell? ⟨gb133, 5, none⟩ = some (.bool a0_5) ∧ w'.cell? ⟨gb133, 6, none⟩ = some (.slice A0_6 l0_6.length c0_6) ∧ w'.cell? ⟨gb133, 7, none⟩ = some (.bool a0_7)) (ds := []) #[false, false, false, false, false, false, false, false, false, false, false, false, false, false, false, false, false, false, false, false, false, false, false, false, false, false, false, false] (by kernel_rfl) rfl rfl ⟨(blk_cell BK133.out 0).trans rfl, (blk_cell BK133.out 1).trans rfl, (blk_cell BK133.out 2).trans rfl, (blk_cell BK133.out 3).trans rfl, (blk_cell BK133.out 4).trans rfl, (blk_cell BK133.out 5).trans rfl, (blk_cell BK133.out 6).trans rfl, (blk_cell BK133.out 7).trans rfl⟩ (fun hHeld => ?_); refine with_tabW wire_Reply.tab3 wire_Reply.bits3 (fun HT_ HW_ => ?_)
        generalize w13.drew = w14 at BK133 HB hHeld ⊢
        refine pure_ (i := 0) (N := some 10) (v := ?_) (a' := ?_) #[true, false, false, false, false, false, false, false, false, false, false, false, false, false, false, false, false, false, false, false, false, false, false, false, false, false, false, false] rfl rfl (any_of HT_.out (by kernel_rfl)) (fun _ _ _ h => h) (Or.inl ⟨by rfl, ?_⟩) ?_ ?_
        rotate_left
        · intro w'
          go_simp
          with_reducible rfl
        rotate_left
        · simp only [Act.put, List.setIfInBounds_toArray, List.set_cons_zero, List.set_cons_succ, i64_w, i32_w]
          rfl
        refine pure_ (i := 2) (N := some 12) (v := ?_) (a' := ?_) #[true, false, true, false, false, false, false, false, false, false, false, false, false, false, false, false, false, false, false, false, false, false, false, false, false, false, false, false] rfl rfl (any_of HT_.out (by kernel_rfl)) (fun _ _ _ h => h) (Or.inl ⟨by rfl, ?_⟩) ?_ ?_
        rotate_left
        · intro w'
          go_simp
          with_reducible rfl
        rotate_left
        · simp only [Act.put, List.setIfInBounds_toArray, List.set_cons_zero, List.set_cons_succ, i64_w, i32_w]
          rfl
        refine pure_ (i := 4) (N := some 14) (v := ?_) (a' := ?_) #[true, false, true, false, true, false, false, false, false, false, false, false, false, false, false, false, false, false, false, false, false, false, false, false, false, false, false, false] rfl rfl (any_of HT_.out (by kernel_rfl)) (fun _ _ _ h => h) (Or.inl ⟨by rfl, ?_⟩) ?_ ?_
        rotate_left
        · intro w'
          go_simp
          with_reducible rfl
        rotate_left
        · simp only [Act.put, List.setIfInBounds_toArray, List.set_cons_zero, List.set_cons_succ, i64_w, i32_w]
          rfl
        refine pure_ (i := 6) (N := some 16) (v := ?_) (a' := ?_) #[true, false, true, false, true, false, true, false, false, false, false, false, false, false, false, false, false, false, false, false, false, false, false, false, false, false, false, false] rfl rfl (any_of HT_.out (by kernel_rfl)) (fun _ _ _ h => h) (Or.inl ⟨by rfl, ?_⟩) ?_ ?_
        rotate_left
        · intro w'
          go_simp
          with_reducible rfl
        rotate_left
        · simp only [Act.put, List.setIfInBounds_toArray, List.set_cons_zero, List.set_cons_succ, i64_w, i32_w]
          rfl
        refine pure_ (i := 10) (N := some 20) (v := ?_) (a' := ?_) #[true, false, true, false, true, false, true, false, false, false, true, false, false, false, false, false, false, false, false, false, false, false, false, false, false, false, false, false] rfl rfl (any_of HT_.out (by kernel_rfl)) (fun _ _ _ h => h) (Or.inl ⟨by rfl, ?_⟩) ?_ ?_
        rotate_left
        · intro w'
          go_simp
          with_reducible rfl
        rotate_left
        · simp only [Act.put, List.setIfInBounds_toArray, List.set_cons_zero, List.set_cons_succ, i64_w, i32_w]
          rfl
        refine pure_ (i := 15) (N := some 25) (v := ?_) (a' := ?_) #[true, false, true, false, true, false, true, false, false, false, true, false, false, false, false, true, false, false, false, false, false, false, false, false, false, false, false, false] rfl rfl (any_of HT_.out (by kernel_rfl)) (fun _ _ _ h => h) (Or.inl ⟨by rfl, ?_⟩) ?_ ?_
        rotate_left
        · intro w'
          go_simp
          with_reducible rfl
        rotate_left
        · simp only [Act.put, List.setIfInBounds_toArray, List.set_cons_zero, List.set_cons_succ, i64_w, i32_w]
          rfl
        refine pure_ (i := 18) (N := some 28) (v := ?_) (a' := ?_) #[true, false, true, false, true, false, true, false, false, false, true, false, false, false, false, true, false, false, true, false, false, false, false, false, false, false, false, false] rfl rfl (any_of HT_.out (by kernel_rfl)) (fun _ _ _ h => h) (Or.inl ⟨by rfl, ?_⟩) ?_ ?_
        rotate_left
        · intro w'
          go_simp
          with_reducible rfl
        rotate_left
        · simp only [Act.put, List.setIfInBounds_toArray, List.set_cons_zero, List.set_cons_succ, i64_w, i32_w]
          rfl
        refine pure_ (i := 21) (N := some 31) (v := ?_) (a' := ?_) #[true, false, true, false, true, false, true, false, false, false, true, false, false, false, false, true, false, false, true, false, false, true, false, false, false, false, false, false] rfl rfl (any_of HT_.out (by kernel_rfl)) (fun _ _ _ h => h) (Or.inl ⟨by rfl, ?_⟩) ?_ ?_
        rotate_left
        · intro w'
          go_simp
          with_reducible rfl
        rotate_left
        · simp only [Act.put, List.setIfInBounds_toArray, List.set_cons_zero, List.set_cons_succ, i64_w, i32_w]
          rfl
        refine take_ (i := 1) (N := some 11) (v := ?_) (a' := ?_) #[true, true, true, false, true, false, true, false, false, false, true, false, false, false, false, true, false, false, true, false, false, true, false, false, false, false, false, false] rfl rfl (take_ofW HT_.out HW_.out (by kernel_rfl)) (fun _ _ _ h => h) (Or.inl ⟨by rfl, ?_⟩) hHeld ?_ ?_
        rotate_left
        · rintro w' ⟨s0, s1, s2, s3, s4, s5, s6, s7⟩
          go_simp
          with_reducible rfl
        rotate_left
        · simp only [Act.put, List.setIfInBounds_toArray, List.set_cons_zero, List.set_cons_succ, i64_w, i32_w]
          rfl
        refine take_ (i := 3) (N := some 13) (v := ?_) (a' := ?_) #[true, true, true, true, true, false, true, false, false, false, true, false, false, false, false, true, false, false, true, false, false, true, false, false, false, false, false, false] rfl rfl (take_ofW HT_.out HW_.out (by kernel_rfl)) (fun _ _ _ h => h) (Or.inl ⟨by rfl, ?_⟩) hHeld ?_ ?_
        rotate_left
        · rintro w' ⟨s0, s1, s2, s3, s4, s5, s6, s7⟩
          go_simp
          with_reducible rfl
        rotate_left
        · simp only [Act.put, List.setIfInBounds_toArray, List.set_cons_zero, List.set_cons_succ, i64_w, i32_w]
          rfl
        refine take_ (i := 5) (N := some 15) (v := ?_) (a' := ?_) #[true, true, true, true, true, true, true, false, false, false, true, false, false, false, false, true, false, false, true, false, false, true, false, false, false, false, false, false] rfl rfl (take_ofW HT_.out HW_.out (by kernel_rfl)) (fun _ _ _ h => h) (Or.inl ⟨by rfl, ?_⟩) hHeld ?_ ?_
        rotate_left
        · rintro w' ⟨s0, s1, s2, s3, s4, s5, s6, s7⟩
          go_simp
          with_reducible rfl
        rotate_left
        · simp only [Act.put, List.setIfInBounds_toArray, List.set_cons_zero, List.set_cons_succ, i64_w, i32_w]
          rfl
        refine take_ (i := 7) (N := some 17) (v := ?_) (a' := ?_) #[true, true, true, true, true, true, true, true, false, false, true, false, false, false, false, true, false, false, true, false, false, true, false, false, false, false, false, false] rfl rfl (take_ofW HT_.out HW_.out (by kernel_rfl)) (fun _ _ _ h => h) (Or.inl ⟨by rfl, ?_⟩) hHeld ?_ ?_
        rotate_left
        · rintro w' ⟨s0, s1, s2, s3, s4, s5, s6, s7⟩
          go_simp
          with_reducible rfl
        rotate_left
        · simp only [Act.put, List.setIfInBounds_toArray, List.set_cons_zero, List.set_cons_succ, i64_w, i32_w]
          rfl
        refine take_ (i := 11) (N := some 21) (v := ?_) (a' := ?_) #[true, true, true, true, true, true, true, true, false, false, true, true, false, false, false, true, false, false, true, false, false, true, false, false, false, false, false, false] rfl rfl (take_ofW HT_.out HW_.out (by kernel_rfl)) (fun _ _ _ h => h) (Or.inl ⟨by rfl, ?_⟩) hHeld ?_ ?_
        rotate_left
        · rintro w' ⟨s0, s1, s2, s3, s4, s5, s6, s7⟩
          go_simp
          with_reducible rfl
        rotate_left
        · simp only [Act.put, List.setIfInBounds_toArray, List.set_cons_zero, List.set_cons_succ, i64_w, i32_w]
          rfl
        refine take_ (i := 16) (N := some 26) (v := ?_) (a' := ?_) #[true, true, true, true, true, true, true, true, false, false, true, true, false, false, false, true, true, false, true, false, false, true, false, false, false, false, false, false] rfl rfl (take_ofW HT_.out HW_.out (by kernel_rfl)) (fun _ _ _ h => h) (Or.inl ⟨by rfl, ?_⟩) hHeld ?_ ?_
        rotate_left
        · rintro w' ⟨s0, s1, s2, s3, s4, s5, s6, s7⟩
          go_simp
          with_reducible rfl
        rotate_left
        · simp only [Act.put, List.setIfInBounds_toArray, List.set_cons_zero, List.set_cons_succ, i64_w, i32_w]
          rfl
        refine take_ (i := 19) (N := some 29) (v := ?_) (a' := ?_) #[true, true, true, true, true, true, true, true, false, false, true, true, false, false, false, true, true, false, true, true, false, true, false, false, false, false, false, false] rfl rfl (take_ofW HT_.out HW_.out (by kernel_rfl)) (fun _ _ _ h => h) (Or.inl ⟨by rfl, ?_⟩) hHeld ?_ ?_
        rotate_left
        · rintro w' ⟨s0, s1, s2, s3, s4, s5, s6, s7⟩
          go_simp
          with_reducible rfl
        rotate_left
        · simp only [Act.put, List.setIfInBounds_toArray, List.set_cons_zero, List.set_cons_succ, i64_w, i32_w]
          rfl
        refine take_ (i := 22) (N := some 32) (v := ?_) (a' := ?_) #[true, true, true, true, true, true, true, true, false, false, true, true, false, false, false, true, true, false, true, true, false, true, true, false, false, false, false, false] rfl rfl (take_ofW HT_.out HW_.out (by kernel_rfl)) (fun _ _ _ h => h) (Or.inl ⟨by rfl, ?_⟩) hHeld ?_ ?_
        rotate_left
        · rintro w' ⟨s0, s1, s2, s3, s4, s5, s6, s7⟩
          go_simp
          with_reducible rfl
        rotate_left
        · simp only [Act.put, List.setIfInBounds_toArray, List.set_cons_zero, List.set_cons_succ, i64_w, i32_w]
          rfl
        refine pure_ (i := 23) (N := some 33) (v := ?_) (a' := ?_) #[true, true, true, true, true, true, true, true, false, false, true, true, false, false, false, true, true, false, true, true, false, true, true, true, false, false, false, false] rfl rfl (any_of HT_.out (by kernel_rfl)) (fun _ _ _ h => h) (Or.inl ⟨by rfl, ?_⟩) ?_ ?_
        rotate_left
        · intro w'
          go_simp
          with_reducible rfl
        rotate_left
        · simp only [Act.put, List.setIfInBounds_toArray, List.set_cons_zero, List.set_cons_succ, i64_w, i32_w]
          rfl
        refine join_ (σ := Value × Value) 8 #[true, true, true, true, true, true, true, true, true, true, true, true, true, false, false, true, true, false, true, true, false, true, true, true, false, false, false, false] (fun s_ => [(18, s_.1), (19, .string t138), (22, s_.2)]) (fun s_ w' => (w'.cell? ⟨gb133, 0, none⟩ = some (.int .i64 a0_0) ∧ w'.cell? ⟨gb133, 1, none⟩ = some (.int .i64 a0_1) ∧ w'.cell? ⟨gb133, 2, none⟩ = some (.int .i64 a0_2) ∧ w'.cell? ⟨gb133, 3, none⟩ = some (.int .i64 a0_3) ∧ w'.cell? ⟨gb133, 4, none⟩ = some (.string a0_4) ∧ w'.cell? ⟨gb133, 5, none⟩ = some (.bool a0_5) ∧ w'.cell? ⟨gb133, 6, none⟩ = some (.slice A0_6 l0_6.length c0_6) ∧ w'.cell? ⟨gb133, 7, none⟩ = some (.bool a0_7)) ∧ (Kd.R (Kd.int .i64) 3 w' w.heap.size (fun _ => True) s_.1 y135) ∧ (Kd.R Kd.string 9 w' w.heap.size (fun _ => True) s_.2 y139) ∧ (w'.heap[gb133]? = some (.cells #[.int .i64 a0_0, .int .i64 a0_1, .int .i64 a0_2, .int .i64 a0_3, .string a0_4, .bool a0_5, .slice A0_6 l0_6.length c0_6, .bool a0_7] 41 (0, 0))) ∧ (Below w.heap.size w w')) ?_ ?_
        rotate_left
        · intro hCont
          refine two_ (i := 8) (j := 12) (Ni := some 18) (Nj := some 22) #[true, true, true, true, true, true, true, true, true, false, true, true, false, false, false, true, true, false, true, true, false, true, true, true, false, false, false, false] #[true, true, true, true, true, true, true, true, false, false, true, true, true, false, false, true, true, false, true, true, false, true, true, true, false, false, false, false] rfl rfl rfl rfl (two_of HT_.out (by kernel_rfl)) (by decide) (by decide) (fun K hK => ?_) (fun K hK => ?_)
          · skip
            refine Kd.R_lit_step (Kd.int .i64) _ 3 ?hg (N := 18) ?hd (xs := ([a0_0, a0_1, a0_2, a0_3] : List Int)) (inner := [.int .i64 a0_0, .int .i64 a0_1, .int .i64 a0_2, .int .i64 a0_3]) (ok := fun _ => True) (okp := fun _ => True) ?hr ?hp (fun _ hk => hk) trivial (Below.refl _ _) (Nat.le_refl _) (by simp) ?_; (case hd => rfl); (case hg => rfl); (case hr => first | (go_simp; done) | (go_simp; rfl)); (case hp => exact (Reps.one (show Kd.M (Kd.int .i64) _ _ _ a0_0 [.int .i64 a0_0] from rfl) (Reps.one (show Kd.M (Kd.int .i64) _ _ _ a0_1 [.int .i64 a0_1] from rfl) (Reps.one (show Kd.M (Kd.int .i64) _ _ _ a0_2 [.int .i64 a0_2] from rfl) (Reps.one (show Kd.M (Kd.int .i64) _ _ _ a0_3 [.int .i64 a0_3] from rfl) (Reps.none _ _))))))
            intro v136 w15 ho16 hb hg_ hnew_
            clear hg_ hnew_
            (first | rw [← Ny135.out] at ho16 | (simp only [Int.reduceToNat] at ho16; rw [← Ny135.out] at ho16))
            have n0_ := Aside0.mk (Kd.R_lower ho16 (below_size (by repeat (first | (with_reducible first | exact HB.out | apply below_alloc | apply pw_below_drewN | apply below_drew1 | refine below_set ?_ GE133.out) | exact HB.out))))
            have n1_ := Aside0.mk (blk_below (g := gb133) (o := .cells #[.int .i64 a0_0, .int .i64 a0_1, .int .i64 a0_2, .int .i64 a0_3, .string a0_4, .bool a0_5, .slice A0_6 l0_6.length c0_6, .bool a0_7] 41 (0, 0)) (by (with_reducible repeat (first | refine blk_drewN ?_ _ | refine blk_drew ?_ | refine blk_alloc ?_ _)); exact BK133.out) hb)
            have n2_ := Aside0.mk (below_step (by repeat (first | (with_reducible first | exact HB.out | apply below_alloc | apply pw_below_drewN | apply below_drew1 | refine below_set ?_ GE133.out) | exact HB.out)) hb)
            clear BK133
            clear HB
            have HO137 := n0_
            have BK133 := n1_
            have HB := n2_
            clear n0_ n1_ n2_
            clear hb ho16
            obtain ⟨Ao17, co17, eo17⟩ := Kd.R_slice HO137.out
            (first | subst eo17 | (injection eo17 with f1_ f2_ f3_; have f4_ := f1_.symm; have f5_ := f3_.symm; clear f1_ f2_ f3_; subst f4_; subst f5_))
            refine hK.out _ _ ⟨(blk_cell BK133.out 0).trans rfl, (blk_cell BK133.out 1).trans rfl, (blk_cell BK133.out 2).trans rfl, (blk_cell BK133.out 3).trans rfl, (blk_cell BK133.out 4).trans rfl, (blk_cell BK133.out 5).trans rfl, (blk_cell BK133.out 6).trans rfl, (blk_cell BK133.out 7).trans rfl⟩ (fun hHeld => ?_)
            clear hK K
            refine norm_ (a' := ?_) ?_ ?_
            rotate_left
            · show Act.put _ (some 18) _ = _
              simp only [Act.put, List.setIfInBounds_toArray, List.set_cons_zero, List.set_cons_succ, i64_w, i32_w]
              rfl
            refine two_ (i := 9) (j := 12) (Ni := some 19) (Nj := some 22) #[true, true, true, true, true, true, true, true, true, true, true, true, false, false, false, true, true, false, true, true, false, true, true, true, false, false, false, false] #[true, true, true, true, true, true, true, true, true, false, true, true, true, false, false, true, true, false, true, true, false, true, true, true, false, false, false, false] rfl rfl rfl rfl (two_of HT_.out (by kernel_rfl)) (by decide) (by decide) (fun K hK => ?_) (fun K hK => ?_)
            · skip
              refine goes_ Tryd.func21 (by kernel_rfl) rfl #[.slice Ao17 y135.length co17] (by rfl) rfl rfl (by (try simp only [List.map_toArray, List.map_cons, List.map_nil]); first | done | rfl | (simp only [List.length_drop, List.length_take]; rfl)) ?_
              with_reducible refine (wire_nums.calls _ _ y135 t138 _ ?side1 ?side2 A4.out).mono ?_
              (case side1 => repeat (first | exact (Kd.R_reads' HO137.out).2.2 | (with_reducible refine Kd.C_alloc ?_ _) | (with_reducible refine Kd.C_drewN ?_ _) | (with_reducible refine Kd.C_drew ?_)))
              (case side2 => exact (Kd.R_reads' HO137.out).2.1)
              rintro e w18 ⟨rfl, hb⟩
              refine ⟨_, rfl, ?_⟩
              have n0_ := Aside0.mk (Kd.R_below (by (with_reducible repeat (first | apply Kd.R_alloc | apply Kd.R_drewN | apply Kd.R_drew)); exact HO137.out) hb)
              have n1_ := Aside0.mk (blk_below (g := gb133) (o := .cells #[.int .i64 a0_0, .int .i64 a0_1, .int .i64 a0_2, .int .i64 a0_3, .string a0_4, .bool a0_5, .slice A0_6 l0_6.length c0_6, .bool a0_7] 41 (0, 0)) (by (with_reducible repeat (first | refine blk_drewN ?_ _ | refine blk_drew ?_ | refine blk_alloc ?_ _)); exact BK133.out) hb)
              have n2_ := Aside0.mk (below_step (by repeat (first | (with_reducible first | exact HB.out | apply below_alloc | apply pw_below_drewN | apply below_drew1 | refine below_set ?_ GE133.out) | exact HB.out)) hb)
              clear HO137
              clear BK133
              clear HB
              have HO137 := n0_
              have BK133 := n1_
              have HB := n2_
              clear n0_ n1_ n2_
              (try clear hb)
              (try clear hb2)
              (try clear hk)
              (try clear hi)
              refine hK.out _ _ ⟨(blk_cell BK133.out 0).trans rfl, (blk_cell BK133.out 1).trans rfl, (blk_cell BK133.out 2).trans rfl, (blk_cell BK133.out 3).trans rfl, (blk_cell BK133.out 4).trans rfl, (blk_cell BK133.out 5).trans rfl, (blk_cell BK133.out 6).trans rfl, (blk_cell BK133.out 7).trans rfl⟩ (fun hHeld => ?_)
              clear hK K
              refine norm_ (a' := ?_) ?_ ?_
              rotate_left
              · show Act.put _ (some 19) _ = _
                simp only [Act.put, List.setIfInBounds_toArray, List.set_cons_zero, List.set_cons_succ, i64_w, i32_w]
                rfl
              refine one_ (i := 12) (N := some 22) #[true, true, true, true, true, true, true, true, true, true, true, true, true, false, false, true, true, false, true, true, false, true, true, true, false, false, false, false] rfl rfl (one_of HT_.out (by kernel_rfl)) (by decide) (fun K hK => ?_)
              refine Kd.R_lit_step Kd.string _ 9 ?hg (N := 22) ?hd (xs := ([a0_4] : List ByteArray)) (inner := [.string a0_4]) (ok := fun _ => True) (okp := fun _ => True) ?hr ?hp (fun _ hk => hk) trivial (Below.refl _ _) (Nat.le_refl _) (by simp) ?_; (case hd => rfl); (case hg => rfl); (case hr => first | (go_simp; done) | (go_simp; rfl)); (case hp => exact (Reps.one (show Kd.M Kd.string _ _ _ a0_4 [.string a0_4] from rfl) (Reps.none _ _)))
              intro v140 w19 ho20 hb hg_ hnew_
              clear hg_ hnew_
              (first | rw [← Ny139.out] at ho20 | (simp only [Int.reduceToNat] at ho20; rw [← Ny139.out] at ho20))
              have n0_ := Aside0.mk (Kd.R_below (by (with_reducible repeat (first | apply Kd.R_alloc | apply Kd.R_drewN | apply Kd.R_drew)); exact HO137.out) hb)
              have n1_ := Aside0.mk (Kd.R_lower ho20 (below_size (by repeat (first | (with_reducible first | exact HB.out | apply below_alloc | apply pw_below_drewN | apply below_drew1 | refine below_set ?_ GE133.out) | exact HB.out))))
              have n2_ := Aside0.mk (blk_below (g := gb133) (o := .cells #[.int .i64 a0_0, .int .i64 a0_1, .int .i64 a0_2, .int .i64 a0_3, .string a0_4, .bool a0_5, .slice A0_6 l0_6.length c0_6, .bool a0_7] 41 (0, 0)) (by (with_reducible repeat (first | refine blk_drewN ?_ _ | refine blk_drew ?_ | refine blk_alloc ?_ _)); exact BK133.out) hb)
              have n3_ := Aside0.mk (below_step (by repeat (first | (with_reducible first | exact HB.out | apply below_alloc | apply pw_below_drewN | apply below_drew1 | refine below_set ?_ GE133.out) | exact HB.out)) hb)
              clear HO137
              clear BK133
              clear HB
              have HO137 := n0_
              have HO141 := n1_
              have BK133 := n2_
              have HB := n3_
              clear n0_ n1_ n2_ n3_
              clear hb ho20
              refine hK.out _ _ ⟨(blk_cell BK133.out 0).trans rfl, (blk_cell BK133.out 1).trans rfl, (blk_cell BK133.out 2).trans rfl, (blk_cell BK133.out 3).trans rfl, (blk_cell BK133.out 4).trans rfl, (blk_cell BK133.out 5).trans rfl, (blk_cell BK133.out 6).trans rfl, (blk_cell BK133.out 7).trans rfl⟩ (fun hHeld => ?_)
              clear hK K
              refine norm_ (a' := ?_) ?_ ?_
              rotate_left
              · show Act.put _ (some 22) _ = _
                simp only [Act.put, List.setIfInBounds_toArray, List.set_cons_zero, List.set_cons_succ, i64_w, i32_w]
                rfl
              exact norm_ (by simp only [putAll, Act.put, List.setIfInBounds_toArray, List.set_cons_zero, List.set_cons_succ]) (hCont (.slice Ao17 y135.length co17, v140) _ ⟨hHeld, (by (with_reducible repeat (first | apply Kd.R_alloc | apply Kd.R_drewN | apply Kd.R_drew)); exact HO137.out), (by (with_reducible repeat (first | apply Kd.R_alloc | apply Kd.R_drewN | apply Kd.R_drew)); exact HO141.out), (by (with_reducible repeat (first | refine blk_drewN ?_ _ | refine blk_drew ?_ | refine blk_alloc ?_ _)); exact BK133.out), (by repeat (first | (with_reducible first | exact HB.out | apply below_alloc | apply pw_below_drewN | apply below_drew1 | refine below_set ?_ GE133.out) | exact HB.out))⟩)
            · skip
              refine Kd.R_lit_step Kd.string _ 9 ?hg (N := 22) ?hd (xs := ([a0_4] : List ByteArray)) (inner := [.string a0_4]) (ok := fun _ => True) (okp := fun _ => True) ?hr ?hp (fun _ hk => hk) trivial (Below.refl _ _) (Nat.le_refl _) (by simp) ?_; (case hd => rfl); (case hg => rfl); (case hr => first | (go_simp; done) | (go_simp; rfl)); (case hp => exact (Reps.one (show Kd.M Kd.string _ _ _ a0_4 [.string a0_4] from rfl) (Reps.none _ _)))
              intro v140 w17 ho18 hb hg_ hnew_
              clear hg_ hnew_
              (first | rw [← Ny139.out] at ho18 | (simp only [Int.reduceToNat] at ho18; rw [← Ny139.out] at ho18))
              have n0_ := Aside0.mk (Kd.R_below (by (with_reducible repeat (first | apply Kd.R_alloc | apply Kd.R_drewN | apply Kd.R_drew)); exact HO137.out) hb)
              have n1_ := Aside0.mk (Kd.R_lower ho18 (below_size (by repeat (first | (with_reducible first | exact HB.out | apply below_alloc | apply pw_below_drewN | apply below_drew1 | refine below_set ?_ GE133.out) | exact HB.out))))
              have n2_ := Aside0.mk (blk_below (g := gb133) (o := .cells #[.int .i64 a0_0, .int .i64 a0_1, .int .i64 a0_2, .int .i64 a0_3, .string a0_4, .bool a0_5, .slice A0_6 l0_6.length c0_6, .bool a0_7] 41 (0, 0)) (by (with_reducible repeat (first | refine blk_drewN ?_ _ | refine blk_drew ?_ | refine blk_alloc ?_ _)); exact BK133.out) hb)
              have n3_ := Aside0.mk (below_step (by repeat (first | (with_reducible first | exact HB.out | apply below_alloc | apply pw_below_drewN | apply below_drew1 | refine below_set ?_ GE133.out) | exact HB.out)) hb)
              clear HO137
              clear BK133
              clear HB
              have HO137 := n0_
              have HO141 := n1_
              have BK133 := n2_
              have HB := n3_
              clear n0_ n1_ n2_ n3_
              clear hb ho18
              obtain ⟨Ao19, co19, eo19⟩ := Kd.R_slice HO137.out
              (first | subst eo19 | (injection eo19 with f1_ f2_ f3_; have f4_ := f1_.symm; have f5_ := f3_.symm; clear f1_ f2_ f3_; subst f4_; subst f5_))
              refine hK.out _ _ ⟨(blk_cell BK133.out 0).trans rfl, (blk_cell BK133.out 1).trans rfl, (blk_cell BK133.out 2).trans rfl, (blk_cell BK133.out 3).trans rfl, (blk_cell BK133.out 4).trans rfl, (blk_cell BK133.out 5).trans rfl, (blk_cell BK133.out 6).trans rfl, (blk_cell BK133.out 7).trans rfl⟩ (fun hHeld => ?_)
              clear hK K
              refine norm_ (a' := ?_) ?_ ?_
              rotate_left
              · show Act.put _ (some 22) _ = _
                simp only [Act.put, List.setIfInBounds_toArray, List.set_cons_zero, List.set_cons_succ, i64_w, i32_w]
                rfl
              refine one_ (i := 9) (N := some 19) #[true, true, true, true, true, true, true, true, true, true, true, true, true, false, false, true, true, false, true, true, false, true, true, true, false, false, false, false] rfl rfl (one_of HT_.out (by kernel_rfl)) (by decide) (fun K hK => ?_)
              refine goes_ Tryd.func21 (by kernel_rfl) rfl #[.slice Ao19 y135.length co19] (by rfl) rfl rfl (by (try simp only [List.map_toArray, List.map_cons, List.map_nil]); first | done | rfl | (simp only [List.length_drop, List.length_take]; rfl)) ?_
              with_reducible refine (wire_nums.calls _ _ y135 t138 _ ?side1 ?side2 A4.out).mono ?_
              (case side1 => repeat (first | exact (Kd.R_reads' HO137.out).2.2 | (with_reducible refine Kd.C_alloc ?_ _) | (with_reducible refine Kd.C_drewN ?_ _) | (with_reducible refine Kd.C_drew ?_)))
              (case side2 => exact (Kd.R_reads' HO137.out).2.1)
              rintro e w20 ⟨rfl, hb⟩
              refine ⟨_, rfl, ?_⟩
              have n0_ := Aside0.mk (Kd.R_below (by (with_reducible repeat (first | apply Kd.R_alloc | apply Kd.R_drewN | apply Kd.R_drew)); exact HO137.out) hb)
              have n1_ := Aside0.mk (Kd.R_below (by (with_reducible repeat (first | apply Kd.R_alloc | apply Kd.R_drewN | apply Kd.R_drew)); exact HO141.out) hb)
              have n2_ := Aside0.mk (blk_below (g := gb133) (o := .cells #[.int .i64 a0_0, .int .i64 a0_1, .int .i64 a0_2, .int .i64 a0_3, .string a0_4, .bool a0_5, .slice A0_6 l0_6.length c0_6, .bool a0_7] 41 (0, 0)) (by (with_reducible repeat (first | refine blk_drewN ?_ _ | refine blk_drew ?_ | refine blk_alloc ?_ _)); exact BK133.out) hb)
              have n3_ := Aside0.mk (below_step (by repeat (first | (with_reducible first | exact HB.out | apply below_alloc | apply pw_below_drewN | apply below_drew1 | refine below_set ?_ GE133.out) | exact HB.out)) hb)
              clear HO137
              clear HO141
              clear BK133
              clear HB
              have HO137 := n0_
              have HO141 := n1_
              have BK133 := n2_
              have HB := n3_
              clear n0_ n1_ n2_ n3_
              (try clear hb)
              (try clear hb2)
              (try clear hk)
              (try clear hi)
              refine hK.out _ _ ⟨(blk_cell BK133.out 0).trans rfl, (blk_cell BK133.out 1).trans rfl, (blk_cell BK133.out 2).trans rfl, (blk_cell BK133.out 3).trans rfl, (blk_cell BK133.out 4).trans rfl, (blk_cell BK133.out 5).trans rfl, (blk_cell BK133.out 6).trans rfl, (blk_cell BK133.out 7).trans rfl⟩ (fun hHeld => ?_)
              clear hK K
              refine norm_ (a' := ?_) ?_ ?_
              rotate_left
              · show Act.put _ (some 19) _ = _
                simp only [Act.put, List.setIfInBounds_toArray, List.set_cons_zero, List.set_cons_succ, i64_w, i32_w]
                rfl
              exact norm_ (by simp only [putAll, Act.put, List.setIfInBounds_toArray, List.set_cons_zero, List.set_cons_succ]) (hCont (.slice Ao19 y135.length co19, v140) _ ⟨hHeld, (by (with_reducible repeat (first | apply Kd.R_alloc | apply Kd.R_drewN | apply Kd.R_drew)); exact HO137.out), (by (with_reducible repeat (first | apply Kd.R_alloc | apply Kd.R_drewN | apply Kd.R_drew)); exact HO141.out), (by (with_reducible repeat (first | refine blk_drewN ?_ _ | refine blk_drew ?_ | refine blk_alloc ?_ _)); exact BK133.out), (by repeat (first | (with_reducible first | exact HB.out | apply below_alloc | apply pw_below_drewN | apply below_drew1 | refine below_set ?_ GE133.out) | exact HB.out))⟩)
          · skip
            refine Kd.R_lit_step Kd.string _ 9 ?hg (N := 22) ?hd (xs := ([a0_4] : List ByteArray)) (inner := [.string a0_4]) (ok := fun _ => True) (okp := fun _ => True) ?hr ?hp (fun _ hk => hk) trivial (Below.refl _ _) (Nat.le_refl _) (by simp) ?_; (case hd => rfl); (case hg => rfl); (case hr => first | (go_simp; done) | (go_simp; rfl)); (case hp => exact (Reps.one (show Kd.M Kd.string _ _ _ a0_4 [.string a0_4] from rfl) (Reps.none _ _)))
            intro v140 w15 ho16 hb hg_ hnew_
            clear hg_ hnew_
            (first | rw [← Ny139.out] at ho16 | (simp only [Int.reduceToNat] at ho16; rw [← Ny139.out] at ho16))
            have n0_ := Aside0.mk (Kd.R_lower ho16 (below_size (by repeat (first | (with_reducible first | exact HB.out | apply below_alloc | apply pw_below_drewN | apply below_drew1 | refine below_set ?_ GE133.out) | exact HB.out))))
            have n1_ := Aside0.mk (blk_below (g := gb133) (o := .cells #[.int .i64 a0_0, .int .i64 a0_1, .int .i64 a0_2, .int .i64 a0_3, .string a0_4, .bool a0_5, .slice A0_6 l0_6.length c0_6, .bool a0_7] 41 (0, 0)) (by (with_reducible repeat (first | refine blk_drewN ?_ _ | refine blk_drew ?_ | refine blk_alloc ?_ _)); exact BK133.out) hb)
            have n2_ := Aside0.mk (below_step (by repeat (first | (with_reducible first | exact HB.out | apply below_alloc | apply pw_below_drewN | apply below_drew1 | refine below_set ?_ GE133.out) | exact HB.out)) hb)
            clear BK133
            clear HB
            have HO141 := n0_
            have BK133 := n1_
            have HB := n2_
            clear n0_ n1_ n2_
            clear hb ho16
            refine hK.out _ _ ⟨(blk_cell BK133.out 0).trans rfl, (blk_cell BK133.out 1).trans rfl, (blk_cell BK133.out 2).trans rfl, (blk_cell BK133.out 3).trans rfl, (blk_cell BK133.out 4).trans rfl, (blk_cell BK133.out 5).trans rfl, (blk_cell BK133.out 6).trans rfl, (blk_cell BK133.out 7).trans rfl⟩ (fun hHeld => ?_)
            clear hK K
            refine norm_ (a' := ?_) ?_ ?_
            rotate_left
            · show Act.put _ (some 22) _ = _
              simp only [Act.put, List.setIfInBounds_toArray, List.set_cons_zero, List.set_cons_succ, i64_w, i32_w]
              rfl
            refine one_ (i := 8) (N := some 18) #[true, true, true, true, true, true, true, true, true, false, true, true, true, false, false, true, true, false, true, true, false, true, true, true, false, false, false, false] rfl rfl (one_of HT_.out (by kernel_rfl)) (by decide) (fun K hK => ?_)
            refine Kd.R_lit_step (Kd.int .i64) _ 3 ?hg (N := 18) ?hd (xs := ([a0_0, a0_1, a0_2, a0_3] : List Int)) (inner := [.int .i64 a0_0, .int .i64 a0_1, .int .i64 a0_2, .int .i64 a0_3]) (ok := fun _ => True) (okp := fun _ => True) ?hr ?hp (fun _ hk => hk) trivial (Below.refl _ _) (Nat.le_refl _) (by simp) ?_; (case hd => rfl); (case hg => rfl); (case hr => first | (go_simp; done) | (go_simp; rfl)); (case hp => exact (Reps.one (show Kd.M (Kd.int .i64) _ _ _ a0_0 [.int .i64 a0_0] from rfl) (Reps.one (show Kd.M (Kd.int .i64) _ _ _ a0_1 [.int .i64 a0_1] from rfl) (Reps.one (show Kd.M (Kd.int .i64) _ _ _ a0_2 [.int .i64 a0_2] from rfl) (Reps.one (show Kd.M (Kd.int .i64) _ _ _ a0_3 [.int .i64 a0_3] from rfl) (Reps.none _ _))))))
            intro v136 w17 ho18 hb hg_ hnew_
            clear hg_ hnew_
            (first | rw [← Ny135.out] at ho18 | (simp only [Int.reduceToNat] at ho18; rw [← Ny135.out] at ho18))
            have n0_ := Aside0.mk (Kd.R_below (by (with_reducible repeat (first | apply Kd.R_alloc | apply Kd.R_drewN | apply Kd.R_drew)); exact HO141.out) hb)
            have n1_ := Aside0.mk (Kd.R_lower ho18 (below_size (by repeat (first | (with_reducible first | exact HB.out | apply below_alloc | apply pw_below_drewN | apply below_drew1 | refine below_set ?_ GE133.out) | exact HB.out))))
            have n2_ := Aside0.mk (blk_below (g := gb133) (o := .cells #[.int .i64 a0_0, .int .i64 a0_1, .int .i64 a0_2, .int .i64 a0_3, .string a0_4, .bool a0_5, .slice A0_6 l0_6.length c0_6, .bool a0_7] 41 (0, 0)) (by (with_reducible repeat (first | refine blk_drewN ?_ _ | refine blk_drew ?_ | refine blk_alloc ?_ _)); exact BK133.out) hb)
            have n3_ := Aside0.mk (below_step (by repeat (first | (with_reducible first | exact HB.out | apply below_alloc | apply pw_below_drewN | apply below_drew1 | refine below_set ?_ GE133.out) | exact HB.out)) hb)
            clear HO141
            clear BK133
            clear HB
            have HO141 := n0_
            have HO137 := n1_
            have BK133 := n2_
            have HB := n3_
            clear n0_ n1_ n2_ n3_
            clear hb ho18
            obtain ⟨Ao19, co19, eo19⟩ := Kd.R_slice HO137.out
            (first | subst eo19 | (injection eo19 with f1_ f2_ f3_; have f4_ := f1_.symm; have f5_ := f3_.symm; clear f1_ f2_ f3_; subst f4_; subst f5_))
            refine hK.out _ _ ⟨(blk_cell BK133.out 0).trans rfl, (blk_cell BK133.out 1).trans rfl, (blk_cell BK133.out 2).trans rfl, (blk_cell BK133.out 3).trans rfl, (blk_cell BK133.out 4).trans rfl, (blk_cell BK133.out 5).trans rfl, (blk_cell BK133.out 6).trans rfl, (blk_cell BK133.out 7).trans rfl⟩ (fun hHeld => ?_)
            clear hK K
            refine norm_ (a' := ?_) ?_ ?_
            rotate_left
            · show Act.put _ (some 18) _ = _
              simp only [Act.put, List.setIfInBounds_toArray, List.set_cons_zero, List.set_cons_succ, i64_w, i32_w]
              rfl
            refine one_ (i := 9) (N := some 19) #[true, true, true, true, true, true, true, true, true, true, true, true, true, false, false, true, true, false, true, true, false, true, true, true, false, false, false, false] rfl rfl (one_of HT_.out (by kernel_rfl)) (by decide) (fun K hK => ?_)
            refine goes_ Tryd.func21 (by kernel_rfl) rfl #[.slice Ao19 y135.length co19] (by rfl) rfl rfl (by (try simp only [List.map_toArray, List.map_cons, List.map_nil]); first | done | rfl | (simp only [List.length_drop, List.length_take]; rfl)) ?_
            with_reducible refine (wire_nums.calls _ _ y135 t138 _ ?side1 ?side2 A4.out).mono ?_
            (case side1 => repeat (first | exact (Kd.R_reads' HO137.out).2.2 | (with_reducible refine Kd.C_alloc ?_ _) | (with_reducible refine Kd.C_drewN ?_ _) | (with_reducible refine Kd.C_drew ?_)))
            (case side2 => exact (Kd.R_reads' HO137.out).2.1)
            rintro e w20 ⟨rfl, hb⟩
            refine ⟨_, rfl, ?_⟩
            have n0_ := Aside0.mk (Kd.R_below (by (with_reducible repeat (first | apply Kd.R_alloc | apply Kd.R_drewN | apply Kd.R_drew)); exact HO141.out) hb)
            have n1_ := Aside0.mk (Kd.R_below (by (with_reducible repeat (first | apply Kd.R_alloc | apply Kd.R_drewN | apply Kd.R_drew)); exact HO137.out) hb)
            have n2_ := Aside0.mk (blk_below (g := gb133) (o := .cells #[.int .i64 a0_0, .int .i64 a0_1, .int .i64 a0_2, .int .i64 a0_3, .string a0_4, .bool a0_5, .slice A0_6 l0_6.length c0_6, .bool a0_7] 41 (0, 0)) (by (with_reducible repeat (first | refine blk_drewN ?_ _ | refine blk_drew ?_ | refine blk_alloc ?_ _)); exact BK133.out) hb)
            have n3_ := Aside0.mk (below_step (by repeat (first | (with_reducible first | exact HB.out | apply below_alloc | apply pw_below_drewN | apply below_drew1 | refine below_set ?_ GE133.out) | exact HB.out)) hb)
            clear HO141
            clear HO137
            clear BK133
            clear HB
            have HO141 := n0_
            have HO137 := n1_
            have BK133 := n2_
            have HB := n3_
            clear n0_ n1_ n2_ n3_
            (try clear hb)
            (try clear hb2)
            (try clear hk)
            (try clear hi)
            refine hK.out _ _ ⟨(blk_cell BK133.out 0).trans rfl, (blk_cell BK133.out 1).trans rfl, (blk_cell BK133.out 2).trans rfl, (blk_cell BK133.out 3).trans rfl, (blk_cell BK133.out 4).trans rfl, (blk_cell BK133.out 5).trans rfl, (blk_cell BK133.out 6).trans rfl, (blk_cell BK133.out 7).trans rfl⟩ (fun hHeld => ?_)
            clear hK K
            refine norm_ (a' := ?_) ?_ ?_
            rotate_left
            · show Act.put _ (some 19) _ = _
              simp only [Act.put, List.setIfInBounds_toArray, List.set_cons_zero, List.set_cons_succ, i64_w, i32_w]
              rfl
            exact norm_ (by simp only [putAll, Act.put, List.setIfInBounds_toArray, List.set_cons_zero, List.set_cons_succ]) (hCont (.slice Ao19 y135.length co19, v140) _ ⟨hHeld, (by (with_reducible repeat (first | apply Kd.R_alloc | apply Kd.R_drewN | apply Kd.R_drew)); exact HO137.out), (by (with_reducible repeat (first | apply Kd.R_alloc | apply Kd.R_drewN | apply Kd.R_drew)); exact HO141.out), (by (with_reducible repeat (first | refine blk_drewN ?_ _ | refine blk_drew ?_ | refine blk_alloc ?_ _)); exact BK133.out), (by repeat (first | (with_reducible first | exact HB.out | apply below_alloc | apply pw_below_drewN | apply below_drew1 | refine below_set ?_ GE133.out) | exact HB.out))⟩)
        rintro ⟨v136, v140⟩ w21 ⟨hS_, h0_, h1_, h2_, h3_⟩
        have n0_ : Aside0 (Kd.R (Kd.int .i64) 3 w21 w.heap.size (fun _ => True) v136 y135) := ⟨h0_⟩
        have n1_ : Aside0 (Kd.R Kd.string 9 w21 w.heap.size (fun _ => True) v140 y139) := ⟨h1_⟩
        have n2_ : Aside0 (w21.heap[gb133]? = some (.cells #[.int .i64 a0_0, .int .i64 a0_1, .int .i64 a0_2, .int .i64 a0_3, .string a0_4, .bool a0_5, .slice A0_6 l0_6.length c0_6, .bool a0_7] 41 (0, 0))) := ⟨h2_⟩
        have n3_ : Aside0 (Below w.heap.size w w21) := ⟨h3_⟩
        clear BK133
        clear HB
        clear h0_ h1_ h2_ h3_
        have HO137 := n0_
        have HO141 := n1_
        have BK133 := n2_
        have HB := n3_
        clear n0_ n1_ n2_ n3_
        have hHeld : w21.cell? ⟨gb133, 0, none⟩ = some (.int .i64 a0_0) ∧ w21.cell? ⟨gb133, 1, none⟩ = some (.int .i64 a0_1) ∧ w21.cell? ⟨gb133, 2, none⟩ = some (.int .i64 a0_2) ∧ w21.cell? ⟨gb133, 3, none⟩ = some (.int .i64 a0_3) ∧ w21.cell? ⟨gb133, 4, none⟩ = some (.string a0_4) ∧ w21.cell? ⟨gb133, 5, none⟩ = some (.bool a0_5) ∧ w21.cell? ⟨gb133, 6, none⟩ = some (.slice A0_6 l0_6.length c0_6) ∧ w21.cell? ⟨gb133, 7, none⟩ = some (.bool a0_7) := hS_
        obtain ⟨Ao22, co22, eo22⟩ := Kd.R_slice HO141.out
        (first | subst eo22 | (injection eo22 with f1_ f2_ f3_; have f4_ := f1_.symm; have f5_ := f3_.symm; clear f1_ f2_ f3_; subst f4_; subst f5_))
        refine norm_ (a' := ?_) ?_ ?_
        rotate_left
        · simp only [putAll, Act.put, List.setIfInBounds_toArray, List.set_cons_zero, List.set_cons_succ]
          rfl
        refine one_ (i := 13) (N := some 23) #[true, true, true, true, true, true, true, true, true, true, true, true, true, true, false, true, true, false, true, true, false, true, true, true, false, false, false, false] rfl rfl (one_of HT_.out (by kernel_rfl)) (by decide) (fun K hK => ?_)
        refine goes_ Tryd.func22 (by kernel_rfl) rfl #[.slice Ao22 y139.length co22] (by rfl) rfl rfl (by (try simp only [List.map_toArray, List.map_cons, List.map_nil]); first | done | rfl | (simp only [List.length_drop, List.length_take]; rfl)) ?_
        with_reducible refine (wire_texts.calls _ _ y139 t142 _ ?side1 ?side2 A5.out).mono ?_
        (case side1 => repeat (first | exact (Kd.R_reads' HO141.out).2.2 | (with_reducible refine Kd.C_alloc ?_ _) | (with_reducible refine Kd.C_drewN ?_ _) | (with_reducible refine Kd.C_drew ?_)))
        (case side2 => exact (Kd.R_reads' HO141.out).2.1)
        rintro e w23 ⟨rfl, hb⟩
        refine ⟨_, rfl, ?_⟩
        have n0_ := Aside0.mk (Kd.R_below (by (with_reducible repeat (first | apply Kd.R_alloc | apply Kd.R_drewN | apply Kd.R_drew)); exact HO137.out) hb)
        have n1_ := Aside0.mk (Kd.R_below (by (with_reducible repeat (first | apply Kd.R_alloc | apply Kd.R_drewN | apply Kd.R_drew)); exact HO141.out) hb)
        have n2_ := Aside0.mk (blk_below (g := gb133) (o := .cells #[.int .i64 a0_0, .int .i64 a0_1, .int .i64 a0_2, .int .i64 a0_3, .string a0_4, .bool a0_5, .slice A0_6 l0_6.length c0_6, .bool a0_7] 41 (0, 0)) (by (with_reducible repeat (first | refine blk_drewN ?_ _ | refine blk_drew ?_ | refine blk_alloc ?_ _)); exact BK133.out) hb)
        have n3_ := Aside0.mk (below_step (by repeat (first | (with_reducible first | exact HB.out | apply below_alloc | apply pw_below_drewN | apply below_drew1 | refine below_set ?_ GE133.out) | exact HB.out)) hb)
        clear HO137
        clear HO141
        clear BK133
        clear HB
        have HO137 := n0_
        have HO141 := n1_
        have BK133 := n2_
        have HB := n3_
        clear n0_ n1_ n2_ n3_
        (try clear hb)
        (try clear hb2)
        (try clear hk)
        (try clear hi)
        refine hK.out _ _ ⟨(blk_cell BK133.out 0).trans rfl, (blk_cell BK133.out 1).trans rfl, (blk_cell BK133.out 2).trans rfl, (blk_cell BK133.out 3).trans rfl, (blk_cell BK133.out 4).trans rfl, (blk_cell BK133.out 5).trans rfl, (blk_cell BK133.out 6).trans rfl, (blk_cell BK133.out 7).trans rfl⟩ (fun hHeld => ?_)
        clear hK K
        refine norm_ (a' := ?_) ?_ ?_
        rotate_left
        · show Act.put _ (some 23) _ = _
          simp only [Act.put, List.setIfInBounds_toArray, List.set_cons_zero, List.set_cons_succ, i64_w, i32_w]
          rfl
        refine pure_ (i := 14) (N := some 24) (v := ?_) (a' := ?_) #[true, true, true, true, true, true, true, true, true, true, true, true, true, true, true, true, true, false, true, true, false, true, true, true, false, false, false, false] rfl rfl (any_of HT_.out (by kernel_rfl)) (fun _ _ _ h => h) (Or.inl ⟨by rfl, ?_⟩) ?_ ?_
        rotate_left
        · intro w'
          go_simp
          with_reducible rfl
        rotate_left
        · simp only [Act.put, List.setIfInBounds_toArray, List.set_cons_zero, List.set_cons_succ, i64_w, i32_w]
          rfl
        refine one_ (i := 17) (N := some 27) #[true, true, true, true, true, true, true, true, true, true, true, true, true, true, true, true, true, true, true, true, false, true, true, true, false, false, false, false] rfl rfl (one_of HT_.out (by kernel_rfl)) (by decide) (fun K hK => ?_)
        refine goes_ Tryd.func33 (by kernel_rfl) rfl #[.bool a0_5] (by rfl) rfl rfl (by (try simp only [List.map_toArray, List.map_cons, List.map_nil]); first | done | rfl | (simp only [List.length_drop, List.length_take]; rfl)) ?_
        with_reducible refine (wire_flag.calls a0_5 t143 _ A7.out).mono ?_
        rintro e w' ⟨rfl, ⟨nd, rfl⟩⟩
        refine ⟨_, rfl, ?_⟩
        refine hK.out _ _ ⟨(blk_cell BK133.out 0).trans rfl, (blk_cell BK133.out 1).trans rfl, (blk_cell BK133.out 2).trans rfl, (blk_cell BK133.out 3).trans rfl, (blk_cell BK133.out 4).trans rfl, (blk_cell BK133.out 5).trans rfl, (blk_cell BK133.out 6).trans rfl, (blk_cell BK133.out 7).trans rfl⟩ (fun hHeld => ?_)
        clear hK K
        refine norm_ (a' := ?_) ?_ ?_
        rotate_left
        · show Act.put _ (some 27) _ = _
          simp only [Act.put, List.setIfInBounds_toArray, List.set_cons_zero, List.set_cons_succ, i64_w, i32_w]
          rfl
        refine one_ (i := 20) (N := some 30) #[true, true, true, true, true, true, true, true, true, true, true, true, true, true, true, true, true, true, true, true, true, true, true, true, false, false, false, false] rfl rfl (one_of HT_.out (by kernel_rfl)) (by decide) (fun K hK => ?_)
        refine goes_ Tryd.func33 (by kernel_rfl) rfl #[.bool a0_7] (by rfl) rfl rfl (by (try simp only [List.map_toArray, List.map_cons, List.map_nil]); first | done | rfl | (simp only [List.length_drop, List.length_take]; rfl)) ?_
        with_reducible refine (wire_flag.calls a0_7 t144 _ A8.out).mono ?_
        rintro e w' ⟨rfl, ⟨nd, rfl⟩⟩
        refine ⟨_, rfl, ?_⟩
        refine hK.out _ _ ⟨(blk_cell BK133.out 0).trans rfl, (blk_cell BK133.out 1).trans rfl, (blk_cell BK133.out 2).trans rfl, (blk_cell BK133.out 3).trans rfl, (blk_cell BK133.out 4).trans rfl, (blk_cell BK133.out 5).trans rfl, (blk_cell BK133.out 6).trans rfl, (blk_cell BK133.out 7).trans rfl⟩ (fun hHeld => ?_)
        clear hK K
        refine norm_ (a' := ?_) ?_ ?_
        rotate_left
        · show Act.put _ (some 30) _ = _
          simp only [Act.put, List.setIfInBounds_toArray, List.set_cons_zero, List.set_cons_succ, i64_w, i32_w]
          rfl
        refine one_ (i := 24) (N := some 34) #[true, true, true, true, true, true, true, true, true, true, true, true, true, true, true, true, true, true, true, true, true, true, true, true, true, false, false, false] rfl rfl (one_of HT_.out (by kernel_rfl)) (by decide) (fun K hK => ?_)
        refine Kd.R_lit_step (Kd.int .i64) _ 3 ?hg (N := 34) ?hd (xs := ([t143, t144, (l0_6.length : Int)] : List Int)) (inner := [.int .i64 t143, .int .i64 t144, .int .i64 (l0_6.length : Int)]) (ok := fun _ => True) (okp := fun _ => True) ?hr ?hp (fun _ hk => hk) trivial (Below.refl _ _) (Nat.le_refl _) (by simp) ?_; (case hd => rfl); (case hg => rfl); (case hr => first | (go_simp; done) | (go_simp; rfl)); (case hp => exact (Reps.one (show Kd.M (Kd.int .i64) _ _ _ t143 [.int .i64 t143] from rfl) (Reps.one (show Kd.M (Kd.int .i64) _ _ _ t144 [.int .i64 t144] from rfl) (Reps.one (show Kd.M (Kd.int .i64) _ _ _ (l0_6.length : Int) [.int .i64 (l0_6.length : Int)] from rfl) (Reps.none _ _)))))
        intro v146 w24 ho25 hb hg_ hnew_
        clear hg_ hnew_
        (first | rw [← Ny145.out] at ho25 | (simp only [Int.reduceToNat] at ho25; rw [← Ny145.out] at ho25))
        have n0_ := Aside0.mk (Kd.R_elder' (by (with_reducible repeat (first | apply Kd.R_alloc | apply Kd.R_drewN | apply Kd.R_drew)); exact HO137.out) (Kd.R_base ho25) hb)
        have n1_ := Aside0.mk (Kd.R_below (by (with_reducible repeat (first | apply Kd.R_alloc | apply Kd.R_drewN | apply Kd.R_drew)); exact HO141.out) hb)
        have n2_ := Aside0.mk (Kd.R_lower (Kd.R_new' ho25 (Kd.R_lt (by (with_reducible repeat (first | apply Kd.R_alloc | apply Kd.R_drewN | apply Kd.R_drew)); exact HO137.out))) (below_size (by repeat (first | (with_reducible first | exact HB.out | apply below_alloc | apply pw_below_drewN | apply below_drew1 | refine below_set ?_ GE133.out) | exact HB.out))))
        have n3_ := Aside0.mk (blk_below (g := gb133) (o := .cells #[.int .i64 a0_0, .int .i64 a0_1, .int .i64 a0_2, .int .i64 a0_3, .string a0_4, .bool a0_5, .slice A0_6 l0_6.length c0_6, .bool a0_7] 41 (0, 0)) (by (with_reducible repeat (first | refine blk_drewN ?_ _ | refine blk_drew ?_ | refine blk_alloc ?_ _)); exact BK133.out) hb)
        have n4_ := Aside0.mk (below_step (by repeat (first | (with_reducible first | exact HB.out | apply below_alloc | apply pw_below_drewN | apply below_drew1 | refine below_set ?_ GE133.out) | exact HB.out)) hb)
        clear HO137
        clear HO141
        clear BK133
        clear HB
        have HO137 := n0_
        have HO141 := n1_
        have HO147 := n2_
        have BK133 := n3_
        have HB := n4_
        clear n0_ n1_ n2_ n3_ n4_
        clear hb ho25
        obtain ⟨Ao26, co26, eo26⟩ := Kd.R_slice HO147.out
        (first | subst eo26 | (injection eo26 with f1_ f2_ f3_; have f4_ := f1_.symm; have f5_ := f3_.symm; clear f1_ f2_ f3_; subst f4_; subst f5_))
        refine hK.out _ _ ⟨(blk_cell BK133.out 0).trans rfl, (blk_cell BK133.out 1).trans rfl, (blk_cell BK133.out 2).trans rfl, (blk_cell BK133.out 3).trans rfl, (blk_cell BK133.out 4).trans rfl, (blk_cell BK133.out 5).trans rfl, (blk_cell BK133.out 6).trans rfl, (blk_cell BK133.out 7).trans rfl⟩ (fun hHeld => ?_)
        clear hK K
        refine norm_ (a' := ?_) ?_ ?_
        rotate_left
        · show Act.put _ (some 34) _ = _
          simp only [Act.put, List.setIfInBounds_toArray, List.set_cons_zero, List.set_cons_succ, i64_w, i32_w]
          rfl
        refine one_ (i := 25) (N := some 35) #[true, true, true, true, true, true, true, true, true, true, true, true, true, true, true, true, true, true, true, true, true, true, true, true, true, true, false, false] rfl rfl (one_of HT_.out (by kernel_rfl)) (by decide) (fun K hK => ?_)
        refine goes_ Tryd.func21 (by kernel_rfl) rfl #[.slice Ao26 y145.length co26] (by rfl) rfl rfl (by (try simp only [List.map_toArray, List.map_cons, List.map_nil]); first | done | rfl | (simp only [List.length_drop, List.length_take]; rfl)) ?_
        with_reducible refine (wire_nums.calls _ _ y145 t148 _ ?side1 ?side2 A9.out).mono ?_
        (case side1 => repeat (first | exact (Kd.R_reads' HO147.out).2.2 | (with_reducible refine Kd.C_alloc ?_ _) | (with_reducible refine Kd.C_drewN ?_ _) | (with_reducible refine Kd.C_drew ?_)))
        (case side2 => exact (Kd.R_reads' HO147.out).2.1)
        rintro e w27 ⟨rfl, hb⟩
        refine ⟨_, rfl, ?_⟩
        have n0_ := Aside0.mk (Kd.R_below (by (with_reducible repeat (first | apply Kd.R_alloc | apply Kd.R_drewN | apply Kd.R_drew)); exact HO137.out) hb)
        have n1_ := Aside0.mk (Kd.R_below (by (with_reducible repeat (first | apply Kd.R_alloc | apply Kd.R_drewN | apply Kd.R_drew)); exact HO141.out) hb)
        have n2_ := Aside0.mk (Kd.R_below (by (with_reducible repeat (first | apply Kd.R_alloc | apply Kd.R_drewN | apply Kd.R_drew)); exact HO147.out) hb)
        have n3_ := Aside0.mk (blk_below (g := gb133) (o := .cells #[.int .i64 a0_0, .int .i64 a0_1, .int .i64 a0_2, .int .i64 a0_3, .string a0_4, .bool a0_5, .slice A0_6 l0_6.length c0_6, .bool a0_7] 41 (0, 0)) (by (with_reducible repeat (first | refine blk_drewN ?_ _ | refine blk_drew ?_ | refine blk_alloc ?_ _)); exact BK133.out) hb)
        have n4_ := Aside0.mk (below_step (by repeat (first | (with_reducible first | exact HB.out | apply below_alloc | apply pw_below_drewN | apply below_drew1 | refine below_set ?_ GE133.out) | exact HB.out)) hb)
        clear HO137
        clear HO141
        clear HO147
        clear BK133
        clear HB
        have HO137 := n0_
        have HO141 := n1_
        have HO147 := n2_
        have BK133 := n3_
        have HB := n4_
        clear n0_ n1_ n2_ n3_ n4_
        (try clear hb)
        (try clear hb2)
        (try clear hk)
        (try clear hi)
        refine hK.out _ _ ⟨(blk_cell BK133.out 0).trans rfl, (blk_cell BK133.out 1).trans rfl, (blk_cell BK133.out 2).trans rfl, (blk_cell BK133.out 3).trans rfl, (blk_cell BK133.out 4).trans rfl, (blk_cell BK133.out 5).trans rfl, (blk_cell BK133.out 6).trans rfl, (blk_cell BK133.out 7).trans rfl⟩ (fun hHeld => ?_)
        clear hK K
        refine norm_ (a' := ?_) ?_ ?_
        rotate_left
        · show Act.put _ (some 35) _ = _
          simp only [Act.put, List.setIfInBounds_toArray, List.set_cons_zero, List.set_cons_succ, i64_w, i32_w]
          rfl
        refine pure_ (i := 26) (N := some 36) (v := ?_) (a' := ?_) #[true, true, true, true, true, true, true, true, true, true, true, true, true, true, true, true, true, true, true, true, true, true, true, true, true, true, true, false] rfl rfl (any_of HT_.out (by kernel_rfl)) (fun _ _ _ h => h) (Or.inl ⟨by rfl, ?_⟩) ?_ ?_
        rotate_left
        · intro w'
          go_simp
          with_reducible rfl
        rotate_left
        · simp only [Act.put, List.setIfInBounds_toArray, List.set_cons_zero, List.set_cons_succ, i64_w, i32_w]
          rfl
        refine pure_ (i := 27) (N := some 4) (v := ?_) (a' := ?_) #[true, true, true, true, true, true, true, true, true, true, true, true, true, true, true, true, true, true, true, true, true, true, true, true, true, true, true, true] rfl rfl (any_of HT_.out (by kernel_rfl)) (fun _ _ _ h => h) (Or.inl ⟨by rfl, ?_⟩) ?_ ?_
        rotate_left
        · intro w'
          go_simp
          with_reducible rfl
        rotate_left
        · simp only [Act.put, List.setIfInBounds_toArray, List.set_cons_zero, List.set_cons_succ, i64_w, i32_w]
          rfl
        refine done_ (done_of HT_.out (by kernel_rfl)) ?_
        have hcz28_0 : w27.cell? ⟨gb133, 0, none⟩ = some (.int .i64 a0_0) := (blk_cell BK133.out 0).trans rfl
        have hcz28_1 : w27.cell? ⟨gb133, 1, none⟩ = some (.int .i64 a0_1) := (blk_cell BK133.out 1).trans rfl
        have hcz28_2 : w27.cell? ⟨gb133, 2, none⟩ = some (.int .i64 a0_2) := (blk_cell BK133.out 2).trans rfl
        have hcz28_3 : w27.cell? ⟨gb133, 3, none⟩ = some (.int .i64 a0_3) := (blk_cell BK133.out 3).trans rfl
        have hcz28_4 : w27.cell? ⟨gb133, 4, none⟩ = some (.string a0_4) := (blk_cell BK133.out 4).trans rfl
        have hcz28_5 : w27.cell? ⟨gb133, 5, none⟩ = some (.bool a0_5) := (blk_cell BK133.out 5).trans rfl
        have hcz28_6 : w27.cell? ⟨gb133, 6, none⟩ = some (.slice A0_6 l0_6.length c0_6) := (blk_cell BK133.out 6).trans rfl
        have hcz28_7 : w27.cell? ⟨gb133, 7, none⟩ = some (.bool a0_7) := (blk_cell BK133.out 7).trans rfl
        have hfz28_0 := blk_frozen BK133.out 0
        have hfz28_1 := blk_frozen BK133.out 1
        have hfz28_2 := blk_frozen BK133.out 2
        have hfz28_3 := blk_frozen BK133.out 3
        have hfz28_4 := blk_frozen BK133.out 4
        have hfz28_5 := blk_frozen BK133.out 5
        have hfz28_6 := blk_frozen BK133.out 6
        have hfz28_7 := blk_frozen BK133.out 7
        try go_wp2
        go_loopg [4, 40] k (fun kq v4 v40 w' => ∃ (x4_1 : ByteArray) (x40_1 : Int), v4 = .string x4_1 ∧ v40 = .int .i64 x40_1 ∧ Aside0 (wire_Reply.l0 kq x4_1 l0_6 (l0_6.length : Int) x40_1 = some (r1, r2)) ∧ Aside0 (kq ≤ k) ∧ Aside0 (w'.heap[gb133]? = some (.cells #[.int .i64 a0_0, .int .i64 a0_1, .int .i64 a0_2, .int .i64 a0_3, .string a0_4, .bool a0_5, (.slice A0_6 l0_6.length c0_6), .bool a0_7] 41 (0, 0))) ∧ Aside0 (Below w.heap.size w w'))
        case atStart => exact ⟨((t138 ++ t142) ++ t148), (0), (by first | rfl | (simp; done) | (simp [*]; done)), (by first | rfl | (simp; done) | (simp [*]; done)), H', ⟨Nat.le_refl _⟩, ⟨by (with_reducible repeat (first | refine blk_drewN ?_ _ | refine blk_drew ?_ | refine blk_alloc ?_ _)); exact BK133.out⟩, ⟨by repeat (first | (with_reducible first | exact HB.out | apply below_alloc | apply pw_below_drewN | apply below_drew1 | refine below_set ?_ GE133.out) | exact HB.out)⟩⟩
        case round =>
          clear H'
          try clear c1
          try clear c2
          try clear p2
          try clear c3
          try clear c6
          try clear c6b0
          try clear c6b1
          try clear c6b2
          try clear c10
          try clear c10b0
          try clear c10b1
          try clear c10b2
          try clear c15
          try clear c21
          try clear c22
          try clear hcz12_0
          try clear hcz12_1
          try clear hcz12_2
          try clear hcz12_3
          try clear hcz12_4
          try clear hcz12_5
          try clear hcz12_6
          try clear hcz12_7
          try clear hcz28_0
          try clear hcz28_1
          try clear hcz28_2
          try clear hcz28_3
          try clear hcz28_4
          try clear hcz28_5
          try clear hcz28_6
          try clear hcz28_7
          try clear hfz12_0
          try clear hfz12_1
          try clear hfz12_2
          try clear hfz12_3
          try clear hfz12_4
          try clear hfz12_5
          try clear hfz12_6
          try clear hfz12_7
          try clear hfz28_0
          try clear hfz28_1
          try clear hfz28_2
          try clear hfz28_3
          try clear hfz28_4
          try clear hfz28_5
          try clear hfz28_6
          try clear hfz28_7
          obtain ⟨x4_1, x40_1, rfl, rfl, HA, HK1, BK133, HB⟩ := hrel
          cases gk with
          | zero => exact absurd HA.out (by simp [wire_Reply.l0])
          | succ k1 =>
            have H := HA.out
            clear HA
            simp only [wire_Reply.l0] at H
            by_cases c29 : x40_1 < (l0_6.length : Int)
            · rw [if_pos c29] at H
              have c29b0 : decide (x40_1 < (l0_6.length : Int)) = true := decide_eq_true c29
              clear c29
              by_cases c30 : 0 ≤ x40_1
              · rw [if_pos c30] at H
                have c30b0 : decide (0 ≤ x40_1) = true := decide_eq_true c30
                clear c30
                by_cases c31 : x40_1 < (l0_6.length : Int)
                · rw [if_pos c31] at H
                  have c31b0 : decide (x40_1 < (l0_6.length : Int)) = true := decide_eq_true c31
                  clear c31
                  obtain ⟨y151, hy151⟩ : ∃ y_ : List ByteArray, y_ = (([(rd_T74 l0_6 x40_1).f0, (rd_T74 l0_6 x40_1).f1] : List ByteArray)) := ⟨_, rfl⟩
                  replace H : ((wire_texts.f y151).bind fun t154 => (if x4_1.size + t154.size ≤ 9223372036854775807 then (wire_Reply.l0 k1 (x4_1 ++ t154) l0_6 (l0_6.length : Int) (wrap64 (x40_1 + 1))) else (none))) = some (r1, r2) := by first | (rw [hy151]; with_reducible exact H) | (have H2_ := (Option.bind_some _ _).symm.trans H; rw [hy151]; with_reducible exact H2_) | (have H2_ := (Option.bind_some _ _).symm.trans H; with_reducible exact H2_) | with_reducible exact H | (rw [hy151]; exact H) | exact H
                  have Ny151 := Aside0.mk hy151
                  clear hy151
                  replace H := Option.bind_eq_some_iff.mp H
                  obtain ⟨t154, A320, H⟩ := H
                  replace H : (if x4_1.size + t154.size ≤ 9223372036854775807 then (wire_Reply.l0 k1 (x4_1 ++ t154) l0_6 (l0_6.length : Int) (wrap64 (x40_1 + 1))) else (none)) = some (r1, r2) := H
                  have A32 := Aside0.mk A320
                  clear A320
                  by_cases c33 : x4_1.size + t154.size ≤ 9223372036854775807
                  · rw [if_pos c33] at H
                    have c33b0 := eq_true c33
                    have c33b1 : decide (x4_1.size + t154.size ≤ 9223372036854775807) = true := decide_eq_true c33
                    try have c33b2 : (9223372036854775807 < x4_1.size + t154.size) = False := eq_false (Nat.not_lt.2 c33)
                    have H' := Aside0.mk H
                    clear H
                    have p149 : 0 ≤ (x40_1 : Int) := of_decide_eq_true (by first | (with_reducible assumption) | assumption)
                    have q149 : x40_1 < (l0_6.length : Int) := of_decide_eq_true (by first | (with_reducible assumption) | assumption)
                    obtain ⟨ad149, e149, hx149_0, hx149_1⟩ := at_T74 HR0_6.out x40_1 p149 q149
                    cases e149
                    replace hx149_0 := (HB.out.cell (World.block_lt_of_cell? w _ hx149_0)).trans hx149_0
                    replace hx149_1 := (HB.out.cell (World.block_lt_of_cell? w _ hx149_1)).trans hx149_1
                    replace p149 := eq_true p149
                    replace q149 := eq_true q149
                    go_wp2_with (first | ((with_reducible refine gate_dst (N := 6) rfl ?_); refine box_event ?hg (N := 6) ?hd (cs := #[.string (⟨#[]⟩ : ByteArray), .string (⟨#[]⟩ : ByteArray)]) (t := 74) ?hr ?_; (case hd => rfl); (case hg => rfl); (case hr => first | (go_simp; done) | (go_simp; rfl)); intro gb150 hg w34 hbox hb; have n0_ := Aside0.mk (blk_below (g := gb133) (o := .cells #[.int .i64 a0_0, .int .i64 a0_1, .int .i64 a0_2, .int .i64 a0_3, .string a0_4, .bool a0_5, .slice (some ad149) l0_6.length c0_6, .bool a0_7] 41 (0, 0)) (by (with_reducible repeat (first | refine blk_drewN ?_ _ | refine blk_drew ?_ | refine blk_alloc ?_ _)); exact BK133.out) hb); have n1_ := Aside0.mk (below_step (by repeat (first | (with_reducible first | exact HB.out | apply below_alloc | apply pw_below_drewN | apply below_drew1 | refine below_set ?_ GE133.out) | exact HB.out)) hb); have n2_ := Aside0.mk (hbox); have n3_ := Aside0.mk ((by rw [hg]; exact (below_size (by repeat (first | (with_reducible first | exact HB.out | apply below_alloc | apply pw_below_drewN | apply below_drew1 | refine below_set ?_ GE133.out) | exact HB.out))) : w.heap.size ≤ gb150)); have n4_ := Aside0.mk ((by rw [hg]; exact (below_size (by repeat (first | (with_reducible first | exact HB.out | apply below_alloc | apply pw_below_drewN | apply below_drew1 | refine below_set ?_ GE133.out) | exact HB.out))) : w.heap.size ≤ gb150)); have n5_ := Aside0.mk ((by rw [hg]; exact Nat.ne_of_lt (blk_lt (g := gb133) (o := .cells #[.int .i64 a0_0, .int .i64 a0_1, .int .i64 a0_2, .int .i64 a0_3, .string a0_4, .bool a0_5, .slice (some ad149) l0_6.length c0_6, .bool a0_7] 41 (0, 0)) (by (with_reducible repeat (first | refine blk_drewN ?_ _ | refine blk_drew ?_ | refine blk_alloc ?_ _)); exact BK133.out)) : gb133 ≠ gb150)); have n6_ := Aside0.mk ((by rw [hg]; exact Nat.ne_of_gt (blk_lt (g := gb133) (o := .cells #[.int .i64 a0_0, .int .i64 a0_1, .int .i64 a0_2, .int .i64 a0_3, .string a0_4, .bool a0_5, .slice (some ad149) l0_6.length c0_6, .bool a0_7] 41 (0, 0)) (by (with_reducible repeat (first | refine blk_drewN ?_ _ | refine blk_drew ?_ | refine blk_alloc ?_ _)); exact BK133.out)) : gb150 ≠ gb133)); clear BK133; clear HB; have BK133 := n0_; have HB := n1_; have BK150 := n2_; have GW150 := n3_; have GE150 := n4_; have NB133_150 := n5_; have NB150_133 := n6_; clear n0_ n1_ n2_ n3_ n4_ n5_ n6_; clear hb hbox hg; have hnb35 := NB150_133.out; have hnc35 := NB133_150.out; have hcz36_0 : w34.cell? ⟨gb150, 0, none⟩ = some (.string (⟨#[]⟩ : ByteArray)) := (blk_cell BK150.out 0).trans rfl; have hcz36_1 : w34.cell? ⟨gb150, 1, none⟩ = some (.string (⟨#[]⟩ : ByteArray)) := (blk_cell BK150.out 1).trans rfl; have hfz36_0 := blk_frozen BK150.out 0; have hfz36_1 := blk_frozen BK150.out 1) | ((with_reducible refine gate_dst (N := 49) rfl ?_); refine Kd.R_lit Kd.string _ 9 ?hg (N := 49) ?hd (xs := ([(rd_T74 l0_6 x40_1).f0, (rd_T74 l0_6 x40_1).f1] : List ByteArray)) (inner := [.string ((rd_T74 l0_6 x40_1).f0), .string ((rd_T74 l0_6 x40_1).f1)]) (ok := fun _ => True) (okp := fun _ => True) ?hr ?hp (fun _ hk => hk) trivial (Below.refl _ _) (Nat.le_refl _) (by simp) ?_; (case hd => rfl); (case hg => rfl); (case hr => first | (go_simp; done) | (go_simp; rfl)); (case hp => exact (Reps.one (show Kd.M Kd.string _ _ _ ((rd_T74 l0_6 x40_1).f0) [.string ((rd_T74 l0_6 x40_1).f0)] from rfl) (Reps.one (show Kd.M Kd.string _ _ _ ((rd_T74 l0_6 x40_1).f1) [.string ((rd_T74 l0_6 x40_1).f1)] from rfl) (Reps.none _ _)))); intro v152 w37 ho38 hb hg_ hnew_; clear hg_ hnew_; (first | rw [← Ny151.out] at ho38 | (simp only [Int.reduceToNat] at ho38; rw [← Ny151.out] at ho38)); have n0_ := Aside0.mk (Kd.R_lower ho38 (below_size (by repeat (first | (with_reducible first | exact HB.out | apply below_alloc | apply pw_below_drewN | apply below_drew1 | refine below_set ?_ GE133.out | refine below_set ?_ GE150.out) | exact HB.out)))); have n1_ := Aside0.mk (blk_below (g := gb133) (o := .cells #[.int .i64 a0_0, .int .i64 a0_1, .int .i64 a0_2, .int .i64 a0_3, .string a0_4, .bool a0_5, .slice (some ad149) l0_6.length c0_6, .bool a0_7] 41 (0, 0)) (by (with_reducible repeat (first | refine blk_drewN ?_ _ | refine blk_drew ?_ | refine blk_alloc ?_ _)); refine blk_far ?_ NB133_150.out _; (with_reducible repeat (first | refine blk_drewN ?_ _ | refine blk_drew ?_ | refine blk_alloc ?_ _)); refine blk_far ?_ NB133_150.out _; (with_reducible repeat (first | refine blk_drewN ?_ _ | refine blk_drew ?_ | refine blk_alloc ?_ _)); exact BK133.out) hb); have n2_ := Aside0.mk (blk_below (g := gb150) (o := .cells #[.string ((rd_T74 l0_6 x40_1).f0), .string ((rd_T74 l0_6 x40_1).f1)] 74 (0, 0)) (by (with_reducible repeat (first | refine blk_drewN ?_ _ | refine blk_drew ?_ | refine blk_alloc ?_ _)); refine blk_put (cs := #[.string ((rd_T74 l0_6 x40_1).f0), .string (⟨#[]⟩ : ByteArray)]) ?_ 1 _ rfl; (with_reducible repeat (first | refine blk_drewN ?_ _ | refine blk_drew ?_ | refine blk_alloc ?_ _)); refine blk_put (cs := #[.string (⟨#[]⟩ : ByteArray), .string (⟨#[]⟩ : ByteArray)]) ?_ 0 _ rfl; (with_reducible repeat (first | refine blk_drewN ?_ _ | refine blk_drew ?_ | refine blk_alloc ?_ _)); exact BK150.out) hb); have n3_ := Aside0.mk (below_step (by repeat (first | (with_reducible first | exact HB.out | apply below_alloc | apply pw_below_drewN | apply below_drew1 | refine below_set ?_ GE133.out | refine below_set ?_ GE150.out) | exact HB.out)) hb); clear BK133; clear BK150; clear HB; have HO153 := n0_; have BK133 := n1_; have BK150 := n2_; have HB := n3_; clear n0_ n1_ n2_ n3_; clear hb ho38; obtain ⟨Ao39, co39, eo39⟩ := Kd.R_slice HO153.out; subst eo39) | ((with_reducible refine gate_callee (f := 22) rfl ?_); refine goesL_ (some 50) rfl rfl Tryd.func22 (by kernel_rfl) rfl #[.slice Ao39 y151.length co39] rfl (by (try simp only [List.map_toArray, List.map_cons, List.map_nil]); first | done | rfl | (simp only [List.length_drop, List.length_take]; rfl)) ?_; (with_reducible refine (wire_texts.calls _ _ y151 t154 _ ?side1 ?side2 A32.out).mono ?_); (case side1 => repeat (first | exact (Kd.R_reads' HO153.out).2.2 | (with_reducible refine Kd.C_alloc ?_ _) | (with_reducible refine Kd.C_drewN ?_ _) | (with_reducible refine Kd.C_drew ?_))); (case side2 => exact (Kd.R_reads' HO153.out).2.1); rintro e w40 ⟨rfl, hb⟩; refine ⟨_, rfl, ?_⟩; have n0_ := Aside0.mk (Kd.R_below (by (with_reducible repeat (first | apply Kd.R_alloc | apply Kd.R_drewN | apply Kd.R_drew)); exact HO153.out) hb); have n1_ := Aside0.mk (blk_below (g := gb133) (o := .cells #[.int .i64 a0_0, .int .i64 a0_1, .int .i64 a0_2, .int .i64 a0_3, .string a0_4, .bool a0_5, .slice (some ad149) l0_6.length c0_6, .bool a0_7] 41 (0, 0)) (by (with_reducible repeat (first | refine blk_drewN ?_ _ | refine blk_drew ?_ | refine blk_alloc ?_ _)); exact BK133.out) hb); have n2_ := Aside0.mk (blk_below (g := gb150) (o := .cells #[.string ((rd_T74 l0_6 x40_1).f0), .string ((rd_T74 l0_6 x40_1).f1)] 74 (0, 0)) (by (with_reducible repeat (first | refine blk_drewN ?_ _ | refine blk_drew ?_ | refine blk_alloc ?_ _)); exact BK150.out) hb); have n3_ := Aside0.mk (below_step (by repeat (first | (with_reducible first | exact HB.out | apply below_alloc | apply pw_below_drewN | apply below_drew1 | refine below_set ?_ GE133.out | refine below_set ?_ GE150.out) | exact HB.out)) hb); clear HO153; clear BK133; clear BK150; clear HB; have HO153 := n0_; have BK133 := n1_; have BK150 := n2_; have HB := n3_; clear n0_ n1_ n2_ n3_; (try clear hb); (try clear hb2); (try clear hk); (try clear hi)))
                    go_roundg k1
                    case measure => have := HK1.out; omega
                    case rel => exact ⟨(x4_1 ++ t154), (wrap64 (x40_1 + 1)), (by first | rfl | (simp; done) | (simp [*]; done)), (by first | rfl | (simp; done) | (simp [*]; done)), H', ⟨by have := HK1.out; omega⟩, ⟨by (with_reducible repeat (first | refine blk_drewN ?_ _ | refine blk_drew ?_ | refine blk_alloc ?_ _)); exact BK133.out⟩, ⟨by repeat (first | (with_reducible first | exact HB.out | apply below_alloc | apply pw_below_drewN | apply below_drew1 | refine below_set ?_ GE133.out | refine below_set ?_ GE150.out) | exact HB.out)⟩⟩
                  · rw [if_neg c33] at H
                    exact absurd H (by simp)
                · rw [if_neg c31] at H
                  exact absurd H (by simp)
              · rw [if_neg c30] at H
                exact absurd H (by simp)
            · rw [if_neg c29] at H
              have c29b0 : decide (x40_1 < (l0_6.length : Int)) = false := decide_eq_false c29
              clear c29
              simp only [Option.some.injEq, Prod.mk.injEq] at H
              obtain ⟨rfl, rfl⟩ := H
              go_wp2
              go_ret2
              exact ⟨by first | rfl | (simp [errW_none, errW_some] <;> rfl) | (simp [*, errW_none, errW_some] <;> rfl), by repeat (first | (with_reducible first | exact HB.out | apply below_alloc | apply pw_below_drewN | apply below_drew1 | refine below_set ?_ GE133.out) | exact HB.out)⟩
      · rw [if_neg c10] at H
        exact absurd H (by simp)
    · rw [if_neg c6] at H
      exact absurd H (by simp)
  · replace c3 := Bool.eq_false_iff.mpr c3
    subst c3
    have H1 : (some ((⟨#[]⟩ : ByteArray), 1)) = some (r1, r2) := by rw [if_neg (show ¬ (false = true) by decide)] at H; exact H
    clear H
    have H := H1
    clear H1
    simp only [Option.some.injEq, Prod.mk.injEq] at H
    obtain ⟨rfl, rfl⟩ := H
    go_enter Tryd.func15, Tryd.ntmps15
    go_wp2_with (first | ((with_reducible refine gate_dst (N := 1) rfl ?_); refine box_event ?hg (N := 1) ?hd (cs := #[.int .i64 a0_0, .int .i64 a0_1, .int .i64 a0_2, .int .i64 a0_3, .string a0_4, .bool a0_5, .slice A0_6 l0_6.length c0_6, .bool a0_7]) (t := 41) ?hr ?_; (case hd => rfl); (case hg => rfl); (case hr => first | (go_simp; done) | (go_simp; rfl)); intro gb133 hg w41 hbox hb; have n0_ := Aside0.mk (below_step (by repeat (first | (with_reducible first | exact HB.out | apply below_alloc | apply pw_below_drewN | apply below_drew1) | exact HB.out)) hb); have n1_ := Aside0.mk (hbox); have n2_ := Aside0.mk ((by rw [hg]; exact (below_size (by repeat (first | (with_reducible first | exact HB.out | apply below_alloc | apply pw_below_drewN | apply below_drew1) | exact HB.out))) : w.heap.size ≤ gb133)); have n3_ := Aside0.mk ((by rw [hg]; exact (below_size (by repeat (first | (with_reducible first | exact HB.out | apply below_alloc | apply pw_below_drewN | apply below_drew1) | exact HB.out))) : w.heap.size ≤ gb133)); clear HB; have HB := n0_; have BK133 := n1_; have GW133 := n2_; have GE133 := n3_; clear n0_ n1_ n2_ n3_; clear hb hbox hg; have hcz42_0 : w41.cell? ⟨gb133, 0, none⟩ = some (.int .i64 a0_0) := (blk_cell BK133.out 0).trans rfl; have hcz42_1 : w41.cell? ⟨gb133, 1, none⟩ = some (.int .i64 a0_1) := (blk_cell BK133.out 1).trans rfl; have hcz42_2 : w41.cell? ⟨gb133, 2, none⟩ = some (.int .i64 a0_2) := (blk_cell BK133.out 2).trans rfl; have hcz42_3 : w41.cell? ⟨gb133, 3, none⟩ = some (.int .i64 a0_3) := (blk_cell BK133.out 3).trans rfl; have hcz42_4 : w41.cell? ⟨gb133, 4, none⟩ = some (.string a0_4) := (blk_cell BK133.out 4).trans rfl; have hcz42_5 : w41.cell? ⟨gb133, 5, none⟩ = some (.bool a0_5) := (blk_cell BK133.out 5).trans rfl; have hcz42_6 : w41.cell? ⟨gb133, 6, none⟩ = some (.slice A0_6 l0_6.length c0_6) := (blk_cell BK133.out 6).trans rfl; have hcz42_7 : w41.cell? ⟨gb133, 7, none⟩ = some (.bool a0_7) := (blk_cell BK133.out 7).trans rfl; have hfz42_0 := blk_frozen BK133.out 0; have hfz42_1 := blk_frozen BK133.out 1; have hfz42_2 := blk_frozen BK133.out 2; have hfz42_3 := blk_frozen BK133.out 3; have hfz42_4 := blk_frozen BK133.out 4; have hfz42_5 := blk_frozen BK133.out 5; have hfz42_6 := blk_frozen BK133.out 6; have hfz42_7 := blk_frozen BK133.out 7) | ((with_reducible refine gate_callee (f := 32) rfl ?_); refine goesL_ (some 8) rfl rfl Tryd.func32 (by kernel_rfl) rfl #[.agg #[.int .i64 a0_0, .int .i64 a0_1, .int .i64 a0_2, .int .i64 a0_3, .string a0_4, .bool a0_5, .slice A0_6 l0_6.length c0_6, .bool a0_7]] rfl (by (try simp only [List.map_toArray, List.map_cons, List.map_nil]); first | done | rfl | (simp only [List.length_drop, List.length_take]; rfl)) ?_; (with_reducible refine (wire_mayReply.calls a0_0 a0_1 a0_2 a0_3 a0_4 a0_5 _ _ l0_6 a0_7 false _ ?side1 ?side2 A2.out).mono ?_); (case side1 => repeat (first | exact (Kd.C_below HR0_6.out HB.out) | (with_reducible refine Kd.C_alloc ?_ _) | (with_reducible refine Kd.C_drewN ?_ _) | (with_reducible refine Kd.C_drew ?_))); (case side2 => exact HC0_6.out); rintro e w43 ⟨rfl, hb⟩; refine ⟨_, rfl, ?_⟩; have n0_ := Aside0.mk (blk_below (g := gb133) (o := .cells #[.int .i64 a0_0, .int .i64 a0_1, .int .i64 a0_2, .int .i64 a0_3, .string a0_4, .bool a0_5, .slice A0_6 l0_6.length c0_6, .bool a0_7] 41 (0, 0)) (by (with_reducible repeat (first | refine blk_drewN ?_ _ | refine blk_drew ?_ | refine blk_alloc ?_ _)); exact BK133.out) hb); have n1_ := Aside0.mk (below_step (by repeat (first | (with_reducible first | exact HB.out | apply below_alloc | apply pw_below_drewN | apply below_drew1 | refine below_set ?_ GE133.out) | exact HB.out)) hb); clear BK133; clear HB; have BK133 := n0_; have HB := n1_; clear n0_ n1_; (try clear hb); (try clear hb2); (try clear hk); (try clear hi)))
    go_ret2
    exact ⟨by first | rfl | (simp [errW_none, errW_some] <;> rfl) | (simp [*, errW_none, errW_some] <;> rfl), by repeat (first | (with_reducible first | exact HB.out | apply below_alloc | apply pw_below_drewN | apply below_drew1 | refine below_set ?_ GE133.out) | exact HB.out)⟩
end Go.Proofs.YtlpcidjmaeicoaaDoor.QWi
namespace Go.Proofs.YtlpcidjmaeicoaaDoor.Enc
open Go Go.RowKit Go.Proofs.YtlpcidjmaeicoaaDoor.DecM Go.Proofs.YtlpcidjmaeicoaaDoor.Giv Go.Proofs.YtlpcidjmaeicoaaDoor.Wire Go.Proofs.YtlpcidjmaeicoaaDoor.Reader Go.Proofs.YtlpcidjmaeicoaaDoor.QWi Go.Proofs.YtlpcidjmaeicoaaDoorW.PrintWords
theorem bsp {α β : Type} (a : α) (f : α → Option β) : (some a).bind f = f a := Eq.trans (Option.bind_some a f) (Eq.refl _)
def flagI (b : Bool) : Int := if b = true then 1 else 0
theorem flagI_is (b : Bool) : (flagI b == 1) = b := by
  cases b <;> rfl
theorem flagI_01 (b : Bool) : 0 ≤ flagI b ∧ flagI b ≤ 1 := by
  cases b with
  | true => exact ⟨by decide, by decide⟩
  | false => exact ⟨by decide, by decide⟩
theorem flagI_of (n : Int) (h : 0 ≤ n ∧ n ≤ 1) : flagI (n == 1) = n := by
  rcases (by omega : n = 0 ∨ n = 1) with rfl | rfl
  · rfl
  · rfl
def encRows : List S74 → ByteArray
  | [] => ⟨#[]⟩
  | p :: l => textS p.f0 ++ (textS p.f1 ++ encRows l)
def encP (p : S41) : ByteArray :=
  numS p.f0.toNat ++ (numS p.f1.toNat ++ (numS p.f2.toNat ++ (numS p.f3.toNat ++ (textS p.f4 ++ (numS (flagI p.f5).toNat ++ (numS (flagI p.f7).toNat ++ (numS (p.f6.length : Int).toNat ++ encRows p.f6)))))))
def mayP (p : S41) : Bool := mayB p.f0 p.f1 p.f2 p.f3 p.f4 p.f5 p.f6 p.f7
theorem numB_is {x : Int} (h : QWi.numB x = true) : 0 ≤ x ∧ x ≤ 1073741824 := by
  unfold QWi.numB at h
  simpa using h
theorem mayP_is {p : S41} (h : mayP p = true) : (0 ≤ p.f0 ∧ p.f0 ≤ 1073741824) ∧ (0 ≤ p.f1 ∧ p.f1 ≤ 1073741824) ∧ (0 ≤ p.f2 ∧ p.f2 ≤ 1073741824) ∧ (0 ≤ p.f3 ∧ p.f3 ≤ 16) ∧ p.f4.size ≤ 64 ∧ p.f6.length ≤ 16 ∧ ∀ x ∈ p.f6, x.f0.size ≤ 32 ∧ x.f1.size ≤ 64 := by
  have e := mayReply_some p.f0 p.f1 p.f2 p.f3 p.f4 p.f5 p.f6 p.f7
  rw [show mayB p.f0 p.f1 p.f2 p.f3 p.f4 p.f5 p.f6 p.f7 = true from h] at e
  unfold wire_mayReply.f at e
  by_cases c0 : QWi.numB p.f0 = false
  · rw [if_pos c0] at e
    cases e
  rw [if_neg c0] at e
  by_cases c1 : QWi.numB p.f1 = false
  · rw [if_pos c1] at e
    cases e
  rw [if_neg c1] at e
  by_cases c2 : QWi.numB p.f2 = false
  · rw [if_pos c2] at e
    cases e
  rw [if_neg c2] at e
  by_cases c3 : p.f3 < 0
  · rw [if_pos c3] at e
    cases e
  rw [if_neg c3] at e
  by_cases c4 : 16 < p.f3
  · rw [if_pos c4] at e
    cases e
  rw [if_neg c4] at e
  by_cases c5 : 64 < (p.f4.size : Int)
  · rw [if_pos c5] at e
    cases e
  rw [if_neg c5] at e
  by_cases c6 : 16 < (p.f6.length : Int)
  · rw [if_pos c6] at e
    cases e
  rw [if_neg c6] at e
  have c9 : p.f6.any longP = false := by
    by_cases c7 : table_Right.f 20 p.f6 = some false
    · rw [if_pos c7] at e
      cases e
    rw [if_neg c7] at e
    by_cases c8 : table_Right.f 20 p.f6 = some true
    · rw [if_pos c8] at e
      by_cases c9 : p.f6.any longP = true
      · rw [if_pos c9] at e
        cases e
      · exact Bool.eq_false_iff.mpr c9
    · rw [if_neg c8] at e
      cases e
  refine ⟨numB_is (by simpa using c0), numB_is (by simpa using c1), numB_is (by simpa using c2), ⟨by omega, by omega⟩, by omega, by omega, fun x hx => ?_⟩
  have h1 := List.any_eq_false.1 c9 x hx
  unfold longP at h1
  simp at h1
  omega
theorem encRows_size (l : List S74) (h : ∀ x ∈ l, x.f0.size ≤ 32 ∧ x.f1.size ≤ 64) : (encRows l).size ≤ 102 * l.length := by
  induction l with
  | nil => exact Nat.zero_le _
  | cons p l ih =>
    have h1 := h p (List.mem_cons_self ..)
    have h2 := ih fun x hx => h x (List.mem_cons_of_mem _ hx)
    have k1 := text_size p.f0 (by omega)
    have k2 := text_size p.f1 (by omega)
    show (textS p.f0 ++ (textS p.f1 ++ encRows l)).size ≤ _
    rw [ByteArray.size_append, ByteArray.size_append, List.length_cons, Nat.mul_succ]
    omega
theorem encP_size {p : S41} (hm : mayP p = true) : 1 ≤ (encP p).size ∧ (encP p).size ≤ 2000 := by
  obtain ⟨p0, p1, p2, p3, p4, p5, p6⟩ := mayP_is hm
  have n0 := num_size p.f0 p0
  have n1 := num_size p.f1 p1
  have n2 := num_size p.f2 p2
  have n3 := num_size p.f3 (by omega)
  have n4 := text_size p.f4 (by omega)
  have n5 := numS_le 0 (flagI p.f5).toNat (by have := flagI_01 p.f5; omega)
  have n6 := numS_le 0 (flagI p.f7).toNat (by have := flagI_01 p.f7; omega)
  have n7 := numS_le 1 (p.f6.length : Int).toNat (by omega)
  have n8 := encRows_size p.f6 p6
  have n9 := numS_ge p.f0.toNat
  unfold encP
  simp only [ByteArray.size_append]
  omega
theorem rd_at (l : List S74) (i : Nat) (hi : i < l.length) : rd_T74 l (i : Int) = l[i] := by
  unfold rd_T74
  rw [Int.toNat_natCast, List.getD_eq_getElem?_getD, List.getElem?_eq_getElem hi]
  rfl
theorem reply_l0 (l : List S74) (hl : l.length ≤ 16) (ha : ∀ x ∈ l, x.f0.size ≤ 32 ∧ x.f1.size ≤ 64) : ∀ (d i : Nat) (x : ByteArray) (k : Nat), l.length - i = d → i ≤ l.length → x.size + 102 * d ≤ 100000 → d < k →
    wire_Reply.l0 k x l (l.length : Int) (i : Int) = some (x ++ encRows (l.drop i), 0) := by
  intro d
  induction d with
  | zero =>
    intro i x k hd hi hx hk
    obtain ⟨k, rfl⟩ : ∃ j, k = j + 1 := ⟨k - 1, by omega⟩
    rw [wire_Reply.l0, if_neg (by omega), List.drop_eq_nil_of_le (by omega)]
    show _ = some (x ++ (⟨#[]⟩ : ByteArray), 0)
    rw [app_empty]
  | succ d ih =>
    intro i x k hd hi hx hk
    obtain ⟨k, rfl⟩ : ∃ j, k = j + 1 := ⟨k - 1, by omega⟩
    have hlt : i < l.length := by omega
    obtain ⟨s1, s2⟩ := ha l[i] (List.getElem_mem hlt)
    have k1 := text_size (l[i]).f0 (by omega)
    have k2 := text_size (l[i]).f1 s2
    have e := ih (i + 1) (x ++ (textS (l[i]).f0 ++ textS (l[i]).f1)) k (by omega) (by omega) (by simp only [ByteArray.size_append]; omega) (by omega)
    rw [wire_Reply.l0, if_pos (by omega), if_pos (by omega), if_pos (by omega), rd_at l i hlt, texts_some [(l[i]).f0, (l[i]).f1] (by simp) (by
      intro t ht
      simp only [List.mem_cons, List.not_mem_nil, or_false] at ht
      rcases ht with rfl | rfl
      · omega
      · exact s2), bsp, texts_cons, texts_one, if_pos (by simp only [ByteArray.size_append]; omega), w_nat i (by omega), e, List.drop_eq_getElem_cons hlt]
    show _ = some (x ++ (textS (l[i]).f0 ++ (textS (l[i]).f1 ++ encRows (l.drop (i + 1)))), 0)
    rw [asc, asc]
theorem reply_f (k : Nat) (p : S41) : wire_Reply.f (k + 18) p.f0 p.f1 p.f2 p.f3 p.f4 p.f5 p.f6 p.f7 = some (if mayP p = true then (encP p, 0) else (⟨#[]⟩, 1)) := by
  unfold wire_Reply.f
  rw [mayReply_some, bsp, show mayB p.f0 p.f1 p.f2 p.f3 p.f4 p.f5 p.f6 p.f7 = mayP p from rfl]
  by_cases hm : mayP p = true
  · rw [if_pos hm, if_pos hm]
    have hz := encP_size hm
    obtain ⟨p0, p1, p2, p3, p4, p5, p6⟩ := mayP_is hm
    have n0 := num_size p.f0 p0
    have n1 := num_size p.f1 p1
    have n2 := num_size p.f2 p2
    have n3 := num_size p.f3 (by omega)
    have n4 := text_size p.f4 (by omega)
    have b5 := flagI_01 p.f5
    have b7 := flagI_01 p.f7
    have n5 := num_size (flagI p.f5) (by omega)
    have n6 := num_size (flagI p.f7) (by omega)
    have n7 := num_size (p.f6.length : Int) (by omega)
    have n8 := encRows_size p.f6 p6
    have fl : ∀ b, wire_flag.f b = some (flagI b) := fun b => by
      unfold wire_flag.f flagI
      cases b <;> rfl
    have e1 : numsS [p.f0, p.f1, p.f2, p.f3] ++ textsW [p.f4] = numS p.f0.toNat ++ (numS p.f1.toNat ++ (numS p.f2.toNat ++ (numS p.f3.toNat ++ textS p.f4))) := by
      rw [nums_cons, nums_cons, nums_cons, nums_one, texts_one, asc, asc, asc]
    have e2 : numsS [flagI p.f5, flagI p.f7, (p.f6.length : Int)] = numS (flagI p.f5).toNat ++ (numS (flagI p.f7).toNat ++ numS (p.f6.length : Int).toNat) := by
      rw [nums_cons, nums_cons, nums_one]
    rw [nums_some [p.f0, p.f1, p.f2, p.f3] (by simp) (by
      intro x hx
      simp only [List.mem_cons, List.not_mem_nil, or_false] at hx
      rcases hx with rfl | rfl | rfl | rfl
      · exact p0
      · exact p1
      · exact p2
      · omega), bsp, texts_some [p.f4] (by simp) (by
      intro x hx
      rw [List.mem_singleton.1 hx]
      omega), bsp, if_pos (by rw [← ByteArray.size_append, e1]; simp only [ByteArray.size_append]; omega), fl, bsp, fl, bsp, nums_some [flagI p.f5, flagI p.f7, (p.f6.length : Int)] (by simp) (by
      intro x hx
      simp only [List.mem_cons, List.not_mem_nil, or_false] at hx
      rcases hx with rfl | rfl | rfl
      · omega
      · omega
      · omega), bsp, if_pos (by rw [← ByteArray.size_append, e1, e2]; simp only [ByteArray.size_append]; omega)]
    have e3 := reply_l0 p.f6 p5 p6 p.f6.length 0 (numsS [p.f0, p.f1, p.f2, p.f3] ++ textsW [p.f4] ++ numsS [flagI p.f5, flagI p.f7, (p.f6.length : Int)]) (k + 18) (by omega) (by omega) (by rw [e1, e2]; simp only [ByteArray.size_append]; omega) (by omega)
    rw [show ((0 : Nat) : Int) = 0 from rfl] at e3
    rw [e3, e1, e2, List.drop_zero]
    unfold encP
    simp only [asc]
  · rw [if_neg hm, if_neg hm]
theorem encRows_snoc (l : List S74) (p : S74) : encRows (l ++ [p]) = encRows l ++ (textS p.f0 ++ textS p.f1) := by
  induction l with
  | nil =>
    show textS p.f0 ++ (textS p.f1 ++ (⟨#[]⟩ : ByteArray)) = (⟨#[]⟩ : ByteArray) ++ _
    rw [app_empty]
    apply bytes_ext
    simp only [data_append, List.nil_append]
  | cons q l ih =>
    show textS q.f0 ++ (textS q.f1 ++ encRows (l ++ [p])) = (textS q.f0 ++ (textS q.f1 ++ encRows l)) ++ _
    rw [ih, asc, asc]
theorem rows_back (l : List S74) (ha : ∀ x ∈ l, x.f0.size ≤ 32 ∧ x.f1.size ≤ 64) (r : ByteArray) : ∀ i, i ≤ l.length → rowsI (encRows l ++ r, false) i = (l.take i, encRows (l.drop i) ++ r, false) := by
  intro i
  induction i with
  | zero => exact fun _ => rfl
  | succ i ih =>
    intro hi
    have hlt : i < l.length := by omega
    obtain ⟨s1, s2⟩ := ha l[i] (List.getElem_mem hlt)
    show rowStep (rowsI (encRows l ++ r, false) i) = _
    rw [ih (by omega)]
    unfold rowStep
    rw [List.drop_eq_getElem_cons hlt]
    show tx ((textS (l[i]).f0 ++ (textS (l[i]).f1 ++ encRows (l.drop (i + 1)))) ++ r, false) 32 _ = _
    rw [asc, tx_back _ _ _ _ (by omega) (by omega), asc, tx_back _ _ _ _ (by omega) (by omega), List.take_succ_eq_append_getElem hlt]
theorem rows_all (l : List S74) (ha : ∀ x ∈ l, x.f0.size ≤ 32 ∧ x.f1.size ≤ 64) (r : ByteArray) : rowsI (encRows l ++ r, false) l.length = (l, r, false) := by
  rw [rows_back l ha r _ (Nat.le_refl _), List.take_length, List.drop_length]
  show (l, (⟨#[]⟩ : ByteArray) ++ r, false) = _
  have e : (⟨#[]⟩ : ByteArray) ++ r = r := by
    apply bytes_ext
    simp only [data_append, List.nil_append]
  rw [e]
theorem row_was (l : List S74) (s : ByteArray) : (fun z : List S74 × ByteArray × Bool => z.2.2 = false → ∃ k v, z.1 = l ++ [⟨k, v⟩] ∧ s = textS k ++ (textS v ++ z.2.1)) (rowStep (l, s, false)) := by
  unfold rowStep
  show tx (s, false) 32 fun k x => tx x 64 fun v y => (y.2 = false → ∃ k' v', l ++ [⟨k, v⟩] = l ++ [⟨k', v'⟩] ∧ s = textS k' ++ (textS v' ++ y.1))
  refine tx_rule (by simp only [tx_bad]; intro h; cases h) fun k r b e => ?_
  refine tx_rule (by intro h; cases h) fun v r' b' e' => ?_
  intro _
  exact ⟨k, v, rfl, by rw [e, e']⟩
theorem rows_was (x : ByteArray × Bool) (i : Nat) : (rowsI x i).2.2 = false → x.2 = false ∧ x.1 = encRows (rowsI x i).1 ++ (rowsI x i).2.1 := by
  induction i with
  | zero =>
    intro h
    refine ⟨h, ?_⟩
    show x.1 = (⟨#[]⟩ : ByteArray) ++ x.1
    apply bytes_ext
    simp only [data_append, List.nil_append]
  | succ i ih =>
    intro h
    have h' : (rowStep (rowsI x i)).2.2 = false := h
    show x.2 = false ∧ x.1 = encRows (rowStep (rowsI x i)).1 ++ (rowStep (rowsI x i)).2.1
    generalize rowsI x i = p at ih h'
    obtain ⟨l, s, b⟩ := p
    cases b with
    | true =>
      unfold rowStep at h'
      simp only [tx_bad] at h'
      cases h'
    | false =>
      obtain ⟨h1, h2⟩ := ih rfl
      obtain ⟨k, v, e1, e2⟩ := row_was l s h'
      refine ⟨h1, ?_⟩
      rw [h2, e1, encRows_snoc, asc, asc]
      show encRows l ++ s = _
      exact congrArg (fun z => encRows l ++ z) e2
def parseP {α : Type} (x : ByteArray × Bool) (f : Int → Int → Int → Int → ByteArray → Int → Int → Int → ByteArray × Bool → α) : α :=
  nx x 1073741824 fun a1 x1 => nx x1 1073741824 fun a2 x2 => nx x2 1073741824 fun a3 x3 => nx x3 16 fun a4 x4 => tx x4 64 fun a5 x5 => nx x5 1 fun a6 x6 => nx x6 1 fun a7 x7 => nx x7 16 fun a8 x8 => f a1 a2 a3 a4 a5 a6 a7 a8 x8
theorem takeReply_parse (s : ByteArray) : takeReplyF s = parseP (s, false) fun a1 a2 a3 a4 a5 a6 a7 a8 x8 => goodP a1 a2 a3 a4 a5 (a6 == 1) (a7 == 1) (rowsI x8 a8.toNat) := rfl
theorem parseP_at (x : ByteArray × Bool) : ∃ a1 a2 a3 a4 a5 a6 a7 a8 z, ∀ {α : Type} (f : Int → Int → Int → Int → ByteArray → Int → Int → Int → ByteArray × Bool → α), parseP x f = f a1 a2 a3 a4 a5 a6 a7 a8 z :=
  ⟨_, _, _, _, _, _, _, _, _, fun _ => rfl⟩
theorem parseP_back {α : Type} {p : S41} (hm : mayP p = true) (r : ByteArray) (f : Int → Int → Int → Int → ByteArray → Int → Int → Int → ByteArray × Bool → α) :
    parseP (encP p ++ r, false) f = f p.f0 p.f1 p.f2 p.f3 p.f4 (flagI p.f5) (flagI p.f7) (p.f6.length : Int) (encRows p.f6 ++ r, false) := by
  obtain ⟨p0, p1, p2, p3, p4, p5, p6⟩ := mayP_is hm
  have b5 := flagI_01 p.f5
  have b7 := flagI_01 p.f7
  unfold parseP encP
  rw [asc, nx_back _ _ _ _ p0 (by omega), asc, nx_back _ _ _ _ p1 (by omega), asc, nx_back _ _ _ _ p2 (by omega), asc, nx_back _ _ _ _ p3 (by omega), asc, tx_back _ _ _ _ (by omega) (by omega), asc, nx_back _ _ _ _ b5 (by omega), asc, nx_back _ _ _ _ b7 (by omega), asc, nx_back _ _ _ _ (by omega) (by omega)]
theorem parseP_was (s : ByteArray) : parseP (s, false) fun a1 a2 a3 a4 a5 a6 a7 a8 x => x.2 = false → ((0 ≤ a6 ∧ a6 ≤ 1) ∧ (0 ≤ a7 ∧ a7 ≤ 1) ∧ 0 ≤ a8) ∧
    s = numS a1.toNat ++ (numS a2.toNat ++ (numS a3.toNat ++ (numS a4.toNat ++ (textS a5 ++ (numS a6.toNat ++ (numS a7.toNat ++ (numS a8.toNat ++ x.1))))))) := by
  unfold parseP
  refine nx_rule (by simp only [nx_bad, tx_bad]; intro h; cases h) fun a0 r0 b0 e0 => ?_
  refine nx_rule (by simp only [nx_bad, tx_bad]; intro h; cases h) fun a1 r1 b1 e1 => ?_
  refine nx_rule (by simp only [nx_bad, tx_bad]; intro h; cases h) fun a2 r2 b2 e2 => ?_
  refine nx_rule (by simp only [nx_bad, tx_bad]; intro h; cases h) fun a3 r3 b3 e3 => ?_
  refine tx_rule (by simp only [nx_bad]; intro h; cases h) fun t r4 b4 e4 => ?_
  refine nx_rule (by simp only [nx_bad]; intro h; cases h) fun a5 r5 b5 e5 => ?_
  refine nx_rule (by simp only [nx_bad]; intro h; cases h) fun a6 r6 b6 e6 => ?_
  refine nx_rule (by intro h; cases h) fun a7 r7 b7 e7 => ?_
  intro _
  exact ⟨⟨b5, b6, b7.1⟩, by rw [e0, e1, e2, e3, e4, e5, e6, e7]⟩
theorem take_rep (s : ByteArray) : (∃ p, mayP p = true ∧ s = encP p ∧ takeReplyF s = (p, 0)) ∨ takeReplyF s = (z41, 3) := by
  rw [takeReply_parse]
  obtain ⟨a1, a2, a3, a4, a5, a6, a7, a8, x, hp⟩ := parseP_at (s, false)
  have hw := parseP_was s
  rw [hp] at hw
  rw [hp]
  unfold goodP
  by_cases hx : (rowsI x a8.toNat).2.2 = true ∨ ¬ (rowsI x a8.toNat).2.1.size = 0
  · exact .inr (if_pos hx)
  · rw [if_neg hx]
    by_cases hm : mayB a1 a2 a3 a4 a5 (a6 == 1) (rowsI x a8.toNat).1 (a7 == 1) = true
    · rw [if_pos hm]
      simp only [not_or, Classical.not_not] at hx
      obtain ⟨w1, w2⟩ := rows_was x a8.toNat (by simpa using hx.1)
      obtain ⟨⟨b6, b7, b8⟩, e⟩ := hw w1
      refine .inl ⟨⟨a1, a2, a3, a4, a5, a6 == 1, (rowsI x a8.toNat).1, a7 == 1⟩, hm, ?_, rfl⟩
      have el : ((rowsI x a8.toNat).1.length : Int).toNat = a8.toNat := by
        rw [rowsI_length, Int.toNat_natCast]
      rw [size_nil hx.2, app_empty] at w2
      unfold encP
      dsimp only
      rw [flagI_of a6 b6, flagI_of a7 b7, el, ← w2]
      exact e
    · exact .inr (if_neg hm)
theorem take_p_all {p : S41} (hm : mayP p = true) (u : ByteArray) : takeReplyF (encP p ++ u) = if u.size = 0 then (p, 0) else (z41, 3) := by
  rw [takeReply_parse, parseP_back hm]
  have ha := (mayP_is hm).2.2.2.2.2.2
  rw [Int.toNat_natCast, rows_all p.f6 ha u, flagI_is, flagI_is]
  unfold goodP
  by_cases hu : u.size = 0
  · rw [if_pos hu, if_neg (by rintro (h | h); · cases h
                              · exact h hu), if_pos (show mayB p.f0 p.f1 p.f2 p.f3 p.f4 p.f5 p.f6 p.f7 = true from hm)]
  · rw [if_neg hu, if_pos (.inr hu)]
theorem take_p {p : S41} (hm : mayP p = true) : takeReplyF (encP p) = (p, 0) := by
  have e := take_p_all hm (⟨#[]⟩ : ByteArray)
  rw [app_empty] at e
  exact e
end Go.Proofs.YtlpcidjmaeicoaaDoor.Enc
namespace Go.Proofs.YtlpcidjmaeicoaaDoor.Enc
open Go Go.RowKit Go.Proofs.YtlpcidjmaeicoaaDoor.DecM Go.Proofs.YtlpcidjmaeicoaaDoor.Giv Go.Proofs.YtlpcidjmaeicoaaDoor.Wire Go.Proofs.YtlpcidjmaeicoaaDoor.Reader Go.Proofs.YtlpcidjmaeicoaaDoor.QWi Go.Proofs.YtlpcidjmaeicoaaDoorW.PrintWords Go.Proofs.YtlpcidjmaeicoaaDoorW.PrintLast
theorem drop_bt (s : ByteArray) (i : Nat) (h : i < s.size) : ∃ u : UInt8, s.toList.drop i = u :: s.toList.drop (i + 1) ∧ bt s (i : Int) = (u.toNat : Int) := by
  have hl : i < s.toList.length := by rw [Lib.toList_data, len_size]; exact h
  refine ⟨s.toList[i], List.drop_eq_getElem_cons hl, ?_⟩
  have h2 : ((i : Int)).toNat < s.size := by simpa using h
  rw [← bt_at s (i : Int) h2]
  simp only [Int.toNat_natCast, Lib.toList_data, Array.getElem_toList]
  rfl
theorem drop_none (s : ByteArray) (i : Nat) (h : s.size ≤ i) : s.toList.drop i = [] := by
  apply List.drop_eq_nil_of_le
  rw [Lib.toList_data, len_size]
  exact h
theorem wrap_next {i n : Nat} (h : i < n) (hn : n ≤ 9223372036854775807) : wrap64 ((i : Int) + 1) = ((i + 1 : Nat) : Int) := by
  unfold wrap64
  omega
theorem less_from (a b : ByteArray) (ha : a.size ≤ 9223372036854775807) (d : Nat) : ∀ (k i : Nat), a.size - i = d → i ≤ a.size → i ≤ b.size → 2 * d + 2 ≤ k →
    stanchionref01_Less.l0 k a b (i : Int) = some (decide (a.toList.drop i < b.toList.drop i)) := by
  induction d with
  | zero =>
    intro k i hd hi hj hk
    obtain ⟨k, rfl⟩ : ∃ m, k = m + 2 := ⟨k - 2, by omega⟩
    simp only [stanchionref01_Less.l0, stanchionref01_Less.j1]
    rw [if_neg (by omega), if_neg (by decide), drop_none a i (by omega)]
    by_cases h : i < b.size
    · obtain ⟨u, hu, _⟩ := drop_bt b i h
      rw [hu]
      simp only [List.nil_lt_cons, decide_true]
      rw [decide_eq_true (by omega)]
    · rw [drop_none b i (by omega)]
      simp only [List.not_lt_nil, decide_false]
      rw [decide_eq_false (by omega)]
  | succ d ih =>
    intro k i hd hi hj hk
    obtain ⟨k, rfl⟩ : ∃ m, k = m + 2 := ⟨k - 2, by omega⟩
    have hlt : i < a.size := by omega
    obtain ⟨u, hu, hbu⟩ := drop_bt a i hlt
    simp only [stanchionref01_Less.l0, stanchionref01_Less.j1]
    rw [if_pos (by omega)]
    by_cases h : i < b.size
    · obtain ⟨v, hv, hbv⟩ := drop_bt b i h
      rw [decide_eq_true (p := (i : Int) < (b.size : Int)) (by omega), if_pos rfl, if_pos (by omega), if_pos (by omega), if_pos (by omega), hbu, hbv, hu, hv]
      by_cases e : u = v
      · subst e
        rw [if_pos rfl, wrap_next hlt ha, ih k (i + 1) (by omega) (by omega) (by omega) (by omega)]
        simp
      · have e2 : ¬ ((u.toNat : Int) = (v.toNat : Int)) := by
          intro h
          exact e (UInt8.toNat_inj.mp (by omega))
        rw [if_neg e2]
        simp only [List.cons_lt_cons_iff, e, false_and, or_false, UInt8.lt_iff_toNat_lt]
        congr 2
        exact propext (by omega)
    · rw [decide_eq_false (p := (i : Int) < (b.size : Int)) (by omega), if_neg (by decide), drop_none b i (by omega)]
      simp only [List.not_lt_nil, decide_false]
      rw [decide_eq_false (by omega)]
theorem less_eq (k : Nat) (a b : ByteArray) (ha : a.size ≤ 9223372036854775807) (hk : 2 * a.size + 2 ≤ k) : stanchionref01_Less.f k a b = some (decide (a.toList < b.toList)) := by
  unfold stanchionref01_Less.f
  have := less_from a b ha a.size k 0 (by omega) (by omega) (by omega) hk
  simpa using this
def rightFrom : List S74 → Bool
  | [] => true
  | [_] => true
  | p :: q :: l => decide (p.f0.toList < q.f0.toList) && rightFrom (q :: l)
theorem right_step (l : List S74) (i : Nat) (h1 : 1 ≤ i) (hi : i < l.length) : rightFrom (l.drop (i - 1)) = (decide ((l[i - 1]'(by omega)).f0.toList < (l[i]).f0.toList) && rightFrom (l.drop i)) := by
  have e1 : l.drop (i - 1) = l[i - 1]'(by omega) :: l.drop i := by
    have e := List.drop_eq_getElem_cons (i := i - 1) (l := l) (by omega)
    rw [show i - 1 + 1 = i by omega] at e
    exact e
  have e2 : l.drop i = l[i] :: l.drop (i + 1) := List.drop_eq_getElem_cons hi
  rw [e1, e2]
  rfl
theorem right_done (l : List S74) (i : Nat) (h1 : 1 ≤ i) (hi : l.length ≤ i) : rightFrom (l.drop (i - 1)) = true := by
  by_cases h : l.length ≤ i - 1
  · rw [List.drop_eq_nil_of_le h]
    rfl
  · have e := List.drop_eq_getElem_cons (i := i - 1) (l := l) (by omega)
    rw [show i - 1 + 1 = i by omega, List.drop_eq_nil_of_le hi] at e
    rw [e]
    rfl
theorem table_at (l : List S74) (hl : l.length ≤ 9223372036854775807) : ∀ (d i k : Nat), l.length - i = d → 1 ≤ i → d < k → table_Right.l0 k l (i : Int) = some (rightFrom (l.drop (i - 1))) := by
  intro d
  induction d with
  | zero =>
    intro i k hd h1 hk
    obtain ⟨k, rfl⟩ : ∃ j, k = j + 1 := ⟨k - 1, by omega⟩
    rw [table_Right.l0, if_neg (by omega), right_done l i h1 (by omega)]
  | succ d ih =>
    intro i k hd h1 hk
    obtain ⟨k, rfl⟩ : ∃ j, k = j + 1 := ⟨k - 1, by omega⟩
    have hi : i < l.length := by omega
    have e := ih (i + 1) k (by omega) (by omega) (by omega)
    rw [show i + 1 - 1 = i by omega] at e
    rw [table_Right.l0, if_pos (by omega), w_back i (by omega) h1, w_nat i (by omega), if_pos (by omega), if_pos (by omega), if_pos (by omega), rd_at l (i - 1) (by omega), rd_at l i hi, bl_lt, right_step l i h1 hi, e]
    by_cases hlt : (l[i - 1]'(by omega)).f0.toList < (l[i]).f0.toList
    · rw [decide_eq_true hlt, if_pos rfl, Bool.true_and]
    · rw [decide_eq_false hlt, if_neg (by decide), Bool.false_and]
theorem table_is (k : Nat) (l : List S74) (hl : l.length ≤ 9223372036854775807) (hk : l.length < k) : table_Right.f k l = some (rightFrom l) := by
  unfold table_Right.f
  exact table_at l hl (l.length - 1) 1 k rfl (Nat.le_refl _) (by omega)
def keys : List S74 → Nat
  | [] => 0
  | p :: l => p.f0.size + keys l
theorem keys_mem (l : List S74) (p : S74) (h : p ∈ l) : p.f0.size ≤ keys l := by
  induction l with
  | nil => cases h
  | cons q l ih =>
    show _ ≤ q.f0.size + keys l
    rcases List.mem_cons.1 h with rfl | h
    · omega
    · have := ih h
      omega
theorem ref_at (l : List S74) (hl : l.length ≤ 9223372036854775807) (hz : ∀ x ∈ l, x.f0.size ≤ 9223372036854775807) : ∀ (d i k : Nat), l.length - i = d → 1 ≤ i → d + 2 * keys l + 3 ≤ k → stanchionref05_Right.l0 k l (i : Int) = some (rightFrom (l.drop (i - 1))) := by
  intro d
  induction d with
  | zero =>
    intro i k hd h1 hk
    obtain ⟨k, rfl⟩ : ∃ j, k = j + 1 := ⟨k - 1, by omega⟩
    rw [stanchionref05_Right.l0, if_neg (by omega), right_done l i h1 (by omega)]
  | succ d ih =>
    intro i k hd h1 hk
    obtain ⟨k, rfl⟩ : ∃ j, k = j + 1 := ⟨k - 1, by omega⟩
    have hi : i < l.length := by omega
    have e := ih (i + 1) k (by omega) (by omega) (by omega)
    rw [show i + 1 - 1 = i by omega] at e
    have hm := List.getElem_mem (l := l) (n := i - 1) (by omega)
    have hq := keys_mem l _ hm
    rw [stanchionref05_Right.l0, if_pos (by omega), w_back i (by omega) h1, w_nat i (by omega), if_pos (by omega), if_pos (by omega), if_pos (by omega), rd_at l (i - 1) (by omega), rd_at l i hi, less_eq k _ _ (hz _ hm) (by omega), bsp, right_step l i h1 hi, e]
    by_cases hlt : (l[i - 1]'(by omega)).f0.toList < (l[i]).f0.toList
    · rw [decide_eq_true hlt, if_pos rfl, Bool.true_and]
    · rw [decide_eq_false hlt, if_neg (by decide), Bool.false_and]
def mayR (a0 a1 a2 a3 : Int) (a4 : ByteArray) (l : List S74) : Prop :=
  (0 ≤ a0 ∧ a0 ≤ 1073741824) ∧ (0 ≤ a1 ∧ a1 ≤ 1073741824) ∧ (0 ≤ a2 ∧ a2 ≤ 1073741824) ∧ (0 ≤ a3 ∧ a3 ≤ 16) ∧ a4.size ≤ 64 ∧ l.length ≤ 16 ∧ rightFrom l = true ∧ l.any longP = false
instance (a0 a1 a2 a3 : Int) (a4 : ByteArray) (l : List S74) : Decidable (mayR a0 a1 a2 a3 a4 l) := by
  unfold mayR
  infer_instance
theorem numB_f {x : Int} (h : QWi.numB x = false) : ¬ (0 ≤ x ∧ x ≤ 1073741824) := by
  unfold QWi.numB at h
  simp at h
  omega
theorem mayB_is (a0 a1 a2 a3 : Int) (a4 : ByteArray) (a5 : Bool) (l : List S74) (a7 : Bool) : mayB a0 a1 a2 a3 a4 a5 l a7 = decide (mayR a0 a1 a2 a3 a4 l) := by
  have e := mayReply_some a0 a1 a2 a3 a4 a5 l a7
  generalize mayB a0 a1 a2 a3 a4 a5 l a7 = b at e
  unfold wire_mayReply.f at e
  unfold mayR
  by_cases c0 : QWi.numB a0 = false
  · rw [if_pos c0] at e
    rw [← Option.some.inj e]
    exact (decide_eq_false fun h => numB_f c0 h.1).symm
  rw [if_neg c0] at e
  by_cases c1 : QWi.numB a1 = false
  · rw [if_pos c1] at e
    rw [← Option.some.inj e]
    exact (decide_eq_false fun h => numB_f c1 h.2.1).symm
  rw [if_neg c1] at e
  by_cases c2 : QWi.numB a2 = false
  · rw [if_pos c2] at e
    rw [← Option.some.inj e]
    exact (decide_eq_false fun h => numB_f c2 h.2.2.1).symm
  rw [if_neg c2] at e
  have d0 := numB_is (by simpa using c0)
  have d1 := numB_is (by simpa using c1)
  have d2 := numB_is (by simpa using c2)
  by_cases c3 : a3 < 0
  · rw [if_pos c3] at e
    rw [← Option.some.inj e]
    exact (decide_eq_false (by omega)).symm
  rw [if_neg c3] at e
  by_cases c4 : 16 < a3
  · rw [if_pos c4] at e
    rw [← Option.some.inj e]
    exact (decide_eq_false (by omega)).symm
  rw [if_neg c4] at e
  by_cases c5 : 64 < (a4.size : Int)
  · rw [if_pos c5] at e
    rw [← Option.some.inj e]
    exact (decide_eq_false (by omega)).symm
  rw [if_neg c5] at e
  by_cases c6 : 16 < (l.length : Int)
  · rw [if_pos c6] at e
    rw [← Option.some.inj e]
    exact (decide_eq_false (by omega)).symm
  rw [if_neg c6, table_is 20 l (by omega) (by omega)] at e
  by_cases hr : rightFrom l = true
  · rw [hr, if_neg (by decide), if_pos rfl] at e
    by_cases ha : l.any longP = true
    · rw [if_pos ha] at e
      rw [← Option.some.inj e]
      exact (decide_eq_false fun h => by rw [ha] at h; cases h.2.2.2.2.2.2.2).symm
    · rw [if_neg ha] at e
      rw [← Option.some.inj e]
      exact (decide_eq_true ⟨d0, d1, d2, ⟨by omega, by omega⟩, by omega, by omega, hr, Bool.eq_false_iff.mpr ha⟩).symm
  · rw [Bool.eq_false_iff.mpr hr, if_pos rfl] at e
    rw [← Option.some.inj e]
    exact (decide_eq_false fun h => hr h.2.2.2.2.2.2.1).symm
theorem small_p (x : Int) : stanchionref16_small.f x = some (decide (0 ≤ x ∧ x ≤ 1073741824)) := by
  unfold stanchionref16_small.f
  by_cases h : x ≥ 0
  · rw [if_pos h]
    exact congrArg some (decide_eq_decide.2 (by omega))
  · rw [if_neg h]
    exact congrArg some (decide_eq_false (by omega)).symm
theorem long_at (a0 a1 a2 a3 : Int) (a4 : ByteArray) (a5 : Bool) (l : List S74) (a7 : Bool) (hl : l.length ≤ 16) : ∀ (d i k : Nat), l.length - i = d → i ≤ l.length → d < k → stanchionref16_mayReply.l0 k (i : Int) a0 a1 a2 a3 a4 a5 l a7 = some (!(l.drop i).any longP) := by
  intro d
  induction d with
  | zero =>
    intro i k hd hi hk
    obtain ⟨k, rfl⟩ : ∃ j, k = j + 1 := ⟨k - 1, by omega⟩
    rw [stanchionref16_mayReply.l0, if_neg (by omega), List.drop_eq_nil_of_le (by omega)]
    rfl
  | succ d ih =>
    intro i k hd hi hk
    obtain ⟨k, rfl⟩ : ∃ j, k = j + 1 := ⟨k - 1, by omega⟩
    have h1 : i < l.length := by omega
    have e := ih (i + 1) k (by omega) (by omega) (by omega)
    rw [stanchionref16_mayReply.l0, if_pos (by omega), if_pos (by omega), rd_at l i h1, w_nat i (by omega), e, List.drop_eq_getElem_cons h1, List.any_cons]
    by_cases g0 : ((l[i]).f0.size : Int) > 32
    · have : longP l[i] = true := by
        unfold longP
        rw [decide_eq_true (by omega), Bool.true_or]
      rw [if_pos g0, this]
      rfl
    · rw [if_neg g0]
      by_cases g1 : ((l[i]).f1.size : Int) > 64
      · have : longP l[i] = true := by
          unfold longP
          rw [decide_eq_true (p := 64 < (l[i]).f1.size) (by omega), Bool.or_true]
        rw [if_pos g1, this]
        rfl
      · have : longP l[i] = false := by
          unfold longP
          rw [decide_eq_false (p := 32 < (l[i]).f0.size) (by omega), decide_eq_false (p := 64 < (l[i]).f1.size) (by omega)]
          rfl
        rw [if_neg g1, this]
        rfl
theorem ref_mayReply (k : Nat) (a0 a1 a2 a3 : Int) (a4 : ByteArray) (a5 : Bool) (l : List S74) (a7 : Bool) (hl : l.length ≤ 9223372036854775807) (hz : ∀ x ∈ l, x.f0.size ≤ 9223372036854775807) (hk : l.length + 2 * keys l + 30 ≤ k) :
    stanchionref16_mayReply.f k a0 a1 a2 a3 a4 a5 l a7 = some (decide (mayR a0 a1 a2 a3 a4 l)) := by
  obtain ⟨k, rfl⟩ : ∃ j, k = j + 3 := ⟨k - 3, by omega⟩
  have j2 : ∀ b : Bool, (b = false → l.length ≤ 16) → stanchionref16_mayReply.j2 (k + 1) b a0 a1 a2 a3 a4 a5 l a7 = some (!b && !l.any longP) := by
    intro b hb
    rw [stanchionref16_mayReply.j2]
    cases b with
    | true => rfl
    | false =>
      have e := long_at a0 a1 a2 a3 a4 a5 l a7 (hb rfl) l.length 0 k rfl (Nat.zero_le _) (by omega)
      rw [if_neg (by decide), show ((0 : Int)) = ((0 : Nat) : Int) from rfl, e, List.drop_zero]
      rfl
  have j2t : stanchionref16_mayReply.j2 (k + 1) true a0 a1 a2 a3 a4 a5 l a7 = some false := j2 true (fun h => by cases h)
  have j1 : ∀ x y : Bool, stanchionref16_mayReply.j1 (k + 2) x y a0 a1 a2 a3 a4 a5 l a7 = some (x && y && decide ((0 ≤ a3 ∧ a3 ≤ 16) ∧ a4.size ≤ 64 ∧ l.length ≤ 16 ∧ l.any longP = false)) := by
    intro x y
    rw [stanchionref16_mayReply.j1]
    cases x with
    | false => exact (if_neg (by decide)).trans j2t
    | true =>
      rw [if_pos rfl]
      cases y with
      | false => exact (if_neg (by decide)).trans j2t
      | true =>
        rw [if_pos rfl]
        by_cases c3 : a3 < 0
        · rw [if_pos c3, j2t]
          exact congrArg some (by rw [decide_eq_false (by omega)]; rfl)
        rw [if_neg c3]
        by_cases c4 : a3 > 16
        · rw [if_pos c4, j2t]
          exact congrArg some (by rw [decide_eq_false (by omega)]; rfl)
        rw [if_neg c4]
        by_cases c5 : (a4.size : Int) > 64
        · rw [if_pos c5, j2t]
          exact congrArg some (by rw [decide_eq_false (by omega)]; rfl)
        rw [if_neg c5]
        by_cases c6 : (l.length : Int) > 16
        · rw [decide_eq_true c6, j2t]
          exact congrArg some (by rw [decide_eq_false (by omega)]; rfl)
        · rw [decide_eq_false c6, j2 false (fun _ => by omega)]
          by_cases ha : l.any longP = true
          · rw [decide_eq_false (p := (0 ≤ a3 ∧ a3 ≤ 16) ∧ a4.size ≤ 64 ∧ l.length ≤ 16 ∧ l.any longP = false) (fun h => by rw [ha] at h; cases h.2.2.2), ha]
            rfl
          · rw [decide_eq_true (p := (0 ≤ a3 ∧ a3 ≤ 16) ∧ a4.size ≤ 64 ∧ l.length ≤ 16 ∧ l.any longP = false) ⟨⟨by omega, by omega⟩, by omega, by omega, Bool.eq_false_iff.mpr ha⟩, Bool.eq_false_iff.mpr ha]
            rfl
  have hR : stanchionref05_Right.f (k + 2) l = some (rightFrom l) := by
    unfold stanchionref05_Right.f
    exact ref_at l hl hz (l.length - 1) 1 (k + 2) rfl (Nat.le_refl _) (by omega)
  have j0 : ∀ x : Bool, stanchionref16_mayReply.j0 (k + 3) x a0 a1 a2 a3 a4 a5 l a7 = some (x && decide (0 ≤ a2 ∧ a2 ≤ 1073741824) && rightFrom l && decide ((0 ≤ a3 ∧ a3 ≤ 16) ∧ a4.size ≤ 64 ∧ l.length ≤ 16 ∧ l.any longP = false)) := by
    intro x
    rw [stanchionref16_mayReply.j0, small_p, bsp, hR, bsp]
    by_cases h2 : 0 ≤ a2 ∧ a2 ≤ 1073741824
    · rw [decide_eq_true h2, if_pos rfl, j1, Bool.and_true]
    · rw [decide_eq_false h2, if_neg (by decide), j1]
      simp only [Bool.and_false, Bool.false_and]
  unfold stanchionref16_mayReply.f
  rw [small_p, small_p, bsp, bsp]
  by_cases h0 : 0 ≤ a0 ∧ a0 ≤ 1073741824
  · rw [decide_eq_true h0, if_pos rfl, j0]
    refine congrArg some (Bool.eq_iff_iff.2 (Iff.trans (?_ : _ ↔ mayR a0 a1 a2 a3 a4 l) ⟨fun h => decide_eq_true h, fun h => of_decide_eq_true h⟩))
    simp only [Bool.and_eq_true, decide_eq_true_eq]
    exact ⟨fun ⟨⟨⟨g1, g2⟩, g3⟩, g4, g5, g6, g7⟩ => ⟨h0, g1, g2, g4, g5, g6, g3, g7⟩, fun ⟨_, g1, g2, g4, g5, g6, g3, g7⟩ => ⟨⟨⟨g1, g2⟩, g3⟩, g4, g5, g6, g7⟩⟩
  · rw [decide_eq_false h0, if_neg (by decide), j0]
    exact congrArg some (decide_eq_false fun h => h0 h.1).symm
end Go.Proofs.YtlpcidjmaeicoaaDoor.Enc
namespace Go.Proofs.YtlpcidjmaeicoaaDoor.Enc
open Go Go.RowKit Go.Proofs.YtlpcidjmaeicoaaDoor.DecM Go.Proofs.YtlpcidjmaeicoaaDoor.Giv Go.Proofs.YtlpcidjmaeicoaaDoor.Wire Go.Proofs.YtlpcidjmaeicoaaDoor.Reader Go.Proofs.YtlpcidjmaeicoaaDoor.QWi Go.Proofs.YtlpcidjmaeicoaaDoorW.PrintWords
theorem rdR_le (s : ByteArray) (is : Bool) (most : Int) (h : 0 ≤ most) : ((rdR s is most).1.size : Int) ≤ most := by
  unfold rdR
  split
  · rename_i hx
    exact (DecPure.text_was s most hx.2).2.1
  · exact h
theorem keys_snoc (l : List S74) (p : S74) : keys (l ++ [p]) = keys l + p.f0.size := by
  induction l with
  | nil => exact Nat.add_comm _ _
  | cons q l ih =>
    show q.f0.size + keys (l ++ [p]) = q.f0.size + keys l + p.f0.size
    rw [ih]
    omega
theorem rrI_keys (x : ByteArray × Bool) (i : Nat) : keys (rrI x i).1 ≤ 32 * i := by
  induction i with
  | zero => exact Nat.le_refl _
  | succ i ih =>
    show keys ((rrI x i).1 ++ [_]) ≤ _
    rw [keys_snoc]
    have h := rdR_le (rrI x i).2.2.1 (rrI x i).2.2.2 32 (by omega)
    show keys (rrI x i).1 + (rdR (rrI x i).2.2.1 (rrI x i).2.2.2 32).1.size ≤ _
    omega
def refP (a0 a1 a2 a3 : Int) (t : ByteArray) (f o : Bool) (p : List S74 × ByteArray × ByteArray × Bool) : S41 × Int :=
  if p.2.2.2 = false then (z41, 3) else if ¬ p.2.2.1.size = 0 then (z41, 3) else if decide (mayR a0 a1 a2 a3 t p.1) = true then (⟨a0, a1, a2, a3, t, f, p.1, o⟩, 0) else (z41, 3)
def refRepF (s : ByteArray) : S41 × Int :=
  nr (s, true) fun a1 x1 => nr x1 fun a2 x2 => nr x2 fun a3 x3 => nr x3 fun a4 x4 => tr x4 64 fun a5 x5 => nr x5 fun a6 x6 => nr x6 fun a7 x7 => nr x7 fun a8 x8 =>
    if x8.2 = false ∨ 1 < a6 ∨ 1 < a7 ∨ 16 < a8 ∨ 16 < a4 then (z41, 3) else refP a1 a2 a3 a4 a5 (a6 == 1) (a7 == 1) (rrI x8 a8.toNat)
theorem tkR_nonneg (s : ByteArray) (is : Bool) : 0 ≤ (tkR s is).1 := by
  unfold tkR
  split
  · exact takeNum_nonneg s
  · exact Int.le_refl _
theorem refRep_all (s : ByteArray) (hs : s.size ≤ 9223372036854775807) (w : World) : Calls Tryd.prog 18 #[.string s] w fun e w' => ∃ vr, e = .returned (repOut (refRepF s) vr) ∧ Kd.R k74 74 w' w.heap.size (fun _ => True) vr (refRepF s).1.f6 ∧ Below w.heap.size w w' := by
  obtain ⟨v1, h1⟩ : ∃ v, tkR s true = v := ⟨_, rfl⟩
  obtain ⟨v2, h2⟩ : ∃ v, tkR v1.2.1 v1.2.2 = v := ⟨_, rfl⟩
  obtain ⟨v3, h3⟩ : ∃ v, tkR v2.2.1 v2.2.2 = v := ⟨_, rfl⟩
  obtain ⟨v4, h4⟩ : ∃ v, tkR v3.2.1 v3.2.2 = v := ⟨_, rfl⟩
  obtain ⟨v5, h5⟩ : ∃ v, rdR v4.2.1 v4.2.2 64 = v := ⟨_, rfl⟩
  obtain ⟨v6, h6⟩ : ∃ v, tkR v5.2.1 v5.2.2 = v := ⟨_, rfl⟩
  obtain ⟨v7, h7⟩ : ∃ v, tkR v6.2.1 v6.2.2 = v := ⟨_, rfl⟩
  obtain ⟨v8, h8⟩ : ∃ v, tkR v7.2.1 v7.2.2 = v := ⟨_, rfl⟩
  have hF : refRepF s = if v8.2.2 = false ∨ 1 < v6.1 ∨ 1 < v7.1 ∨ 16 < v8.1 ∨ 16 < v4.1 then (z41, 3) else refP v1.1 v2.1 v3.1 v4.1 v5.1 (v6.1 == 1) (v7.1 == 1) (rrI v8.2 v8.1.toNat) := by
    unfold refRepF
    rw [nr_of _ h1, nr_of _ h2, nr_of _ h3, nr_of _ h4, tr_of _ h5, nr_of _ h6, nr_of _ h7, nr_of _ h8]
  have h8n := tkR_nonneg v7.2.1 v7.2.2
  rw [h8] at h8n
  obtain ⟨n8, r8, i8⟩ := v8
  dsimp only at hF h8n
  have e8 : (n8, r8, i8) = (((n8.toNat : Nat) : Int), r8, i8) := Prod.ext (by show n8 = ((n8.toNat : Nat) : Int); omega) rfl
  rw [e8] at h8
  cases i8 with
  | false =>
    rw [if_pos (.inl rfl)] at hF
    exact refrep_bad_false s w hs v1 v2 v3 v4 v5 v6 v7 n8.toNat r8 h1 h2 h3 h4 h5 h6 h7 h8 _ hF.symm
  | true =>
    by_cases hb : 1 < v6.1 ∨ 1 < v7.1 ∨ 16 < n8 ∨ 16 < v4.1
    · rw [if_pos (.inr hb)] at hF
      exact refrep_bad_true s w hs v1 v2 v3 v4 v5 v6 v7 n8.toNat r8 h1 h2 h3 h4 h5 h6 h7 h8 (by
        rcases hb with h | h | h | h
        · exact .inl h
        · exact .inr (.inl h)
        · exact .inr (.inr (.inl (by omega)))
        · exact .inr (.inr (.inr h))) _ hF.symm
    · rw [if_neg (by
        rintro (h | h)
        · cases h
        · exact hb h)] at hF
      have hl := rrI_length (r8, true) n8.toNat
      have hk := rrI_keys (r8, true) n8.toNat
      refine refrep_good s w hs v1 v2 v3 v4 v5 v6 v7 n8.toNat r8 h1 h2 h3 h4 h5 h6 h7 h8 (by omega) (by omega) (by omega) (by omega) 2000 _ (ref_mayReply 2000 _ _ _ _ _ _ _ _ (by omega) (fun x hx => ?_) (by omega)) _ hF.symm
      have := keys_mem _ x hx
      omega
end Go.Proofs.YtlpcidjmaeicoaaDoor.Enc
namespace Go.Proofs.YtlpcidjmaeicoaaDoor.QWi
open Go Go.RowKit Go.Proofs.YtlpcidjmaeicoaaDoor.Reader Go.Proofs.YtlpcidjmaeicoaaDoorW.PrintWords
theorem handle_rep {w w1 : World} (hg : Handle w) (hb : Below w.heap.size w w1) : Handle w1 := hg.below hb
def stanchionref16_TakeReply.f (_k : Nat) (s : ByteArray) : Option P9 := if s.size ≤ 9223372036854775807 then some (flatP (Enc.refRepF s)) else none
theorem stanchionref16_TakeReply.calls (k : Nat) (a0 : ByteArray) (r1 r2 r3 r4 : Int) (r5 : ByteArray) (r6 : Bool) (r7 : List S74) (r8 : Bool) (r9 : Int) (w : World) (h : stanchionref16_TakeReply.f k a0 = some (r1, r2, r3, r4, r5, r6, r7, r8, r9)) :
    Calls Tryd.prog 18 #[.string a0] w fun e w' => ∃ v6_ : Value, e = .returned (.tuple #[.agg #[.int .i64 r1, .int .i64 r2, .int .i64 r3, .int .i64 r4, .string r5, .bool r6, v6_, .bool r8], .int .i64 r9]) ∧ Kd.R k74 74 w' w.heap.size (fun _ => True) v6_ r7 ∧ Below w.heap.size w w' := by
  unfold stanchionref16_TakeReply.f at h
  by_cases hs : a0.size ≤ 9223372036854775807
  · rw [if_pos hs] at h
    have e := Option.some.inj h
    have c := Enc.refRep_all a0 hs w
    generalize Enc.refRepF a0 = P at e c
    obtain ⟨⟨b0, b1, b2, b3, b4, b5, b6, b7⟩, b8⟩ := P
    simp only [flatP, Prod.mk.injEq] at e
    obtain ⟨rfl, rfl, rfl, rfl, rfl, rfl, rfl, rfl, rfl⟩ := e
    exact c
  · rw [if_neg hs] at h
    cases h
end Go.Proofs.YtlpcidjmaeicoaaDoor.QWi
namespace Go.Proofs.YtlpcidjmaeicoaaDoor.QWi
open Go.RowKit Go.Proofs.YtlpcidjmaeicoaaDoorW.PrintWords Go.Proofs.YtlpcidjmaeicoaaDoorW.PrintLast Go.Proofs.YtlpcidjmaeicoaaDoorW.PrintMore
attribute [local go_sem] max2_int min2_int max_two min_two max_three min_three max_four min_four
set_option linter.unusedVariables false
set_option linter.unusedSimpArgs false
end Go.Proofs.YtlpcidjmaeicoaaDoor.QWi
namespace Go.Proofs.YtlpcidjmaeicoaaDoor.QWi
open Go.RowKit Go.Proofs.YtlpcidjmaeicoaaDoorW.PrintWords Go.Proofs.YtlpcidjmaeicoaaDoorW.PrintLast Go.Proofs.YtlpcidjmaeicoaaDoorW.PrintMore
attribute [local go_sem] max2_int min2_int max_two min_two max_three min_three max_four min_four
set_option linter.unusedVariables false
set_option linter.unusedSimpArgs false
def stanchionref16_num.f (a0 : Int) : Option (ByteArray) := (stanchionref01_Num.f (IntKind.u64.wrap (a0))).bind fun t165 => (some t165)
set_option maxHeartbeats 8000000 in
set_option maxRecDepth 100000 in
theorem stanchionref16_num.calls (a0 : Int) (r : ByteArray) (w : World) (h : stanchionref16_num.f a0 = some r) :
    Calls Tryd.prog 23 #[.int .i64 a0] w fun e w' => e = .returned (.string r) ∧ Below w.heap.size w w' := by
  have HB := Aside0.mk (Below.refl w.heap.size w)
  have H : ((stanchionref01_Num.f (IntKind.u64.wrap (a0))).bind fun t165 => (some t165)) = some r := h
  clear h
  replace H := Option.bind_eq_some_iff.mp H
  obtain ⟨t165, A20, H⟩ := H
  replace H : (some t165) = some r := H
  have A2 := Aside0.mk A20
  clear A20
  obtain rfl := Option.some.inj H
  go_enter Tryd.func23, Tryd.ntmps23
  go_wp2_with (first | ((with_reducible refine gate_callee (f := 42) rfl ?_); refine goesL_ (some 5) rfl rfl Tryd.func42 (by kernel_rfl) rfl #[.int .u64 (IntKind.u64.wrap (a0))] rfl (by (try simp only [List.map_toArray, List.map_cons, List.map_nil]); first | done | rfl | (simp only [List.length_drop, List.length_take]; rfl)) ?_; (with_reducible refine (stanchionref01_Num.calls (IntKind.u64.wrap (a0)) t165 _ A2.out).mono ?_); rintro e w3 ⟨rfl, hb⟩; refine ⟨_, rfl, ?_⟩; have n0_ := Aside0.mk (below_step (by repeat (first | (with_reducible first | exact HB.out | apply below_alloc | apply pw_below_drewN | apply below_drew1) | exact HB.out)) hb); clear HB; have HB := n0_; clear n0_; (try clear hb); (try clear hb2); (try clear hk); (try clear hi)))
  go_ret
  exact ⟨by first | rfl | (simp [errW_none, errW_some] <;> rfl) | (simp [*, errW_none, errW_some] <;> rfl), by repeat (first | (with_reducible first | exact HB.out | apply below_alloc | apply pw_below_drewN | apply below_drew1) | exact HB.out)⟩
def stanchionref16_text.f (a0 : ByteArray) : Option (ByteArray) := (stanchionref01_Text.f a0).bind fun t166 => (some t166)
set_option maxHeartbeats 8000000 in
set_option maxRecDepth 100000 in
theorem stanchionref16_text.calls (a0 : ByteArray) (r : ByteArray) (w : World) (h : stanchionref16_text.f a0 = some r) :
    Calls Tryd.prog 24 #[.string a0] w fun e w' => e = .returned (.string r) ∧ Below w.heap.size w w' := by
  have HB := Aside0.mk (Below.refl w.heap.size w)
  have H : ((stanchionref01_Text.f a0).bind fun t166 => (some t166)) = some r := h
  clear h
  replace H := Option.bind_eq_some_iff.mp H
  obtain ⟨t166, A20, H⟩ := H
  replace H : (some t166) = some r := H
  have A2 := Aside0.mk A20
  clear A20
  obtain rfl := Option.some.inj H
  go_enter Tryd.func24, Tryd.ntmps24
  go_wp2_with (first | ((with_reducible refine gate_callee (f := 43) rfl ?_); refine goesL_ (some 4) rfl rfl Tryd.func43 (by kernel_rfl) rfl #[.string a0] rfl (by (try simp only [List.map_toArray, List.map_cons, List.map_nil]); first | done | rfl | (simp only [List.length_drop, List.length_take]; rfl)) ?_; (with_reducible refine (stanchionref01_Text.calls a0 t166 _ A2.out).mono ?_); rintro e w3 ⟨rfl, hb⟩; refine ⟨_, rfl, ?_⟩; have n0_ := Aside0.mk (below_step (by repeat (first | (with_reducible first | exact HB.out | apply below_alloc | apply pw_below_drewN | apply below_drew1) | exact HB.out)) hb); clear HB; have HB := n0_; clear n0_; (try clear hb); (try clear hb2); (try clear hk); (try clear hi)))
  go_ret
  exact ⟨by first | rfl | (simp [errW_none, errW_some] <;> rfl) | (simp [*, errW_none, errW_some] <;> rfl), by repeat (first | (with_reducible first | exact HB.out | apply below_alloc | apply pw_below_drewN | apply below_drew1) | exact HB.out)⟩
end Go.Proofs.YtlpcidjmaeicoaaDoor.QWi
namespace Go.Proofs.YtlpcidjmaeicoaaDoor.QWi
open Go.RowKit Go.Proofs.YtlpcidjmaeicoaaDoorW.PrintWords Go.Proofs.YtlpcidjmaeicoaaDoorW.PrintLast Go.Proofs.YtlpcidjmaeicoaaDoorW.PrintMore
attribute [local go_sem] max2_int min2_int max_two min_two max_three min_three max_four min_four
set_option linter.unusedVariables false
set_option linter.unusedSimpArgs false
def stanchionref16_flag.f (a0 : Bool) : Option (ByteArray) := if a0 = true then (some (⟨#[49, 59]⟩ : ByteArray)) else (some (⟨#[48, 59]⟩ : ByteArray))
set_option maxHeartbeats 8000000 in
set_option maxRecDepth 100000 in
theorem stanchionref16_flag.calls (a0 : Bool) (r : ByteArray) (w : World) (h : stanchionref16_flag.f a0 = some r) :
    Calls Tryd.prog 35 #[.bool a0] w fun e w' => e = .returned (.string r) ∧ Drawn0 w w' := by
  have H : (if a0 = true then (some (⟨#[49, 59]⟩ : ByteArray)) else (some (⟨#[48, 59]⟩ : ByteArray))) = some r := h
  clear h
  by_cases c2 : a0 = true
  · subst c2
    have H1 : (some (⟨#[49, 59]⟩ : ByteArray)) = some r := by rw [if_pos rfl] at H; exact H
    clear H
    have H := H1
    clear H1
    obtain rfl := Option.some.inj H
    go_enter Tryd.func35, Tryd.ntmps35
    go_wp2
    go_ret
    exact ⟨by first | rfl | (simp; done) | (simp [*]; done), by repeat (first | exact Drawn0.refl _ | apply Drawn0.step)⟩
  · replace c2 := Bool.eq_false_iff.mpr c2
    subst c2
    have H1 : (some (⟨#[48, 59]⟩ : ByteArray)) = some r := by rw [if_neg (show ¬ (false = true) by decide)] at H; exact H
    clear H
    have H := H1
    clear H1
    obtain rfl := Option.some.inj H
    go_enter Tryd.func35, Tryd.ntmps35
    go_wp2
    go_ret
    exact ⟨by first | rfl | (simp; done) | (simp [*]; done), by repeat (first | exact Drawn0.refl _ | apply Drawn0.step)⟩
end Go.Proofs.YtlpcidjmaeicoaaDoor.QWi
namespace Go.Proofs.YtlpcidjmaeicoaaDoor.QWi
open Go.RowKit Go.Proofs.YtlpcidjmaeicoaaDoorW.PrintWords Go.Proofs.YtlpcidjmaeicoaaDoorW.PrintLast Go.Proofs.YtlpcidjmaeicoaaDoorW.PrintMore
attribute [local go_sem] max2_int min2_int max_two min_two max_three min_three max_four min_four
set_option linter.unusedVariables false
set_option linter.unusedSimpArgs false
def stanchionref16_Reply.l0 : Nat → ByteArray → Int → Int → Int → Int → Int → ByteArray → Bool → List (S74) → Bool → Option (ByteArray × Int)
  | 0, _, _, _, _, _, _, _, _, _, _ => none
  | k + 1, x5, x6, x191000, x191001, x191002, x191003, x191004, x191005, x191006, x191007 => if x6 < (x191006.length : Int) then (if 0 ≤ x6 then ((stanchionref16_text.f ((rd_T74 x191006 x6).f0)).bind fun t201 => (if x5.size + t201.size ≤ 9223372036854775807 then ((stanchionref16_text.f ((rd_T74 x191006 x6).f1)).bind fun t203 => (if (x5 ++ t201).size + t203.size ≤ 9223372036854775807 then (stanchionref16_Reply.l0 k ((x5 ++ t201) ++ t203) (wrap64 (x6 + 1)) x191000 x191001 x191002 x191003 x191004 x191005 x191006 x191007) else (none))) else (none))) else (none)) else (some (x5, 0))
def stanchionref16_Reply.f (k : Nat) (a0_0 : Int) (a0_1 : Int) (a0_2 : Int) (a0_3 : Int) (a0_4 : ByteArray) (a0_5 : Bool) (l0_6 : List (S74)) (a0_7 : Bool) : Option (ByteArray × Int) := (stanchionref16_mayReply.f k a0_0 a0_1 a0_2 a0_3 a0_4 a0_5 l0_6 a0_7).bind fun t191 => (if t191 = true then ((stanchionref16_num.f a0_0).bind fun t192 => ((stanchionref16_num.f a0_1).bind fun t193 => (if t192.size + t193.size ≤ 9223372036854775807 then ((stanchionref16_num.f a0_2).bind fun t194 => (if (t192 ++ t193).size + t194.size ≤ 9223372036854775807 then ((stanchionref16_num.f a0_3).bind fun t195 => (if ((t192 ++ t193) ++ t194).size + t195.size ≤ 9223372036854775807 then ((stanchionref16_text.f a0_4).bind fun t196 => (if (((t192 ++ t193) ++ t194) ++ t195).size + t196.size ≤ 9223372036854775807 then ((stanchionref16_flag.f a0_5).bind fun t197 => (if ((((t192 ++ t193) ++ t194) ++ t195) ++ t196).size + t197.size ≤ 9223372036854775807 then ((stanchionref16_flag.f a0_7).bind fun t198 => (if (((((t192 ++ t193) ++ t194) ++ t195) ++ t196) ++ t197).size + t198.size ≤ 9223372036854775807 then ((stanchionref16_num.f (l0_6.length : Int)).bind fun t199 => (if ((((((t192 ++ t193) ++ t194) ++ t195) ++ t196) ++ t197) ++ t198).size + t199.size ≤ 9223372036854775807 then (stanchionref16_Reply.l0 k (((((((t192 ++ t193) ++ t194) ++ t195) ++ t196) ++ t197) ++ t198) ++ t199) 0 a0_0 a0_1 a0_2 a0_3 a0_4 a0_5 l0_6 a0_7) else (none))) else (none))) else (none))) else (none))) else (none))) else (none))) else (none)))) else (some ((⟨#[]⟩ : ByteArray), 1)))
def stanchionref16_Reply.T4 : Bool × List (List Nat × List Nat) := (true, [([], []), ([0], [0]), ([1], [1]), ([], []), ([3], [3]), ([4, 2], [4]), ([2, 5], [2, 5]), ([], []), ([7], [7]), ([8, 5], [8]), ([6, 9], [6, 9]), ([], []), ([11], [11]), ([12, 9], [12]), ([10, 13], [10, 13]), ([], []), ([15], [15]), ([16, 13], [16]), ([14, 17], [14, 17]), ([], []), ([19], [19]), ([20, 17], [20]), ([18, 21], [18, 21]), ([], []), ([23], [23]), ([24, 21], [24]), ([22, 25], [22, 25]), ([], []), ([27], [27]), ([28], [28]), ([29, 25], [29]), ([26, 30], [26, 30]), ([31, 30, 0, 1, 2, 3, 4, 5, 6, 7, 8, 9, 10, 11, 12, 13, 14, 15, 16, 17, 18, 19, 20, 21, 22, 23, 24, 25, 26, 27, 28, 29, 30, 31], [31])])
def stanchionref16_Reply.B4 : List Nat := [0, 1, 3, 0, 8, 31, 63, 0, 128, 447, 1023, 0, 2048, 7103, 16383, 0, 32768, 113599, 262143, 0, 524288, 1817535, 4194303, 0, 8388608, 29080511, 67108863, 0, 134217728, 402653184, 1002159039, 2147483647, 4294967295]
theorem stanchionref16_Reply.tab4 : rtab .any (opsOf Tryd.f16 4) = stanchionref16_Reply.T4 := by kernel_rfl
theorem stanchionref16_Reply.bits4 : waitsOk stanchionref16_Reply.T4.2 stanchionref16_Reply.B4 = true := by kernel_rfl
def stanchionref16_Reply.T8 : Bool × List (List Nat × List Nat) := (true, [([], []), ([], []), ([1], [1]), ([], []), ([2, 3], [2, 3]), ([4], [4]), ([5], [5]), ([6], [6]), ([0, 7], [0, 7]), ([], []), ([9], [9]), ([], []), ([10, 11], [10, 11]), ([12], [12]), ([13], [13]), ([14, 7], [14]), ([8, 15], [8, 15]), ([16, 15, 0, 1, 2, 3, 4, 5, 6, 7, 8, 9, 10, 11, 12, 13, 14, 15, 16], [0, 16])])
def stanchionref16_Reply.B8 : List Nat := [0, 0, 2, 0, 14, 30, 62, 126, 255, 0, 512, 0, 3584, 7680, 15872, 32510, 65535, 131071]
theorem stanchionref16_Reply.tab8 : rtab .any (opsOf Tryd.f16 8) = stanchionref16_Reply.T8 := by kernel_rfl
theorem stanchionref16_Reply.bits8 : waitsOk stanchionref16_Reply.T8.2 stanchionref16_Reply.B8 = true := by kernel_rfl
set_option maxHeartbeats 8000000 in
set_option maxRecDepth 100000 in
theorem stanchionref16_Reply.calls (k : Nat) (a0_0 : Int) (a0_1 : Int) (a0_2 : Int) (a0_3 : Int) (a0_4 : ByteArray) (a0_5 : Bool) (A0_6 : Option Addr) (c0_6 : Nat) (l0_6 : List (S74)) (a0_7 : Bool) (r1 : ByteArray) (r2 : Int) (w : World) (hr0_6 : Kd.C k74 w A0_6 l0_6.length l0_6) (hc0_6 : l0_6.length ≤ c0_6) (h : stanchionref16_Reply.f k a0_0 a0_1 a0_2 a0_3 a0_4 a0_5 l0_6 a0_7 = some (r1, r2)) :
    Calls Tryd.prog 16 #[.agg #[.int .i64 a0_0, .int .i64 a0_1, .int .i64 a0_2, .int .i64 a0_3, .string a0_4, .bool a0_5, .slice A0_6 l0_6.length c0_6, .bool a0_7]] w fun e w' => e = .returned (.tuple #[.string r1, .int .i64 r2]) ∧ Below w.heap.size w w' := by
  have hu41 := Tryd.underlying41
  have HR0_6 := Aside0.mk hr0_6
  have HC0_6 := Aside0.mk hc0_6
  clear hr0_6 hc0_6
  have HB := Aside0.mk (Below.refl w.heap.size w)
  have H : ((stanchionref16_mayReply.f k a0_0 a0_1 a0_2 a0_3 a0_4 a0_5 l0_6 a0_7).bind fun t191 => (if t191 = true then ((stanchionref16_num.f a0_0).bind fun t192 => ((stanchionref16_num.f a0_1).bind fun t193 => (if t192.size + t193.size ≤ 9223372036854775807 then ((stanchionref16_num.f a0_2).bind fun t194 => (if (t192 ++ t193).size + t194.size ≤ 9223372036854775807 then ((stanchionref16_num.f a0_3).bind fun t195 => (if ((t192 ++ t193) ++ t194).size + t195.size ≤ 9223372036854775807 then ((stanchionref16_text.f a0_4).bind fun t196 => (if (((t192 ++ t193) ++ t194) ++ t195).size + t196.size ≤ 9223372036854775807 then ((stanchionref16_flag.f a0_5).bind fun t197 => (if ((((t192 ++ t193) ++ t194) ++ t195) ++ t196).size + t197.size ≤ 9223372036854775807 then ((stanchionref16_flag.f a0_7).bind fun t198 => (if (((((t192 ++ t193) ++ t194) ++ t195) ++ t196) ++ t197).size + t198.size ≤ 9223372036854775807 then ((stanchionref16_num.f (l0_6.length : Int)).bind fun t199 => (if ((((((t192 ++ t193) ++ t194) ++ t195) ++ t196) ++ t197) ++ t198).size + t199.size ≤ 9223372036854775807 then (stanchionref16_Reply.l0 k (((((((t192 ++ t193) ++ t194) ++ t195) ++ t196) ++ t197) ++ t198) ++ t199) 0 a0_0 a0_1 a0_2 a0_3 a0_4 a0_5 l0_6 a0_7) else (none))) else (none))) else (none))) else (none))) else (none))) else (none))) else (none)))) else (some ((⟨#[]⟩ : ByteArray), 1)))) = some (r1, r2) := h
  clear h
  replace H := Option.bind_eq_some_iff.mp H
  obtain ⟨t191, A20, H⟩ := H
  replace H : (if t191 = true then ((stanchionref16_num.f a0_0).bind fun t192 => ((stanchionref16_num.f a0_1).bind fun t193 => (if t192.size + t193.size ≤ 9223372036854775807 then ((stanchionref16_num.f a0_2).bind fun t194 => (if (t192 ++ t193).size + t194.size ≤ 9223372036854775807 then ((stanchionref16_num.f a0_3).bind fun t195 => (if ((t192 ++ t193) ++ t194).size + t195.size ≤ 9223372036854775807 then ((stanchionref16_text.f a0_4).bind fun t196 => (if (((t192 ++ t193) ++ t194) ++ t195).size + t196.size ≤ 9223372036854775807 then ((stanchionref16_flag.f a0_5).bind fun t197 => (if ((((t192 ++ t193) ++ t194) ++ t195) ++ t196).size + t197.size ≤ 9223372036854775807 then ((stanchionref16_flag.f a0_7).bind fun t198 => (if (((((t192 ++ t193) ++ t194) ++ t195) ++ t196) ++ t197).size + t198.size ≤ 9223372036854775807 then ((stanchionref16_num.f (l0_6.length : Int)).bind fun t199 => (if ((((((t192 ++ t193) ++ t194) ++ t195) ++ t196) ++ t197) ++ t198).size + t199.size ≤ 9223372036854775807 then (stanchionref16_Reply.l0 k (((((((t192 ++ t193) ++ t194) ++ t195) ++ t196) ++ t197) ++ t198) ++ t199) 0 a0_0 a0_1 a0_2 a0_3 a0_4 a0_5 l0_6 a0_7) else (none))) else (none))) else (none))) else (none))) else (none))) else (none))) else (none)))) else (some ((⟨#[]⟩ : ByteArray), 1))) = some (r1, r2) := H
  have A2 := Aside0.mk A20
  clear A20
  by_cases c3 : t191 = true
  · subst c3
    have H1 : ((stanchionref16_num.f a0_0).bind fun t192 => ((stanchionref16_num.f a0_1).bind fun t193 => (if t192.size + t193.size ≤ 9223372036854775807 then ((stanchionref16_num.f a0_2).bind fun t194 => (if (t192 ++ t193).size + t194.size ≤ 9223372036854775807 then ((stanchionref16_num.f a0_3).bind fun t195 => (if ((t192 ++ t193) ++ t194).size + t195.size ≤ 9223372036854775807 then ((stanchionref16_text.f a0_4).bind fun t196 => (if (((t192 ++ t193) ++ t194) ++ t195).size + t196.size ≤ 9223372036854775807 then ((stanchionref16_flag.f a0_5).bind fun t197 => (if ((((t192 ++ t193) ++ t194) ++ t195) ++ t196).size + t197.size ≤ 9223372036854775807 then ((stanchionref16_flag.f a0_7).bind fun t198 => (if (((((t192 ++ t193) ++ t194) ++ t195) ++ t196) ++ t197).size + t198.size ≤ 9223372036854775807 then ((stanchionref16_num.f (l0_6.length : Int)).bind fun t199 => (if ((((((t192 ++ t193) ++ t194) ++ t195) ++ t196) ++ t197) ++ t198).size + t199.size ≤ 9223372036854775807 then (stanchionref16_Reply.l0 k (((((((t192 ++ t193) ++ t194) ++ t195) ++ t196) ++ t197) ++ t198) ++ t199) 0 a0_0 a0_1 a0_2 a0_3 a0_4 a0_5 l0_6 a0_7) else (none))) else (none))) else (none))) else (none))) else (none))) else (none))) else (none)))) = some (r1, r2) := by rw [if_pos rfl] at H; exact H
    clear H
    have H := H1
    clear H1
    replace H := Option.bind_eq_some_iff.mp H
    obtain ⟨t192, A40, H⟩ := H
    replace H : ((stanchionref16_num.f a0_1).bind fun t193 => (if t192.size + t193.size ≤ 9223372036854775807 then ((stanchionref16_num.f a0_2).bind fun t194 => (if (t192 ++ t193).size + t194.size ≤ 9223372036854775807 then ((stanchionref16_num.f a0_3).bind fun t195 => (if ((t192 ++ t193) ++ t194).size + t195.size ≤ 9223372036854775807 then ((stanchionref16_text.f a0_4).bind fun t196 => (if (((t192 ++ t193) ++ t194) ++ t195).size + t196.size ≤ 9223372036854775807 then ((stanchionref16_flag.f a0_5).bind fun t197 => (if ((((t192 ++ t193) ++ t194) ++ t195) ++ t196).size + t197.size ≤ 9223372036854775807 then ((stanchionref16_flag.f a0_7).bind fun t198 => (if (((((t192 ++ t193) ++ t194) ++ t195) ++ t196) ++ t197).size + t198.size ≤ 9223372036854775807 then ((stanchionref16_num.f (l0_6.length : Int)).bind fun t199 => (if ((((((t192 ++ t193) ++ t194) ++ t195) ++ t196) ++ t197) ++ t198).size + t199.size ≤ 9223372036854775807 then (stanchionref16_Reply.l0 k (((((((t192 ++ t193) ++ t194) ++ t195) ++ t196) ++ t197) ++ t198) ++ t199) 0 a0_0 a0_1 a0_2 a0_3 a0_4 a0_5 l0_6 a0_7) else (none))) else (none))) else (none))) else (none))) else (none))) else (none))) else (none))) = some (r1, r2) := H
    have A4 := Aside0.mk A40
    clear A40
    replace H := Option.bind_eq_some_iff.mp H
    obtain ⟨t193, A50, H⟩ := H
    replace H : (if t192.size + t193.size ≤ 9223372036854775807 then ((stanchionref16_num.f a0_2).bind fun t194 => (if (t192 ++ t193).size + t194.size ≤ 9223372036854775807 then ((stanchionref16_num.f a0_3).bind fun t195 => (if ((t192 ++ t193) ++ t194).size + t195.size ≤ 9223372036854775807 then ((stanchionref16_text.f a0_4).bind fun t196 => (if (((t192 ++ t193) ++ t194) ++ t195).size + t196.size ≤ 9223372036854775807 then ((stanchionref16_flag.f a0_5).bind fun t197 => (if ((((t192 ++ t193) ++ t194) ++ t195) ++ t196).size + t197.size ≤ 9223372036854775807 then ((stanchionref16_flag.f a0_7).bind fun t198 => (if (((((t192 ++ t193) ++ t194) ++ t195) ++ t196) ++ t197).size + t198.size ≤ 9223372036854775807 then ((stanchionref16_num.f (l0_6.length : Int)).bind fun t199 => (if ((((((t192 ++ t193) ++ t194) ++ t195) ++ t196) ++ t197) ++ t198).size + t199.size ≤ 9223372036854775807 then (stanchionref16_Reply.l0 k (((((((t192 ++ t193) ++ t194) ++ t195) ++ t196) ++ t197) ++ t198) ++ t199) 0 a0_0 a0_1 a0_2 a0_3 a0_4 a0_5 l0_6 a0_7) else (none))) else (none))) else (none))) else (none))) else (none))) else (none))) else (none)) = some (r1, r2) := H
    have A5 := Aside0.mk A50
    clear A50
    by_cases c6 : t192.size + t193.size ≤ 9223372036854775807
    · rw [if_pos c6] at H
      have c6b0 := eq_true c6
      have c6b1 : decide (t192.size + t193.size ≤ 9223372036854775807) = true := decide_eq_true c6
      try have c6b2 : (9223372036854775807 < t192.size + t193.size) = False := eq_false (Nat.not_lt.2 c6)
      replace H := Option.bind_eq_some_iff.mp H
      obtain ⟨t194, A70, H⟩ := H
      replace H : (if (t192 ++ t193).size + t194.size ≤ 9223372036854775807 then ((stanchionref16_num.f a0_3).bind fun t195 => (if ((t192 ++ t193) ++ t194).size + t195.size ≤ 9223372036854775807 then ((stanchionref16_text.f a0_4).bind fun t196 => (if (((t192 ++ t193) ++ t194) ++ t195).size + t196.size ≤ 9223372036854775807 then ((stanchionref16_flag.f a0_5).bind fun t197 => (if ((((t192 ++ t193) ++ t194) ++ t195) ++ t196).size + t197.size ≤ 9223372036854775807 then ((stanchionref16_flag.f a0_7).bind fun t198 => (if (((((t192 ++ t193) ++ t194) ++ t195) ++ t196) ++ t197).size + t198.size ≤ 9223372036854775807 then ((stanchionref16_num.f (l0_6.length : Int)).bind fun t199 => (if ((((((t192 ++ t193) ++ t194) ++ t195) ++ t196) ++ t197) ++ t198).size + t199.size ≤ 9223372036854775807 then (stanchionref16_Reply.l0 k (((((((t192 ++ t193) ++ t194) ++ t195) ++ t196) ++ t197) ++ t198) ++ t199) 0 a0_0 a0_1 a0_2 a0_3 a0_4 a0_5 l0_6 a0_7) else (none))) else (none))) else (none))) else (none))) else (none))) else (none)) = some (r1, r2) := H
      have A7 := Aside0.mk A70
      clear A70
      by_cases c8 : (t192 ++ t193).size + t194.size ≤ 9223372036854775807
      · rw [if_pos c8] at H
        have c8b0 := eq_true c8
        have c8b1 : decide ((t192 ++ t193).size + t194.size ≤ 9223372036854775807) = true := decide_eq_true c8
        try have c8b2 : (9223372036854775807 < (t192 ++ t193).size + t194.size) = False := eq_false (Nat.not_lt.2 c8)
        try have c8b9 : (9223372036854775807 < t192.size + t193.size + t194.size) = False := by first | (rw [← ByteArray.size_append]; exact c8b2) | (have h9 := c8b2; simp only [ByteArray.size_append] at h9 ⊢; exact h9)
        replace H := Option.bind_eq_some_iff.mp H
        obtain ⟨t195, A90, H⟩ := H
        replace H : (if ((t192 ++ t193) ++ t194).size + t195.size ≤ 9223372036854775807 then ((stanchionref16_text.f a0_4).bind fun t196 => (if (((t192 ++ t193) ++ t194) ++ t195).size + t196.size ≤ 9223372036854775807 then ((stanchionref16_flag.f a0_5).bind fun t197 => (if ((((t192 ++ t193) ++ t194) ++ t195) ++ t196).size + t197.size ≤ 9223372036854775807 then ((stanchionref16_flag.f a0_7).bind fun t198 => (if (((((t192 ++ t193) ++ t194) ++ t195) ++ t196) ++ t197).size + t198.size ≤ 9223372036854775807 then ((stanchionref16_num.f (l0_6.length : Int)).bind fun t199 => (if ((((((t192 ++ t193) ++ t194) ++ t195) ++ t196) ++ t197) ++ t198).size + t199.size ≤ 9223372036854775807 then (stanchionref16_Reply.l0 k (((((((t192 ++ t193) ++ t194) ++ t195) ++ t196) ++ t197) ++ t198) ++ t199) 0 a0_0 a0_1 a0_2 a0_3 a0_4 a0_5 l0_6 a0_7) else (none))) else (none))) else (none))) else (none))) else (none)) = some (r1, r2) := H
        have A9 := Aside0.mk A90
        clear A90
        by_cases c10 : ((t192 ++ t193) ++ t194).size + t195.size ≤ 9223372036854775807
        · rw [if_pos c10] at H
          have c10b0 := eq_true c10
          have c10b1 : decide (((t192 ++ t193) ++ t194).size + t195.size ≤ 9223372036854775807) = true := decide_eq_true c10
          try have c10b2 : (9223372036854775807 < ((t192 ++ t193) ++ t194).size + t195.size) = False := eq_false (Nat.not_lt.2 c10)
          try have c10b9 : (9223372036854775807 < t192.size + t193.size + t194.size + t195.size) = False := by first | (rw [← ByteArray.size_append]; exact c10b2) | (have h9 := c10b2; simp only [ByteArray.size_append] at h9 ⊢; exact h9)
          replace H := Option.bind_eq_some_iff.mp H
          obtain ⟨t196, A110, H⟩ := H
          replace H : (if (((t192 ++ t193) ++ t194) ++ t195).size + t196.size ≤ 9223372036854775807 then ((stanchionref16_flag.f a0_5).bind fun t197 => (if ((((t192 ++ t193) ++ t194) ++ t195) ++ t196).size + t197.size ≤ 9223372036854775807 then ((stanchionref16_flag.f a0_7).bind fun t198 => (if (((((t192 ++ t193) ++ t194) ++ t195) ++ t196) ++ t197).size + t198.size ≤ 9223372036854775807 then ((stanchionref16_num.f (l0_6.length : Int)).bind fun t199 => (if ((((((t192 ++ t193) ++ t194) ++ t195) ++ t196) ++ t197) ++ t198).size + t199.size ≤ 9223372036854775807 then (stanchionref16_Reply.l0 k (((((((t192 ++ t193) ++ t194) ++ t195) ++ t196) ++ t197) ++ t198) ++ t199) 0 a0_0 a0_1 a0_2 a0_3 a0_4 a0_5 l0_6 a0_7) else (none))) else (none))) else (none))) else (none)) = some (r1, r2) := H
          have A11 := Aside0.mk A110
          clear A110
          by_cases c12 : (((t192 ++ t193) ++ t194) ++ t195).size + t196.size ≤ 9223372036854775807
          · rw [if_pos c12] at H
            have c12b0 := eq_true c12
            have c12b1 : decide ((((t192 ++ t193) ++ t194) ++ t195).size + t196.size ≤ 9223372036854775807) = true := decide_eq_true c12
            try have c12b2 : (9223372036854775807 < (((t192 ++ t193) ++ t194) ++ t195).size + t196.size) = False := eq_false (Nat.not_lt.2 c12)
            try have c12b9 : (9223372036854775807 < t192.size + t193.size + t194.size + t195.size + t196.size) = False := by first | (rw [← ByteArray.size_append]; exact c12b2) | (have h9 := c12b2; simp only [ByteArray.size_append] at h9 ⊢; exact h9)
            replace H := Option.bind_eq_some_iff.mp H
            obtain ⟨t197, A130, H⟩ := H
            replace H : (if ((((t192 ++ t193) ++ t194) ++ t195) ++ t196).size + t197.size ≤ 9223372036854775807 then ((stanchionref16_flag.f a0_7).bind fun t198 => (if (((((t192 ++ t193) ++ t194) ++ t195) ++ t196) ++ t197).size + t198.size ≤ 9223372036854775807 then ((stanchionref16_num.f (l0_6.length : Int)).bind fun t199 => (if ((((((t192 ++ t193) ++ t194) ++ t195) ++ t196) ++ t197) ++ t198).size + t199.size ≤ 9223372036854775807 then (stanchionref16_Reply.l0 k (((((((t192 ++ t193) ++ t194) ++ t195) ++ t196) ++ t197) ++ t198) ++ t199) 0 a0_0 a0_1 a0_2 a0_3 a0_4 a0_5 l0_6 a0_7) else (none))) else (none))) else (none)) = some (r1, r2) := H
            have A13 := Aside0.mk A130
            clear A130
            by_cases c14 : ((((t192 ++ t193) ++ t194) ++ t195) ++ t196).size + t197.size ≤ 9223372036854775807
            · rw [if_pos c14] at H
              have c14b0 := eq_true c14
              have c14b1 : decide (((((t192 ++ t193) ++ t194) ++ t195) ++ t196).size + t197.size ≤ 9223372036854775807) = true := decide_eq_true c14
              try have c14b2 : (9223372036854775807 < ((((t192 ++ t193) ++ t194) ++ t195) ++ t196).size + t197.size) = False := eq_false (Nat.not_lt.2 c14)
              try have c14b9 : (9223372036854775807 < t192.size + t193.size + t194.size + t195.size + t196.size + t197.size) = False := by first | (rw [← ByteArray.size_append]; exact c14b2) | (have h9 := c14b2; simp only [ByteArray.size_append] at h9 ⊢; exact h9)
              replace H := Option.bind_eq_some_iff.mp H
              obtain ⟨t198, A150, H⟩ := H
              replace H : (if (((((t192 ++ t193) ++ t194) ++ t195) ++ t196) ++ t197).size + t198.size ≤ 9223372036854775807 then ((stanchionref16_num.f (l0_6.length : Int)).bind fun t199 => (if ((((((t192 ++ t193) ++ t194) ++ t195) ++ t196) ++ t197) ++ t198).size + t199.size ≤ 9223372036854775807 then (stanchionref16_Reply.l0 k (((((((t192 ++ t193) ++ t194) ++ t195) ++ t196) ++ t197) ++ t198) ++ t199) 0 a0_0 a0_1 a0_2 a0_3 a0_4 a0_5 l0_6 a0_7) else (none))) else (none)) = some (r1, r2) := H
              have A15 := Aside0.mk A150
              clear A150
              by_cases c16 : (((((t192 ++ t193) ++ t194) ++ t195) ++ t196) ++ t197).size + t198.size ≤ 9223372036854775807
              · rw [if_pos c16] at H
                have c16b0 := eq_true c16
                have c16b1 : decide ((((((t192 ++ t193) ++ t194) ++ t195) ++ t196) ++ t197).size + t198.size ≤ 9223372036854775807) = true := decide_eq_true c16
                try have c16b2 : (9223372036854775807 < (((((t192 ++ t193) ++ t194) ++ t195) ++ t196) ++ t197).size + t198.size) = False := eq_false (Nat.not_lt.2 c16)
                try have c16b9 : (9223372036854775807 < t192.size + t193.size + t194.size + t195.size + t196.size + t197.size + t198.size) = False := by first | (rw [← ByteArray.size_append]; exact c16b2) | (have h9 := c16b2; simp only [ByteArray.size_append] at h9 ⊢; exact h9)
                replace H := Option.bind_eq_some_iff.mp H
                obtain ⟨t199, A170, H⟩ := H
                replace H : (if ((((((t192 ++ t193) ++ t194) ++ t195) ++ t196) ++ t197) ++ t198).size + t199.size ≤ 9223372036854775807 then (stanchionref16_Reply.l0 k (((((((t192 ++ t193) ++ t194) ++ t195) ++ t196) ++ t197) ++ t198) ++ t199) 0 a0_0 a0_1 a0_2 a0_3 a0_4 a0_5 l0_6 a0_7) else (none)) = some (r1, r2) := H
                have A17 := Aside0.mk A170
                clear A170
                by_cases c18 : ((((((t192 ++ t193) ++ t194) ++ t195) ++ t196) ++ t197) ++ t198).size + t199.size ≤ 9223372036854775807
                · rw [if_pos c18] at H
                  have c18b0 := eq_true c18
                  have c18b1 : decide (((((((t192 ++ t193) ++ t194) ++ t195) ++ t196) ++ t197) ++ t198).size + t199.size ≤ 9223372036854775807) = true := decide_eq_true c18
                  try have c18b2 : (9223372036854775807 < ((((((t192 ++ t193) ++ t194) ++ t195) ++ t196) ++ t197) ++ t198).size + t199.size) = False := eq_false (Nat.not_lt.2 c18)
                  try have c18b9 : (9223372036854775807 < t192.size + t193.size + t194.size + t195.size + t196.size + t197.size + t198.size + t199.size) = False := by first | (rw [← ByteArray.size_append]; exact c18b2) | (have h9 := c18b2; simp only [ByteArray.size_append] at h9 ⊢; exact h9)
                  have H' := Aside0.mk H
                  clear H
                  go_enter Tryd.func16, Tryd.ntmps16
                  try go_wp2_with (first | ((with_reducible refine gate_dst (N := 1) rfl ?_); refine box_event ?hg (N := 1) ?hd (cs := #[.int .i64 a0_0, .int .i64 a0_1, .int .i64 a0_2, .int .i64 a0_3, .string a0_4, .bool a0_5, .slice A0_6 l0_6.length c0_6, .bool a0_7]) (t := 41) ?hr ?_; (case hd => rfl); (case hg => rfl); (case hr => first | (go_simp; done) | (go_simp; rfl)); intro gb190 hg w19 hbox hb; have n0_ := Aside0.mk (below_step (by repeat (first | (with_reducible first | exact HB.out | apply below_alloc | apply pw_below_drewN | apply below_drew1) | exact HB.out)) hb); have n1_ := Aside0.mk (hbox); have n2_ := Aside0.mk ((by rw [hg]; exact (below_size (by repeat (first | (with_reducible first | exact HB.out | apply below_alloc | apply pw_below_drewN | apply below_drew1) | exact HB.out))) : w.heap.size ≤ gb190)); have n3_ := Aside0.mk ((by rw [hg]; exact (below_size (by repeat (first | (with_reducible first | exact HB.out | apply below_alloc | apply pw_below_drewN | apply below_drew1) | exact HB.out))) : w.heap.size ≤ gb190)); clear HB; have HB := n0_; have BK190 := n1_; have GW190 := n2_; have GE190 := n3_; clear n0_ n1_ n2_ n3_; clear hb hbox hg; have hcz20_0 : w19.cell? ⟨gb190, 0, none⟩ = some (.int .i64 a0_0) := (blk_cell BK190.out 0).trans rfl; have hcz20_1 : w19.cell? ⟨gb190, 1, none⟩ = some (.int .i64 a0_1) := (blk_cell BK190.out 1).trans rfl; have hcz20_2 : w19.cell? ⟨gb190, 2, none⟩ = some (.int .i64 a0_2) := (blk_cell BK190.out 2).trans rfl; have hcz20_3 : w19.cell? ⟨gb190, 3, none⟩ = some (.int .i64 a0_3) := (blk_cell BK190.out 3).trans rfl; have hcz20_4 : w19.cell? ⟨gb190, 4, none⟩ = some (.string a0_4) := (blk_cell BK190.out 4).trans rfl; have hcz20_5 : w19.cell? ⟨gb190, 5, none⟩ = some (.bool a0_5) := (blk_cell BK190.out 5).trans rfl; have hcz20_6 : w19.cell? ⟨gb190, 6, none⟩ = some (.slice A0_6 l0_6.length c0_6) := (blk_cell BK190.out 6).trans rfl; have hcz20_7 : w19.cell? ⟨gb190, 7, none⟩ = some (.bool a0_7) := (blk_cell BK190.out 7).trans rfl; have hfz20_0 := blk_frozen BK190.out 0; have hfz20_1 := blk_frozen BK190.out 1; have hfz20_2 := blk_frozen BK190.out 2; have hfz20_3 := blk_frozen BK190.out 3; have hfz20_4 := blk_frozen BK190.out 4; have hfz20_5 := blk_frozen BK190.out 5; have hfz20_6 := blk_frozen BK190.out 6; have hfz20_7 := blk_frozen BK190.out 7) | ((with_reducible refine gate_callee (f := 34) rfl ?_); refine goesL_ (some 8) rfl rfl Tryd.func34 (by kernel_rfl) rfl #[.agg #[.int .i64 a0_0, .int .i64 a0_1, .int .i64 a0_2, .int .i64 a0_3, .string a0_4, .bool a0_5, .slice A0_6 l0_6.length c0_6, .bool a0_7]] rfl (by (try simp only [List.map_toArray, List.map_cons, List.map_nil]); first | done | rfl | (simp only [List.length_drop, List.length_take]; rfl)) ?_; (with_reducible refine (stanchionref16_mayReply.calls k a0_0 a0_1 a0_2 a0_3 a0_4 a0_5 _ _ l0_6 a0_7 true _ ?side1 ?side2 A2.out).mono ?_); (case side1 => repeat (first | exact (Kd.C_below HR0_6.out HB.out) | (with_reducible refine Kd.C_alloc ?_ _) | (with_reducible refine Kd.C_drewN ?_ _) | (with_reducible refine Kd.C_drew ?_))); (case side2 => exact HC0_6.out); rintro e w21 ⟨rfl, hb⟩; refine ⟨_, rfl, ?_⟩; have n0_ := Aside0.mk (blk_below (g := gb190) (o := .cells #[.int .i64 a0_0, .int .i64 a0_1, .int .i64 a0_2, .int .i64 a0_3, .string a0_4, .bool a0_5, .slice A0_6 l0_6.length c0_6, .bool a0_7] 41 (0, 0)) (by (with_reducible repeat (first | refine blk_drewN ?_ _ | refine blk_drew ?_ | refine blk_alloc ?_ _)); exact BK190.out) hb); have n1_ := Aside0.mk (below_step (by repeat (first | (with_reducible first | exact HB.out | apply below_alloc | apply pw_below_drewN | apply below_drew1 | refine below_set ?_ GE190.out) | exact HB.out)) hb); clear BK190; clear HB; have BK190 := n0_; have HB := n1_; clear n0_ n1_; (try clear hb); (try clear hb2); (try clear hk); (try clear hi)))
                  have n0_ := Aside0.mk (blk_drew BK190.out)
                  have n1_ := Aside0.mk (below_drew1 HB.out)
                  clear BK190
                  clear HB
                  have BK190 := n0_
                  have HB := n1_
                  clear n0_ n1_
                  refine start_ (n := 33) (S := fun w' => w'.cell? ⟨gb190, 0, none⟩ = some (.int .i64 a0_0) ∧ w'.cell? ⟨gb190, 1, none⟩ = some (.int .i64 a0_1) ∧ w'.cell? ⟨gb190, 2, none⟩ = some (.int .i64 a0_2) ∧ w'.cell? ⟨gb190, 3, none⟩ = some (.int .i64 a0_3) ∧ w'.cell? ⟨gb190, 4, none⟩ = some (.string a0_4) ∧ w'.cell? ⟨gb190, 5, none⟩ = some (.bool a0_5) ∧ w'.cell? ⟨gb190, 6, none⟩ = some (.slice A0_6 l0_6.length c0_6) ∧ w'.cell? ⟨gb190, 7, none⟩ = some (.bool a0_7)) (ds := []) #[false, false, false, false, false, false, false, false, false, false, false, false, false, false, false, false, false, false, false, false, false, false, false, false, false, false, false, false, false, false, false, false, false] (by kernel_rfl) rfl rfl ⟨(blk_cell BK190.out 0).trans rfl, (blk_cell BK190.out 1).trans rfl, (blk_cell BK190.out 2).trans rfl, (blk_cell BK190.out 3).trans rfl, (blk_cell BK190.out 4).trans rfl, (blk_cell BK190.out 5).trans rfl, (blk_cell BK190.out 6).trans rfl, (blk_cell BK190.out 7).trans rfl⟩ (fun hHeld => ?_); refine with_tabW stanchionref16_Reply.tab4 stanchionref16_Reply.bits4 (fun HT_ HW_ => ?_)
                  generalize w21.drew = w22 at BK190 HB hHeld ⊢
                  refine pure_ (i := 0) (N := some 11) (v := ?_) (a' := ?_) #[true, false, false, false, false, false, false, false, false, false, false, false, false, false, false, false, false, false, false, false, false, false, false, false, false, false, false, false, false, false, false, false, false] rfl rfl (any_of HT_.out (by kernel_rfl)) (fun _ _ _ h => h) (Or.inl ⟨by rfl, ?_⟩) ?_ ?_
                  rotate_left
                  · intro w'
                    go_simp
                    with_reducible rfl
                  rotate_left
                  · simp only [Act.put, List.setIfInBounds_toArray, List.set_cons_zero, List.set_cons_succ, i64_w, i32_w]
                    rfl
                  refine pure_ (i := 3) (N := some 14) (v := ?_) (a' := ?_) #[true, false, false, true, false, false, false, false, false, false, false, false, false, false, false, false, false, false, false, false, false, false, false, false, false, false, false, false, false, false, false, false, false] rfl rfl (any_of HT_.out (by kernel_rfl)) (fun _ _ _ h => h) (Or.inl ⟨by rfl, ?_⟩) ?_ ?_
                  rotate_left
                  · intro w'
                    go_simp
                    with_reducible rfl
                  rotate_left
                  · simp only [Act.put, List.setIfInBounds_toArray, List.set_cons_zero, List.set_cons_succ, i64_w, i32_w]
                    rfl
                  refine pure_ (i := 7) (N := some 18) (v := ?_) (a' := ?_) #[true, false, false, true, false, false, false, true, false, false, false, false, false, false, false, false, false, false, false, false, false, false, false, false, false, false, false, false, false, false, false, false, false] rfl rfl (any_of HT_.out (by kernel_rfl)) (fun _ _ _ h => h) (Or.inl ⟨by rfl, ?_⟩) ?_ ?_
                  rotate_left
                  · intro w'
                    go_simp
                    with_reducible rfl
                  rotate_left
                  · simp only [Act.put, List.setIfInBounds_toArray, List.set_cons_zero, List.set_cons_succ, i64_w, i32_w]
                    rfl
                  refine pure_ (i := 11) (N := some 22) (v := ?_) (a' := ?_) #[true, false, false, true, false, false, false, true, false, false, false, true, false, false, false, false, false, false, false, false, false, false, false, false, false, false, false, false, false, false, false, false, false] rfl rfl (any_of HT_.out (by kernel_rfl)) (fun _ _ _ h => h) (Or.inl ⟨by rfl, ?_⟩) ?_ ?_
                  rotate_left
                  · intro w'
                    go_simp
                    with_reducible rfl
                  rotate_left
                  · simp only [Act.put, List.setIfInBounds_toArray, List.set_cons_zero, List.set_cons_succ, i64_w, i32_w]
                    rfl
                  refine pure_ (i := 15) (N := some 26) (v := ?_) (a' := ?_) #[true, false, false, true, false, false, false, true, false, false, false, true, false, false, false, true, false, false, false, false, false, false, false, false, false, false, false, false, false, false, false, false, false] rfl rfl (any_of HT_.out (by kernel_rfl)) (fun _ _ _ h => h) (Or.inl ⟨by rfl, ?_⟩) ?_ ?_
                  rotate_left
                  · intro w'
                    go_simp
                    with_reducible rfl
                  rotate_left
                  · simp only [Act.put, List.setIfInBounds_toArray, List.set_cons_zero, List.set_cons_succ, i64_w, i32_w]
                    rfl
                  refine pure_ (i := 19) (N := some 30) (v := ?_) (a' := ?_) #[true, false, false, true, false, false, false, true, false, false, false, true, false, false, false, true, false, false, false, true, false, false, false, false, false, false, false, false, false, false, false, false, false] rfl rfl (any_of HT_.out (by kernel_rfl)) (fun _ _ _ h => h) (Or.inl ⟨by rfl, ?_⟩) ?_ ?_
                  rotate_left
                  · intro w'
                    go_simp
                    with_reducible rfl
                  rotate_left
                  · simp only [Act.put, List.setIfInBounds_toArray, List.set_cons_zero, List.set_cons_succ, i64_w, i32_w]
                    rfl
                  refine pure_ (i := 23) (N := some 34) (v := ?_) (a' := ?_) #[true, false, false, true, false, false, false, true, false, false, false, true, false, false, false, true, false, false, false, true, false, false, false, true, false, false, false, false, false, false, false, false, false] rfl rfl (any_of HT_.out (by kernel_rfl)) (fun _ _ _ h => h) (Or.inl ⟨by rfl, ?_⟩) ?_ ?_
                  rotate_left
                  · intro w'
                    go_simp
                    with_reducible rfl
                  rotate_left
                  · simp only [Act.put, List.setIfInBounds_toArray, List.set_cons_zero, List.set_cons_succ, i64_w, i32_w]
                    rfl
                  refine pure_ (i := 27) (N := some 38) (v := ?_) (a' := ?_) #[true, false, false, true, false, false, false, true, false, false, false, true, false, false, false, true, false, false, false, true, false, false, false, true, false, false, false, true, false, false, false, false, false] rfl rfl (any_of HT_.out (by kernel_rfl)) (fun _ _ _ h => h) (Or.inl ⟨by rfl, ?_⟩) ?_ ?_
                  rotate_left
                  · intro w'
                    go_simp
                    with_reducible rfl
                  rotate_left
                  · simp only [Act.put, List.setIfInBounds_toArray, List.set_cons_zero, List.set_cons_succ, i64_w, i32_w]
                    rfl
                  refine take_ (i := 1) (N := some 12) (v := ?_) (a' := ?_) #[true, true, false, true, false, false, false, true, false, false, false, true, false, false, false, true, false, false, false, true, false, false, false, true, false, false, false, true, false, false, false, false, false] rfl rfl (take_ofW HT_.out HW_.out (by kernel_rfl)) (fun _ _ _ h => h) (Or.inl ⟨by rfl, ?_⟩) hHeld ?_ ?_
                  rotate_left
                  · rintro w' ⟨s0, s1, s2, s3, s4, s5, s6, s7⟩
                    go_simp
                    with_reducible rfl
                  rotate_left
                  · simp only [Act.put, List.setIfInBounds_toArray, List.set_cons_zero, List.set_cons_succ, i64_w, i32_w]
                    rfl
                  refine take_ (i := 4) (N := some 15) (v := ?_) (a' := ?_) #[true, true, false, true, true, false, false, true, false, false, false, true, false, false, false, true, false, false, false, true, false, false, false, true, false, false, false, true, false, false, false, false, false] rfl rfl (take_ofW HT_.out HW_.out (by kernel_rfl)) (fun _ _ _ h => h) (Or.inl ⟨by rfl, ?_⟩) hHeld ?_ ?_
                  rotate_left
                  · rintro w' ⟨s0, s1, s2, s3, s4, s5, s6, s7⟩
                    go_simp
                    with_reducible rfl
                  rotate_left
                  · simp only [Act.put, List.setIfInBounds_toArray, List.set_cons_zero, List.set_cons_succ, i64_w, i32_w]
                    rfl
                  refine take_ (i := 8) (N := some 19) (v := ?_) (a' := ?_) #[true, true, false, true, true, false, false, true, true, false, false, true, false, false, false, true, false, false, false, true, false, false, false, true, false, false, false, true, false, false, false, false, false] rfl rfl (take_ofW HT_.out HW_.out (by kernel_rfl)) (fun _ _ _ h => h) (Or.inl ⟨by rfl, ?_⟩) hHeld ?_ ?_
                  rotate_left
                  · rintro w' ⟨s0, s1, s2, s3, s4, s5, s6, s7⟩
                    go_simp
                    with_reducible rfl
                  rotate_left
                  · simp only [Act.put, List.setIfInBounds_toArray, List.set_cons_zero, List.set_cons_succ, i64_w, i32_w]
                    rfl
                  refine take_ (i := 12) (N := some 23) (v := ?_) (a' := ?_) #[true, true, false, true, true, false, false, true, true, false, false, true, true, false, false, true, false, false, false, true, false, false, false, true, false, false, false, true, false, false, false, false, false] rfl rfl (take_ofW HT_.out HW_.out (by kernel_rfl)) (fun _ _ _ h => h) (Or.inl ⟨by rfl, ?_⟩) hHeld ?_ ?_
                  rotate_left
                  · rintro w' ⟨s0, s1, s2, s3, s4, s5, s6, s7⟩
                    go_simp
                    with_reducible rfl
                  rotate_left
                  · simp only [Act.put, List.setIfInBounds_toArray, List.set_cons_zero, List.set_cons_succ, i64_w, i32_w]
                    rfl
                  refine take_ (i := 16) (N := some 27) (v := ?_) (a' := ?_) #[true, true, false, true, true, false, false, true, true, false, false, true, true, false, false, true, true, false, false, true, false, false, false, true, false, false, false, true, false, false, false, false, false] rfl rfl (take_ofW HT_.out HW_.out (by kernel_rfl)) (fun _ _ _ h => h) (Or.inl ⟨by rfl, ?_⟩) hHeld ?_ ?_
                  rotate_left
                  · rintro w' ⟨s0, s1, s2, s3, s4, s5, s6, s7⟩
                    go_simp
                    with_reducible rfl
                  rotate_left
                  · simp only [Act.put, List.setIfInBounds_toArray, List.set_cons_zero, List.set_cons_succ, i64_w, i32_w]
                    rfl
                  refine take_ (i := 20) (N := some 31) (v := ?_) (a' := ?_) #[true, true, false, true, true, false, false, true, true, false, false, true, true, false, false, true, true, false, false, true, true, false, false, true, false, false, false, true, false, false, false, false, false] rfl rfl (take_ofW HT_.out HW_.out (by kernel_rfl)) (fun _ _ _ h => h) (Or.inl ⟨by rfl, ?_⟩) hHeld ?_ ?_
                  rotate_left
                  · rintro w' ⟨s0, s1, s2, s3, s4, s5, s6, s7⟩
                    go_simp
                    with_reducible rfl
                  rotate_left
                  · simp only [Act.put, List.setIfInBounds_toArray, List.set_cons_zero, List.set_cons_succ, i64_w, i32_w]
                    rfl
                  refine take_ (i := 24) (N := some 35) (v := ?_) (a' := ?_) #[true, true, false, true, true, false, false, true, true, false, false, true, true, false, false, true, true, false, false, true, true, false, false, true, true, false, false, true, false, false, false, false, false] rfl rfl (take_ofW HT_.out HW_.out (by kernel_rfl)) (fun _ _ _ h => h) (Or.inl ⟨by rfl, ?_⟩) hHeld ?_ ?_
                  rotate_left
                  · rintro w' ⟨s0, s1, s2, s3, s4, s5, s6, s7⟩
                    go_simp
                    with_reducible rfl
                  rotate_left
                  · simp only [Act.put, List.setIfInBounds_toArray, List.set_cons_zero, List.set_cons_succ, i64_w, i32_w]
                    rfl
                  refine take_ (i := 28) (N := some 39) (v := ?_) (a' := ?_) #[true, true, false, true, true, false, false, true, true, false, false, true, true, false, false, true, true, false, false, true, true, false, false, true, true, false, false, true, true, false, false, false, false] rfl rfl (take_ofW HT_.out HW_.out (by kernel_rfl)) (fun _ _ _ h => h) (Or.inl ⟨by rfl, ?_⟩) hHeld ?_ ?_
                  rotate_left
                  · rintro w' ⟨s0, s1, s2, s3, s4, s5, s6, s7⟩
                    go_simp
                    with_reducible rfl
                  rotate_left
                  · simp only [Act.put, List.setIfInBounds_toArray, List.set_cons_zero, List.set_cons_succ, i64_w, i32_w]
                    rfl
                  refine pure_ (i := 29) (N := some 40) (v := ?_) (a' := ?_) #[true, true, false, true, true, false, false, true, true, false, false, true, true, false, false, true, true, false, false, true, true, false, false, true, true, false, false, true, true, true, false, false, false] rfl rfl (any_of HT_.out (by kernel_rfl)) (fun _ _ _ h => h) (Or.inl ⟨by rfl, ?_⟩) ?_ ?_
                  rotate_left
                  · intro w'
                    go_simp
                    with_reducible rfl
                  rotate_left
                  · simp only [Act.put, List.setIfInBounds_toArray, List.set_cons_zero, List.set_cons_succ, i64_w, i32_w]
                    rfl
                  refine one_ (i := 2) (N := some 13) #[true, true, true, true, true, false, false, true, true, false, false, true, true, false, false, true, true, false, false, true, true, false, false, true, true, false, false, true, true, true, false, false, false] rfl rfl (one_of HT_.out (by kernel_rfl)) (by decide) (fun K hK => ?_)
                  refine goes_ Tryd.func23 (by kernel_rfl) rfl #[.int .i64 a0_0] (by rfl) rfl rfl (by (try simp only [List.map_toArray, List.map_cons, List.map_nil]); first | done | rfl | (simp only [List.length_drop, List.length_take]; rfl)) ?_
                  with_reducible refine (stanchionref16_num.calls a0_0 t192 _ A4.out).mono ?_
                  rintro e w23 ⟨rfl, hb⟩
                  refine ⟨_, rfl, ?_⟩
                  have n0_ := Aside0.mk (blk_below (g := gb190) (o := .cells #[.int .i64 a0_0, .int .i64 a0_1, .int .i64 a0_2, .int .i64 a0_3, .string a0_4, .bool a0_5, .slice A0_6 l0_6.length c0_6, .bool a0_7] 41 (0, 0)) (by (with_reducible repeat (first | refine blk_drewN ?_ _ | refine blk_drew ?_ | refine blk_alloc ?_ _)); exact BK190.out) hb)
                  have n1_ := Aside0.mk (below_step (by repeat (first | (with_reducible first | exact HB.out | apply below_alloc | apply pw_below_drewN | apply below_drew1 | refine below_set ?_ GE190.out) | exact HB.out)) hb)
                  clear BK190
                  clear HB
                  have BK190 := n0_
                  have HB := n1_
                  clear n0_ n1_
                  (try clear hb)
                  (try clear hb2)
                  (try clear hk)
                  (try clear hi)
                  refine hK.out _ _ ⟨(blk_cell BK190.out 0).trans rfl, (blk_cell BK190.out 1).trans rfl, (blk_cell BK190.out 2).trans rfl, (blk_cell BK190.out 3).trans rfl, (blk_cell BK190.out 4).trans rfl, (blk_cell BK190.out 5).trans rfl, (blk_cell BK190.out 6).trans rfl, (blk_cell BK190.out 7).trans rfl⟩ (fun hHeld => ?_)
                  clear hK K
                  refine norm_ (a' := ?_) ?_ ?_
                  rotate_left
                  · show Act.put _ (some 13) _ = _
                    simp only [Act.put, List.setIfInBounds_toArray, List.set_cons_zero, List.set_cons_succ, i64_w, i32_w]
                    rfl
                  refine one_ (i := 5) (N := some 16) #[true, true, true, true, true, true, false, true, true, false, false, true, true, false, false, true, true, false, false, true, true, false, false, true, true, false, false, true, true, true, false, false, false] rfl rfl (one_of HT_.out (by kernel_rfl)) (by decide) (fun K hK => ?_)
                  refine goes_ Tryd.func23 (by kernel_rfl) rfl #[.int .i64 a0_1] (by rfl) rfl rfl (by (try simp only [List.map_toArray, List.map_cons, List.map_nil]); first | done | rfl | (simp only [List.length_drop, List.length_take]; rfl)) ?_
                  with_reducible refine (stanchionref16_num.calls a0_1 t193 _ A5.out).mono ?_
                  rintro e w24 ⟨rfl, hb⟩
                  refine ⟨_, rfl, ?_⟩
                  have n0_ := Aside0.mk (blk_below (g := gb190) (o := .cells #[.int .i64 a0_0, .int .i64 a0_1, .int .i64 a0_2, .int .i64 a0_3, .string a0_4, .bool a0_5, .slice A0_6 l0_6.length c0_6, .bool a0_7] 41 (0, 0)) (by (with_reducible repeat (first | refine blk_drewN ?_ _ | refine blk_drew ?_ | refine blk_alloc ?_ _)); exact BK190.out) hb)
                  have n1_ := Aside0.mk (below_step (by repeat (first | (with_reducible first | exact HB.out | apply below_alloc | apply pw_below_drewN | apply below_drew1 | refine below_set ?_ GE190.out) | exact HB.out)) hb)
                  clear BK190
                  clear HB
                  have BK190 := n0_
                  have HB := n1_
                  clear n0_ n1_
                  (try clear hb)
                  (try clear hb2)
                  (try clear hk)
                  (try clear hi)
                  refine hK.out _ _ ⟨(blk_cell BK190.out 0).trans rfl, (blk_cell BK190.out 1).trans rfl, (blk_cell BK190.out 2).trans rfl, (blk_cell BK190.out 3).trans rfl, (blk_cell BK190.out 4).trans rfl, (blk_cell BK190.out 5).trans rfl, (blk_cell BK190.out 6).trans rfl, (blk_cell BK190.out 7).trans rfl⟩ (fun hHeld => ?_)
                  clear hK K
                  refine norm_ (a' := ?_) ?_ ?_
                  rotate_left
                  · show Act.put _ (some 16) _ = _
                    simp only [Act.put, List.setIfInBounds_toArray, List.set_cons_zero, List.set_cons_succ, i64_w, i32_w]
                    rfl
                  refine pure_ (i := 6) (N := some 17) (v := ?_) (a' := ?_) #[true, true, true, true, true, true, true, true, true, false, false, true, true, false, false, true, true, false, false, true, true, false, false, true, true, false, false, true, true, true, false, false, false] rfl rfl (any_of HT_.out (by kernel_rfl)) (fun _ _ _ h => h) (Or.inl ⟨by rfl, ?_⟩) ?_ ?_
                  rotate_left
                  · intro w'
                    go_simp
                    with_reducible rfl
                  rotate_left
                  · simp only [Act.put, List.setIfInBounds_toArray, List.set_cons_zero, List.set_cons_succ, i64_w, i32_w]
                    rfl
                  refine one_ (i := 9) (N := some 20) #[true, true, true, true, true, true, true, true, true, true, false, true, true, false, false, true, true, false, false, true, true, false, false, true, true, false, false, true, true, true, false, false, false] rfl rfl (one_of HT_.out (by kernel_rfl)) (by decide) (fun K hK => ?_)
                  refine goes_ Tryd.func23 (by kernel_rfl) rfl #[.int .i64 a0_2] (by rfl) rfl rfl (by (try simp only [List.map_toArray, List.map_cons, List.map_nil]); first | done | rfl | (simp only [List.length_drop, List.length_take]; rfl)) ?_
                  with_reducible refine (stanchionref16_num.calls a0_2 t194 _ A7.out).mono ?_
                  rintro e w25 ⟨rfl, hb⟩
                  refine ⟨_, rfl, ?_⟩
                  have n0_ := Aside0.mk (blk_below (g := gb190) (o := .cells #[.int .i64 a0_0, .int .i64 a0_1, .int .i64 a0_2, .int .i64 a0_3, .string a0_4, .bool a0_5, .slice A0_6 l0_6.length c0_6, .bool a0_7] 41 (0, 0)) (by (with_reducible repeat (first | refine blk_drewN ?_ _ | refine blk_drew ?_ | refine blk_alloc ?_ _)); exact BK190.out) hb)
                  have n1_ := Aside0.mk (below_step (by repeat (first | (with_reducible first | exact HB.out | apply below_alloc | apply pw_below_drewN | apply below_drew1 | refine below_set ?_ GE190.out) | exact HB.out)) hb)
                  clear BK190
                  clear HB
                  have BK190 := n0_
                  have HB := n1_
                  clear n0_ n1_
                  (try clear hb)
                  (try clear hb2)
                  (try clear hk)
                  (try clear hi)
                  refine hK.out _ _ ⟨(blk_cell BK190.out 0).trans rfl, (blk_cell BK190.out 1).trans rfl, (blk_cell BK190.out 2).trans rfl, (blk_cell BK190.out 3).trans rfl, (blk_cell BK190.out 4).trans rfl, (blk_cell BK190.out 5).trans rfl, (blk_cell BK190.out 6).trans rfl, (blk_cell BK190.out 7).trans rfl⟩ (fun hHeld => ?_)
                  clear hK K
                  refine norm_ (a' := ?_) ?_ ?_
                  rotate_left
                  · show Act.put _ (some 20) _ = _
                    simp only [Act.put, List.setIfInBounds_toArray, List.set_cons_zero, List.set_cons_succ, i64_w, i32_w]
                    rfl
                  refine pure_ (i := 10) (N := some 21) (v := ?_) (a' := ?_) #[true, true, true, true, true, true, true, true, true, true, true, true, true, false, false, true, true, false, false, true, true, false, false, true, true, false, false, true, true, true, false, false, false] rfl rfl (any_of HT_.out (by kernel_rfl)) (fun _ _ _ h => h) (Or.inl ⟨by rfl, ?_⟩) ?_ ?_
                  rotate_left
                  · intro w'
                    go_simp
                    with_reducible rfl
                  rotate_left
                  · simp only [Act.put, List.setIfInBounds_toArray, List.set_cons_zero, List.set_cons_succ, i64_w, i32_w]
                    rfl
                  refine one_ (i := 13) (N := some 24) #[true, true, true, true, true, true, true, true, true, true, true, true, true, true, false, true, true, false, false, true, true, false, false, true, true, false, false, true, true, true, false, false, false] rfl rfl (one_of HT_.out (by kernel_rfl)) (by decide) (fun K hK => ?_)
                  refine goes_ Tryd.func23 (by kernel_rfl) rfl #[.int .i64 a0_3] (by rfl) rfl rfl (by (try simp only [List.map_toArray, List.map_cons, List.map_nil]); first | done | rfl | (simp only [List.length_drop, List.length_take]; rfl)) ?_
                  with_reducible refine (stanchionref16_num.calls a0_3 t195 _ A9.out).mono ?_
                  rintro e w26 ⟨rfl, hb⟩
                  refine ⟨_, rfl, ?_⟩
                  have n0_ := Aside0.mk (blk_below (g := gb190) (o := .cells #[.int .i64 a0_0, .int .i64 a0_1, .int .i64 a0_2, .int .i64 a0_3, .string a0_4, .bool a0_5, .slice A0_6 l0_6.length c0_6, .bool a0_7] 41 (0, 0)) (by (with_reducible repeat (first | refine blk_drewN ?_ _ | refine blk_drew ?_ | refine blk_alloc ?_ _)); exact BK190.out) hb)
                  have n1_ := Aside0.mk (below_step (by repeat (first | (with_reducible first | exact HB.out | apply below_alloc | apply pw_below_drewN | apply below_drew1 | refine below_set ?_ GE190.out) | exact HB.out)) hb)
                  clear BK190
                  clear HB
                  have BK190 := n0_
                  have HB := n1_
                  clear n0_ n1_
                  (try clear hb)
                  (try clear hb2)
                  (try clear hk)
                  (try clear hi)
                  refine hK.out _ _ ⟨(blk_cell BK190.out 0).trans rfl, (blk_cell BK190.out 1).trans rfl, (blk_cell BK190.out 2).trans rfl, (blk_cell BK190.out 3).trans rfl, (blk_cell BK190.out 4).trans rfl, (blk_cell BK190.out 5).trans rfl, (blk_cell BK190.out 6).trans rfl, (blk_cell BK190.out 7).trans rfl⟩ (fun hHeld => ?_)
                  clear hK K
                  refine norm_ (a' := ?_) ?_ ?_
                  rotate_left
                  · show Act.put _ (some 24) _ = _
                    simp only [Act.put, List.setIfInBounds_toArray, List.set_cons_zero, List.set_cons_succ, i64_w, i32_w]
                    rfl
                  refine pure_ (i := 14) (N := some 25) (v := ?_) (a' := ?_) #[true, true, true, true, true, true, true, true, true, true, true, true, true, true, true, true, true, false, false, true, true, false, false, true, true, false, false, true, true, true, false, false, false] rfl rfl (any_of HT_.out (by kernel_rfl)) (fun _ _ _ h => h) (Or.inl ⟨by rfl, ?_⟩) ?_ ?_
                  rotate_left
                  · intro w'
                    go_simp
                    with_reducible rfl
                  rotate_left
                  · simp only [Act.put, List.setIfInBounds_toArray, List.set_cons_zero, List.set_cons_succ, i64_w, i32_w]
                    rfl
                  refine one_ (i := 17) (N := some 28) #[true, true, true, true, true, true, true, true, true, true, true, true, true, true, true, true, true, true, false, true, true, false, false, true, true, false, false, true, true, true, false, false, false] rfl rfl (one_of HT_.out (by kernel_rfl)) (by decide) (fun K hK => ?_)
                  refine goes_ Tryd.func24 (by kernel_rfl) rfl #[.string a0_4] (by rfl) rfl rfl (by (try simp only [List.map_toArray, List.map_cons, List.map_nil]); first | done | rfl | (simp only [List.length_drop, List.length_take]; rfl)) ?_
                  with_reducible refine (stanchionref16_text.calls a0_4 t196 _ A11.out).mono ?_
                  rintro e w27 ⟨rfl, hb⟩
                  refine ⟨_, rfl, ?_⟩
                  have n0_ := Aside0.mk (blk_below (g := gb190) (o := .cells #[.int .i64 a0_0, .int .i64 a0_1, .int .i64 a0_2, .int .i64 a0_3, .string a0_4, .bool a0_5, .slice A0_6 l0_6.length c0_6, .bool a0_7] 41 (0, 0)) (by (with_reducible repeat (first | refine blk_drewN ?_ _ | refine blk_drew ?_ | refine blk_alloc ?_ _)); exact BK190.out) hb)
                  have n1_ := Aside0.mk (below_step (by repeat (first | (with_reducible first | exact HB.out | apply below_alloc | apply pw_below_drewN | apply below_drew1 | refine below_set ?_ GE190.out) | exact HB.out)) hb)
                  clear BK190
                  clear HB
                  have BK190 := n0_
                  have HB := n1_
                  clear n0_ n1_
                  (try clear hb)
                  (try clear hb2)
                  (try clear hk)
                  (try clear hi)
                  refine hK.out _ _ ⟨(blk_cell BK190.out 0).trans rfl, (blk_cell BK190.out 1).trans rfl, (blk_cell BK190.out 2).trans rfl, (blk_cell BK190.out 3).trans rfl, (blk_cell BK190.out 4).trans rfl, (blk_cell BK190.out 5).trans rfl, (blk_cell BK190.out 6).trans rfl, (blk_cell BK190.out 7).trans rfl⟩ (fun hHeld => ?_)
                  clear hK K
                  refine norm_ (a' := ?_) ?_ ?_
                  rotate_left
                  · show Act.put _ (some 28) _ = _
                    simp only [Act.put, List.setIfInBounds_toArray, List.set_cons_zero, List.set_cons_succ, i64_w, i32_w]
                    rfl
                  refine pure_ (i := 18) (N := some 29) (v := ?_) (a' := ?_) #[true, true, true, true, true, true, true, true, true, true, true, true, true, true, true, true, true, true, true, true, true, false, false, true, true, false, false, true, true, true, false, false, false] rfl rfl (any_of HT_.out (by kernel_rfl)) (fun _ _ _ h => h) (Or.inl ⟨by rfl, ?_⟩) ?_ ?_
                  rotate_left
                  · intro w'
                    go_simp
                    with_reducible rfl
                  rotate_left
                  · simp only [Act.put, List.setIfInBounds_toArray, List.set_cons_zero, List.set_cons_succ, i64_w, i32_w]
                    rfl
                  refine one_ (i := 21) (N := some 32) #[true, true, true, true, true, true, true, true, true, true, true, true, true, true, true, true, true, true, true, true, true, true, false, true, true, false, false, true, true, true, false, false, false] rfl rfl (one_of HT_.out (by kernel_rfl)) (by decide) (fun K hK => ?_)
                  refine goes_ Tryd.func35 (by kernel_rfl) rfl #[.bool a0_5] (by rfl) rfl rfl (by (try simp only [List.map_toArray, List.map_cons, List.map_nil]); first | done | rfl | (simp only [List.length_drop, List.length_take]; rfl)) ?_
                  with_reducible refine (stanchionref16_flag.calls a0_5 t197 _ A13.out).mono ?_
                  rintro e w' ⟨rfl, ⟨nd, rfl⟩⟩
                  refine ⟨_, rfl, ?_⟩
                  refine hK.out _ _ ⟨(blk_cell BK190.out 0).trans rfl, (blk_cell BK190.out 1).trans rfl, (blk_cell BK190.out 2).trans rfl, (blk_cell BK190.out 3).trans rfl, (blk_cell BK190.out 4).trans rfl, (blk_cell BK190.out 5).trans rfl, (blk_cell BK190.out 6).trans rfl, (blk_cell BK190.out 7).trans rfl⟩ (fun hHeld => ?_)
                  clear hK K
                  refine norm_ (a' := ?_) ?_ ?_
                  rotate_left
                  · show Act.put _ (some 32) _ = _
                    simp only [Act.put, List.setIfInBounds_toArray, List.set_cons_zero, List.set_cons_succ, i64_w, i32_w]
                    rfl
                  refine pure_ (i := 22) (N := some 33) (v := ?_) (a' := ?_) #[true, true, true, true, true, true, true, true, true, true, true, true, true, true, true, true, true, true, true, true, true, true, true, true, true, false, false, true, true, true, false, false, false] rfl rfl (any_of HT_.out (by kernel_rfl)) (fun _ _ _ h => h) (Or.inl ⟨by rfl, ?_⟩) ?_ ?_
                  rotate_left
                  · intro w'
                    go_simp
                    with_reducible rfl
                  rotate_left
                  · simp only [Act.put, List.setIfInBounds_toArray, List.set_cons_zero, List.set_cons_succ, i64_w, i32_w]
                    rfl
                  refine one_ (i := 25) (N := some 36) #[true, true, true, true, true, true, true, true, true, true, true, true, true, true, true, true, true, true, true, true, true, true, true, true, true, true, false, true, true, true, false, false, false] rfl rfl (one_of HT_.out (by kernel_rfl)) (by decide) (fun K hK => ?_)
                  refine goes_ Tryd.func35 (by kernel_rfl) rfl #[.bool a0_7] (by rfl) rfl rfl (by (try simp only [List.map_toArray, List.map_cons, List.map_nil]); first | done | rfl | (simp only [List.length_drop, List.length_take]; rfl)) ?_
                  with_reducible refine (stanchionref16_flag.calls a0_7 t198 _ A15.out).mono ?_
                  rintro e w' ⟨rfl, ⟨nd, rfl⟩⟩
                  refine ⟨_, rfl, ?_⟩
                  refine hK.out _ _ ⟨(blk_cell BK190.out 0).trans rfl, (blk_cell BK190.out 1).trans rfl, (blk_cell BK190.out 2).trans rfl, (blk_cell BK190.out 3).trans rfl, (blk_cell BK190.out 4).trans rfl, (blk_cell BK190.out 5).trans rfl, (blk_cell BK190.out 6).trans rfl, (blk_cell BK190.out 7).trans rfl⟩ (fun hHeld => ?_)
                  clear hK K
                  refine norm_ (a' := ?_) ?_ ?_
                  rotate_left
                  · show Act.put _ (some 36) _ = _
                    simp only [Act.put, List.setIfInBounds_toArray, List.set_cons_zero, List.set_cons_succ, i64_w, i32_w]
                    rfl
                  refine pure_ (i := 26) (N := some 37) (v := ?_) (a' := ?_) #[true, true, true, true, true, true, true, true, true, true, true, true, true, true, true, true, true, true, true, true, true, true, true, true, true, true, true, true, true, true, false, false, false] rfl rfl (any_of HT_.out (by kernel_rfl)) (fun _ _ _ h => h) (Or.inl ⟨by rfl, ?_⟩) ?_ ?_
                  rotate_left
                  · intro w'
                    go_simp
                    with_reducible rfl
                  rotate_left
                  · simp only [Act.put, List.setIfInBounds_toArray, List.set_cons_zero, List.set_cons_succ, i64_w, i32_w]
                    rfl
                  refine one_ (i := 30) (N := some 41) #[true, true, true, true, true, true, true, true, true, true, true, true, true, true, true, true, true, true, true, true, true, true, true, true, true, true, true, true, true, true, true, false, false] rfl rfl (one_of HT_.out (by kernel_rfl)) (by decide) (fun K hK => ?_)
                  refine goes_ Tryd.func23 (by kernel_rfl) rfl #[.int .i64 (l0_6.length : Int)] (by rfl) rfl rfl (by (try simp only [List.map_toArray, List.map_cons, List.map_nil]); first | done | rfl | (simp only [List.length_drop, List.length_take]; rfl)) ?_
                  with_reducible refine (stanchionref16_num.calls (l0_6.length : Int) t199 _ A17.out).mono ?_
                  rintro e w28 ⟨rfl, hb⟩
                  refine ⟨_, rfl, ?_⟩
                  have n0_ := Aside0.mk (blk_below (g := gb190) (o := .cells #[.int .i64 a0_0, .int .i64 a0_1, .int .i64 a0_2, .int .i64 a0_3, .string a0_4, .bool a0_5, .slice A0_6 l0_6.length c0_6, .bool a0_7] 41 (0, 0)) (by (with_reducible repeat (first | refine blk_drewN ?_ _ | refine blk_drew ?_ | refine blk_alloc ?_ _)); exact BK190.out) hb)
                  have n1_ := Aside0.mk (below_step (by repeat (first | (with_reducible first | exact HB.out | apply below_alloc | apply pw_below_drewN | apply below_drew1 | refine below_set ?_ GE190.out) | exact HB.out)) hb)
                  clear BK190
                  clear HB
                  have BK190 := n0_
                  have HB := n1_
                  clear n0_ n1_
                  (try clear hb)
                  (try clear hb2)
                  (try clear hk)
                  (try clear hi)
                  refine hK.out _ _ ⟨(blk_cell BK190.out 0).trans rfl, (blk_cell BK190.out 1).trans rfl, (blk_cell BK190.out 2).trans rfl, (blk_cell BK190.out 3).trans rfl, (blk_cell BK190.out 4).trans rfl, (blk_cell BK190.out 5).trans rfl, (blk_cell BK190.out 6).trans rfl, (blk_cell BK190.out 7).trans rfl⟩ (fun hHeld => ?_)
                  clear hK K
                  refine norm_ (a' := ?_) ?_ ?_
                  rotate_left
                  · show Act.put _ (some 41) _ = _
                    simp only [Act.put, List.setIfInBounds_toArray, List.set_cons_zero, List.set_cons_succ, i64_w, i32_w]
                    rfl
                  refine pure_ (i := 31) (N := some 42) (v := ?_) (a' := ?_) #[true, true, true, true, true, true, true, true, true, true, true, true, true, true, true, true, true, true, true, true, true, true, true, true, true, true, true, true, true, true, true, true, false] rfl rfl (any_of HT_.out (by kernel_rfl)) (fun _ _ _ h => h) (Or.inl ⟨by rfl, ?_⟩) ?_ ?_
                  rotate_left
                  · intro w'
                    go_simp
                    with_reducible rfl
                  rotate_left
                  · simp only [Act.put, List.setIfInBounds_toArray, List.set_cons_zero, List.set_cons_succ, i64_w, i32_w]
                    rfl
                  refine pure_ (i := 32) (N := some 5) (v := ?_) (a' := ?_) #[true, true, true, true, true, true, true, true, true, true, true, true, true, true, true, true, true, true, true, true, true, true, true, true, true, true, true, true, true, true, true, true, true] rfl rfl (any_of HT_.out (by kernel_rfl)) (fun _ _ _ h => h) (Or.inl ⟨by rfl, ?_⟩) ?_ ?_
                  rotate_left
                  · intro w'
                    go_simp
                    with_reducible rfl
                  rotate_left
                  · simp only [Act.put, List.setIfInBounds_toArray, List.set_cons_zero, List.set_cons_succ, i64_w, i32_w]
                    rfl
                  refine done_ (done_of HT_.out (by kernel_rfl)) ?_
                  try go_wp2
                  go_loopg [5, 6] k (fun kq v5 v6 w' => ∃ (x5_1 : ByteArray) (x6_1 : Int), v5 = .string x5_1 ∧ v6 = .int .i64 x6_1 ∧ Aside0 (stanchionref16_Reply.l0 kq x5_1 x6_1 a0_0 a0_1 a0_2 a0_3 a0_4 a0_5 l0_6 a0_7 = some (r1, r2)) ∧ Aside0 (kq ≤ k) ∧ Aside0 (w'.heap[gb190]? = some (.cells #[.int .i64 a0_0, .int .i64 a0_1, .int .i64 a0_2, .int .i64 a0_3, .string a0_4, .bool a0_5, (.slice A0_6 l0_6.length c0_6), .bool a0_7] 41 (0, 0))) ∧ Aside0 (Below w.heap.size w w'))
                  case atStart => exact ⟨(((((((t192 ++ t193) ++ t194) ++ t195) ++ t196) ++ t197) ++ t198) ++ t199), (0), (by first | rfl | (simp; done) | (simp [*]; done)), (by first | rfl | (simp; done) | (simp [*]; done)), H', ⟨Nat.le_refl _⟩, ⟨by (with_reducible repeat (first | refine blk_drewN ?_ _ | refine blk_drew ?_ | refine blk_alloc ?_ _)); exact BK190.out⟩, ⟨by repeat (first | (with_reducible first | exact HB.out | apply below_alloc | apply pw_below_drewN | apply below_drew1 | refine below_set ?_ GE190.out) | exact HB.out)⟩⟩
                  case round =>
                    clear H'
                    try clear c1
                    try clear c2
                    try clear p2
                    try clear c3
                    try clear c6
                    try clear c6b0
                    try clear c6b1
                    try clear c6b2
                    try clear c8
                    try clear c8b0
                    try clear c8b1
                    try clear c8b2
                    try clear c10
                    try clear c10b0
                    try clear c10b1
                    try clear c10b2
                    try clear c12
                    try clear c12b0
                    try clear c12b1
                    try clear c12b2
                    try clear c14
                    try clear c14b0
                    try clear c14b1
                    try clear c14b2
                    try clear c16
                    try clear c16b0
                    try clear c16b1
                    try clear c16b2
                    try clear c18
                    try clear c18b0
                    try clear c18b1
                    try clear c18b2
                    try clear c23
                    try clear c24
                    try clear hcz20_0
                    try clear hcz20_1
                    try clear hcz20_2
                    try clear hcz20_3
                    try clear hcz20_4
                    try clear hcz20_5
                    try clear hcz20_6
                    try clear hcz20_7
                    try clear hfz20_0
                    try clear hfz20_1
                    try clear hfz20_2
                    try clear hfz20_3
                    try clear hfz20_4
                    try clear hfz20_5
                    try clear hfz20_6
                    try clear hfz20_7
                    obtain ⟨x5_1, x6_1, rfl, rfl, HA, HK1, BK190, HB⟩ := hrel
                    cases gk with
                    | zero => exact absurd HA.out (by simp [stanchionref16_Reply.l0])
                    | succ k1 =>
                      have H := HA.out
                      clear HA
                      simp only [stanchionref16_Reply.l0] at H
                      by_cases c29 : x6_1 < (l0_6.length : Int)
                      · rw [if_pos c29] at H
                        have c29b0 : decide (x6_1 < (l0_6.length : Int)) = true := decide_eq_true c29
                        clear c29
                        by_cases c30 : 0 ≤ x6_1
                        · rw [if_pos c30] at H
                          have c30b0 : decide (0 ≤ x6_1) = true := decide_eq_true c30
                          clear c30
                          replace H := Option.bind_eq_some_iff.mp H
                          obtain ⟨t201, A310, H⟩ := H
                          replace H : (if x5_1.size + t201.size ≤ 9223372036854775807 then ((stanchionref16_text.f ((rd_T74 l0_6 x6_1).f1)).bind fun t203 => (if (x5_1 ++ t201).size + t203.size ≤ 9223372036854775807 then (stanchionref16_Reply.l0 k1 ((x5_1 ++ t201) ++ t203) (wrap64 (x6_1 + 1)) a0_0 a0_1 a0_2 a0_3 a0_4 a0_5 l0_6 a0_7) else (none))) else (none)) = some (r1, r2) := H
                          have A31 := Aside0.mk A310
                          clear A310
                          by_cases c32 : x5_1.size + t201.size ≤ 9223372036854775807
                          · rw [if_pos c32] at H
                            have c32b0 := eq_true c32
                            have c32b1 : decide (x5_1.size + t201.size ≤ 9223372036854775807) = true := decide_eq_true c32
                            try have c32b2 : (9223372036854775807 < x5_1.size + t201.size) = False := eq_false (Nat.not_lt.2 c32)
                            replace H := Option.bind_eq_some_iff.mp H
                            obtain ⟨t203, A330, H⟩ := H
                            replace H : (if (x5_1 ++ t201).size + t203.size ≤ 9223372036854775807 then (stanchionref16_Reply.l0 k1 ((x5_1 ++ t201) ++ t203) (wrap64 (x6_1 + 1)) a0_0 a0_1 a0_2 a0_3 a0_4 a0_5 l0_6 a0_7) else (none)) = some (r1, r2) := H
                            have A33 := Aside0.mk A330
                            clear A330
                            by_cases c34 : (x5_1 ++ t201).size + t203.size ≤ 9223372036854775807
                            · rw [if_pos c34] at H
                              have c34b0 := eq_true c34
                              have c34b1 : decide ((x5_1 ++ t201).size + t203.size ≤ 9223372036854775807) = true := decide_eq_true c34
                              try have c34b2 : (9223372036854775807 < (x5_1 ++ t201).size + t203.size) = False := eq_false (Nat.not_lt.2 c34)
                              try have c34b9 : (9223372036854775807 < x5_1.size + t201.size + t203.size) = False := by first | (rw [← ByteArray.size_append]; exact c34b2) | (have h9 := c34b2; simp only [ByteArray.size_append] at h9 ⊢; exact h9)
                              have H' := Aside0.mk H
                              clear H
                              have hcz35_0 : wr.cell? ⟨gb190, 0, none⟩ = some (.int .i64 a0_0) := (blk_cell BK190.out 0).trans rfl
                              have hcz35_1 : wr.cell? ⟨gb190, 1, none⟩ = some (.int .i64 a0_1) := (blk_cell BK190.out 1).trans rfl
                              have hcz35_2 : wr.cell? ⟨gb190, 2, none⟩ = some (.int .i64 a0_2) := (blk_cell BK190.out 2).trans rfl
                              have hcz35_3 : wr.cell? ⟨gb190, 3, none⟩ = some (.int .i64 a0_3) := (blk_cell BK190.out 3).trans rfl
                              have hcz35_4 : wr.cell? ⟨gb190, 4, none⟩ = some (.string a0_4) := (blk_cell BK190.out 4).trans rfl
                              have hcz35_5 : wr.cell? ⟨gb190, 5, none⟩ = some (.bool a0_5) := (blk_cell BK190.out 5).trans rfl
                              have hcz35_6 : wr.cell? ⟨gb190, 6, none⟩ = some (.slice A0_6 l0_6.length c0_6) := (blk_cell BK190.out 6).trans rfl
                              have hcz35_7 : wr.cell? ⟨gb190, 7, none⟩ = some (.bool a0_7) := (blk_cell BK190.out 7).trans rfl
                              have hfz35_0 := blk_frozen BK190.out 0
                              have hfz35_1 := blk_frozen BK190.out 1
                              have hfz35_2 := blk_frozen BK190.out 2
                              have hfz35_3 := blk_frozen BK190.out 3
                              have hfz35_4 := blk_frozen BK190.out 4
                              have hfz35_5 := blk_frozen BK190.out 5
                              have hfz35_6 := blk_frozen BK190.out 6
                              have hfz35_7 := blk_frozen BK190.out 7
                              try go_wp2
                              have n0_ := Aside0.mk (blk_drew BK190.out)
                              have n1_ := Aside0.mk (below_drew1 HB.out)
                              clear BK190
                              clear HB
                              have BK190 := n0_
                              have HB := n1_
                              clear n0_ n1_
                              have p200 : 0 ≤ (x6_1 : Int) := of_decide_eq_true (by first | (with_reducible assumption) | assumption)
                              have q200 : x6_1 < (l0_6.length : Int) := of_decide_eq_true (by first | (with_reducible assumption) | assumption)
                              obtain ⟨ad200, e200, hx200_0, hx200_1⟩ := at_T74 HR0_6.out x6_1 p200 q200
                              have hw200_1 := hx200_1
                              have hw200_0 := hx200_0
                              cases e200
                              replace hx200_0 := (HB.out.cell (World.block_lt_of_cell? w _ hx200_0)).trans hx200_0
                              replace hx200_1 := (HB.out.cell (World.block_lt_of_cell? w _ hx200_1)).trans hx200_1
                              replace p200 := eq_true p200
                              replace q200 := eq_true q200
                              have p202 : 0 ≤ (x6_1 : Int) := of_decide_eq_true (by first | (with_reducible assumption) | assumption)
                              have q202 : x6_1 < (l0_6.length : Int) := of_decide_eq_true (by first | (with_reducible assumption) | assumption)
                              obtain ⟨ad202, e202, hx202_0, hx202_1⟩ := at_T74 HR0_6.out x6_1 p202 q202
                              have hw202_1 := hx202_1
                              have hw202_0 := hx202_0
                              obtain rfl : ad200 = ad202 := (by injection e202)
                              replace hx202_0 := (HB.out.cell (World.block_lt_of_cell? w _ hx202_0)).trans hx202_0
                              replace hx202_1 := (HB.out.cell (World.block_lt_of_cell? w _ hx202_1)).trans hx202_1
                              replace p202 := eq_true p202
                              replace q202 := eq_true q202
                              refine start_ (n := 18) (S := fun w' => w'.cell? ⟨gb190, 0, none⟩ = some (.int .i64 a0_0) ∧ w'.cell? ⟨gb190, 1, none⟩ = some (.int .i64 a0_1) ∧ w'.cell? ⟨gb190, 2, none⟩ = some (.int .i64 a0_2) ∧ w'.cell? ⟨gb190, 3, none⟩ = some (.int .i64 a0_3) ∧ w'.cell? ⟨gb190, 4, none⟩ = some (.string a0_4) ∧ w'.cell? ⟨gb190, 5, none⟩ = some (.bool a0_5) ∧ w'.cell? ⟨gb190, 6, none⟩ = some (.slice (some ad200) l0_6.length c0_6) ∧ w'.cell? ⟨gb190, 7, none⟩ = some (.bool a0_7) ∧ w'.cell? (ad200.add ((x6_1).toNat * 2)) = some (.string ((rd_T74 l0_6 x6_1).f0)) ∧ w'.cell? ⟨(ad200.add ((x6_1).toNat * 2)).block, (ad200.add ((x6_1).toNat * 2)).off + 1, none⟩ = some (.string ((rd_T74 l0_6 x6_1).f1)) ∧ w'.cell? (ad200.add ((x6_1).toNat * 2)) = some (.string ((rd_T74 l0_6 x6_1).f0)) ∧ w'.cell? ⟨(ad200.add ((x6_1).toNat * 2)).block, (ad200.add ((x6_1).toNat * 2)).off + 1, none⟩ = some (.string ((rd_T74 l0_6 x6_1).f1))) (ds := []) #[false, false, false, false, false, false, false, false, false, false, false, false, false, false, false, false, false, false] (by kernel_rfl) rfl rfl ⟨(blk_cell BK190.out 0).trans rfl, (blk_cell BK190.out 1).trans rfl, (blk_cell BK190.out 2).trans rfl, (blk_cell BK190.out 3).trans rfl, (blk_cell BK190.out 4).trans rfl, (blk_cell BK190.out 5).trans rfl, (blk_cell BK190.out 6).trans rfl, (blk_cell BK190.out 7).trans rfl, ((HB.out.cell (World.block_lt_of_cell? w _ hw200_0)).trans hw200_0), ((HB.out.cell (World.block_lt_of_cell? w _ hw200_1)).trans hw200_1), ((HB.out.cell (World.block_lt_of_cell? w _ hw202_0)).trans hw202_0), ((HB.out.cell (World.block_lt_of_cell? w _ hw202_1)).trans hw202_1)⟩ (fun hHeld => ?_); refine with_tabW stanchionref16_Reply.tab8 stanchionref16_Reply.bits8 (fun HT_ HW_ => ?_)
                              generalize wr.drew = w36 at BK190 HB hx200_0 hx200_1 hx202_0 hx202_1 hHeld ⊢
                              refine pure_ (i := 0) (N := some 50) (v := ?_) (a' := ?_) #[true, false, false, false, false, false, false, false, false, false, false, false, false, false, false, false, false, false] rfl rfl (any_of HT_.out (by kernel_rfl)) (fun _ _ _ h => h) (Or.inl ⟨by rfl, ?_⟩) ?_ ?_
                              rotate_left
                              · intro w'
                                go_simp
                                with_reducible rfl
                              rotate_left
                              · simp only [Act.put, List.setIfInBounds_toArray, List.set_cons_zero, List.set_cons_succ, i64_w, i32_w]
                                rfl
                              refine pure_ (i := 1) (N := some 51) (v := ?_) (a' := ?_) #[true, true, false, false, false, false, false, false, false, false, false, false, false, false, false, false, false, false] rfl rfl (any_of HT_.out (by kernel_rfl)) (fun _ _ _ h => h) (Or.inl ⟨by rfl, ?_⟩) ?_ ?_
                              rotate_left
                              · intro w'
                                go_simp
                                with_reducible rfl
                              rotate_left
                              · simp only [Act.put, List.setIfInBounds_toArray, List.set_cons_zero, List.set_cons_succ, i64_w, i32_w]
                                rfl
                              refine pure_ (i := 3) (N := some 53) (v := ?_) (a' := ?_) #[true, true, false, true, false, false, false, false, false, false, false, false, false, false, false, false, false, false] rfl rfl (any_of HT_.out (by kernel_rfl)) (fun _ _ _ h => h) (Or.inl ⟨by rfl, ?_⟩) ?_ ?_
                              rotate_left
                              · intro w'
                                go_simp
                                with_reducible rfl
                              rotate_left
                              · simp only [Act.put, List.setIfInBounds_toArray, List.set_cons_zero, List.set_cons_succ, i64_w, i32_w]
                                rfl
                              refine pure_ (i := 9) (N := some 59) (v := ?_) (a' := ?_) #[true, true, false, true, false, false, false, false, false, true, false, false, false, false, false, false, false, false] rfl rfl (any_of HT_.out (by kernel_rfl)) (fun _ _ _ h => h) (Or.inl ⟨by rfl, ?_⟩) ?_ ?_
                              rotate_left
                              · intro w'
                                go_simp
                                with_reducible rfl
                              rotate_left
                              · simp only [Act.put, List.setIfInBounds_toArray, List.set_cons_zero, List.set_cons_succ, i64_w, i32_w]
                                rfl
                              refine pure_ (i := 11) (N := some 61) (v := ?_) (a' := ?_) #[true, true, false, true, false, false, false, false, false, true, false, true, false, false, false, false, false, false] rfl rfl (any_of HT_.out (by kernel_rfl)) (fun _ _ _ h => h) (Or.inl ⟨by rfl, ?_⟩) ?_ ?_
                              rotate_left
                              · intro w'
                                go_simp
                                with_reducible rfl
                              rotate_left
                              · simp only [Act.put, List.setIfInBounds_toArray, List.set_cons_zero, List.set_cons_succ, i64_w, i32_w]
                                rfl
                              refine take_ (i := 2) (N := some 52) (v := ?_) (a' := ?_) #[true, true, true, true, false, false, false, false, false, true, false, true, false, false, false, false, false, false] rfl rfl (take_ofW HT_.out HW_.out (by kernel_rfl)) (fun _ _ _ h => h) (Or.inl ⟨by rfl, ?_⟩) hHeld ?_ ?_
                              rotate_left
                              · rintro w' ⟨s0, s1, s2, s3, s4, s5, s6, s7, s8, s9, s10, s11⟩
                                go_simp
                                with_reducible rfl
                              rotate_left
                              · simp only [Act.put, List.setIfInBounds_toArray, List.set_cons_zero, List.set_cons_succ, i64_w, i32_w]
                                rfl
                              refine pure_ (i := 4) (N := some 54) (v := ?_) (a' := ?_) #[true, true, true, true, true, false, false, false, false, true, false, true, false, false, false, false, false, false] rfl rfl (any_of HT_.out (by kernel_rfl)) (fun _ _ _ h => h) (Or.inl ⟨by rfl, ?_⟩) ?_ ?_
                              rotate_left
                              · intro w'
                                go_simp
                                with_reducible rfl
                              rotate_left
                              · simp only [Act.put, List.setIfInBounds_toArray, List.set_cons_zero, List.set_cons_succ, i64_w, i32_w]
                                rfl
                              refine pure_ (i := 5) (N := some 55) (v := ?_) (a' := ?_) #[true, true, true, true, true, true, false, false, false, true, false, true, false, false, false, false, false, false] rfl rfl (any_of HT_.out (by kernel_rfl)) (fun _ _ _ h => h) (Or.inl ⟨by rfl, ?_⟩) ?_ ?_
                              rotate_left
                              · intro w'
                                go_simp
                                with_reducible rfl
                              rotate_left
                              · simp only [Act.put, List.setIfInBounds_toArray, List.set_cons_zero, List.set_cons_succ, i64_w, i32_w]
                                rfl
                              refine take_ (i := 6) (N := some 56) (v := ?_) (a' := ?_) #[true, true, true, true, true, true, true, false, false, true, false, true, false, false, false, false, false, false] rfl rfl (take_ofW HT_.out HW_.out (by kernel_rfl)) (fun _ _ _ h => h) (Or.inl ⟨by rfl, ?_⟩) hHeld ?_ ?_
                              rotate_left
                              · rintro w' ⟨s0, s1, s2, s3, s4, s5, s6, s7, s8, s9, s10, s11⟩
                                go_simp
                                with_reducible rfl
                              rotate_left
                              · simp only [Act.put, List.setIfInBounds_toArray, List.set_cons_zero, List.set_cons_succ, i64_w, i32_w]
                                rfl
                              refine take_ (i := 10) (N := some 60) (v := ?_) (a' := ?_) #[true, true, true, true, true, true, true, false, false, true, true, true, false, false, false, false, false, false] rfl rfl (take_ofW HT_.out HW_.out (by kernel_rfl)) (fun _ _ _ h => h) (Or.inl ⟨by rfl, ?_⟩) hHeld ?_ ?_
                              rotate_left
                              · rintro w' ⟨s0, s1, s2, s3, s4, s5, s6, s7, s8, s9, s10, s11⟩
                                go_simp
                                with_reducible rfl
                              rotate_left
                              · simp only [Act.put, List.setIfInBounds_toArray, List.set_cons_zero, List.set_cons_succ, i64_w, i32_w]
                                rfl
                              refine pure_ (i := 12) (N := some 62) (v := ?_) (a' := ?_) #[true, true, true, true, true, true, true, false, false, true, true, true, true, false, false, false, false, false] rfl rfl (any_of HT_.out (by kernel_rfl)) (fun _ _ _ h => h) (Or.inl ⟨by rfl, ?_⟩) ?_ ?_
                              rotate_left
                              · intro w'
                                go_simp
                                with_reducible rfl
                              rotate_left
                              · simp only [Act.put, List.setIfInBounds_toArray, List.set_cons_zero, List.set_cons_succ, i64_w, i32_w]
                                rfl
                              refine pure_ (i := 13) (N := some 63) (v := ?_) (a' := ?_) #[true, true, true, true, true, true, true, false, false, true, true, true, true, true, false, false, false, false] rfl rfl (any_of HT_.out (by kernel_rfl)) (fun _ _ _ h => h) (Or.inl ⟨by rfl, ?_⟩) ?_ ?_
                              rotate_left
                              · intro w'
                                go_simp
                                with_reducible rfl
                              rotate_left
                              · simp only [Act.put, List.setIfInBounds_toArray, List.set_cons_zero, List.set_cons_succ, i64_w, i32_w]
                                rfl
                              refine take_ (i := 14) (N := some 64) (v := ?_) (a' := ?_) #[true, true, true, true, true, true, true, false, false, true, true, true, true, true, true, false, false, false] rfl rfl (take_ofW HT_.out HW_.out (by kernel_rfl)) (fun _ _ _ h => h) (Or.inl ⟨by rfl, ?_⟩) hHeld ?_ ?_
                              rotate_left
                              · rintro w' ⟨s0, s1, s2, s3, s4, s5, s6, s7, s8, s9, s10, s11⟩
                                go_simp
                                with_reducible rfl
                              rotate_left
                              · simp only [Act.put, List.setIfInBounds_toArray, List.set_cons_zero, List.set_cons_succ, i64_w, i32_w]
                                rfl
                              refine one_ (i := 7) (N := some 57) #[true, true, true, true, true, true, true, true, false, true, true, true, true, true, true, false, false, false] rfl rfl (one_of HT_.out (by kernel_rfl)) (by decide) (fun K hK => ?_)
                              refine goes_ Tryd.func24 (by kernel_rfl) rfl #[.string ((rd_T74 l0_6 x6_1).f0)] (by rfl) rfl rfl (by (try simp only [List.map_toArray, List.map_cons, List.map_nil]); first | done | rfl | (simp only [List.length_drop, List.length_take]; rfl)) ?_
                              with_reducible refine (stanchionref16_text.calls ((rd_T74 l0_6 x6_1).f0) t201 _ A31.out).mono ?_
                              rintro e w37 ⟨rfl, hb⟩
                              refine ⟨_, rfl, ?_⟩
                              have n0_ := Aside0.mk (blk_below (g := gb190) (o := .cells #[.int .i64 a0_0, .int .i64 a0_1, .int .i64 a0_2, .int .i64 a0_3, .string a0_4, .bool a0_5, .slice (some ad200) l0_6.length c0_6, .bool a0_7] 41 (0, 0)) (by (with_reducible repeat (first | refine blk_drewN ?_ _ | refine blk_drew ?_ | refine blk_alloc ?_ _)); exact BK190.out) hb)
                              have n1_ := Aside0.mk (below_step (by repeat (first | (with_reducible first | exact HB.out | apply below_alloc | apply pw_below_drewN | apply below_drew1 | refine below_set ?_ GE190.out) | exact HB.out)) hb)
                              clear BK190
                              clear HB
                              have BK190 := n0_
                              have HB := n1_
                              clear n0_ n1_
                              (try clear hb)
                              (try clear hb2)
                              (try clear hk)
                              (try clear hi)
                              refine hK.out _ _ ⟨(blk_cell BK190.out 0).trans rfl, (blk_cell BK190.out 1).trans rfl, (blk_cell BK190.out 2).trans rfl, (blk_cell BK190.out 3).trans rfl, (blk_cell BK190.out 4).trans rfl, (blk_cell BK190.out 5).trans rfl, (blk_cell BK190.out 6).trans rfl, (blk_cell BK190.out 7).trans rfl, ((HB.out.cell (World.block_lt_of_cell? w _ hw200_0)).trans hw200_0), ((HB.out.cell (World.block_lt_of_cell? w _ hw200_1)).trans hw200_1), ((HB.out.cell (World.block_lt_of_cell? w _ hw202_0)).trans hw202_0), ((HB.out.cell (World.block_lt_of_cell? w _ hw202_1)).trans hw202_1)⟩ (fun hHeld => ?_)
                              clear hK K
                              refine norm_ (a' := ?_) ?_ ?_
                              rotate_left
                              · show Act.put _ (some 57) _ = _
                                simp only [Act.put, List.setIfInBounds_toArray, List.set_cons_zero, List.set_cons_succ, i64_w, i32_w]
                                rfl
                              refine pure_ (i := 8) (N := some 58) (v := ?_) (a' := ?_) #[true, true, true, true, true, true, true, true, true, true, true, true, true, true, true, false, false, false] rfl rfl (any_of HT_.out (by kernel_rfl)) (fun _ _ _ h => h) (Or.inl ⟨by rfl, ?_⟩) ?_ ?_
                              rotate_left
                              · intro w'
                                go_simp
                                with_reducible rfl
                              rotate_left
                              · simp only [Act.put, List.setIfInBounds_toArray, List.set_cons_zero, List.set_cons_succ, i64_w, i32_w]
                                rfl
                              refine one_ (i := 15) (N := some 65) #[true, true, true, true, true, true, true, true, true, true, true, true, true, true, true, true, false, false] rfl rfl (one_of HT_.out (by kernel_rfl)) (by decide) (fun K hK => ?_)
                              refine goes_ Tryd.func24 (by kernel_rfl) rfl #[.string ((rd_T74 l0_6 x6_1).f1)] (by rfl) rfl rfl (by (try simp only [List.map_toArray, List.map_cons, List.map_nil]); first | done | rfl | (simp only [List.length_drop, List.length_take]; rfl)) ?_
                              with_reducible refine (stanchionref16_text.calls ((rd_T74 l0_6 x6_1).f1) t203 _ A33.out).mono ?_
                              rintro e w38 ⟨rfl, hb⟩
                              refine ⟨_, rfl, ?_⟩
                              have n0_ := Aside0.mk (blk_below (g := gb190) (o := .cells #[.int .i64 a0_0, .int .i64 a0_1, .int .i64 a0_2, .int .i64 a0_3, .string a0_4, .bool a0_5, .slice (some ad200) l0_6.length c0_6, .bool a0_7] 41 (0, 0)) (by (with_reducible repeat (first | refine blk_drewN ?_ _ | refine blk_drew ?_ | refine blk_alloc ?_ _)); exact BK190.out) hb)
                              have n1_ := Aside0.mk (below_step (by repeat (first | (with_reducible first | exact HB.out | apply below_alloc | apply pw_below_drewN | apply below_drew1 | refine below_set ?_ GE190.out) | exact HB.out)) hb)
                              clear BK190
                              clear HB
                              have BK190 := n0_
                              have HB := n1_
                              clear n0_ n1_
                              (try clear hb)
                              (try clear hb2)
                              (try clear hk)
                              (try clear hi)
                              refine hK.out _ _ ⟨(blk_cell BK190.out 0).trans rfl, (blk_cell BK190.out 1).trans rfl, (blk_cell BK190.out 2).trans rfl, (blk_cell BK190.out 3).trans rfl, (blk_cell BK190.out 4).trans rfl, (blk_cell BK190.out 5).trans rfl, (blk_cell BK190.out 6).trans rfl, (blk_cell BK190.out 7).trans rfl, ((HB.out.cell (World.block_lt_of_cell? w _ hw200_0)).trans hw200_0), ((HB.out.cell (World.block_lt_of_cell? w _ hw200_1)).trans hw200_1), ((HB.out.cell (World.block_lt_of_cell? w _ hw202_0)).trans hw202_0), ((HB.out.cell (World.block_lt_of_cell? w _ hw202_1)).trans hw202_1)⟩ (fun hHeld => ?_)
                              clear hK K
                              refine norm_ (a' := ?_) ?_ ?_
                              rotate_left
                              · show Act.put _ (some 65) _ = _
                                simp only [Act.put, List.setIfInBounds_toArray, List.set_cons_zero, List.set_cons_succ, i64_w, i32_w]
                                rfl
                              refine pure_ (i := 16) (N := some 66) (v := ?_) (a' := ?_) #[true, true, true, true, true, true, true, true, true, true, true, true, true, true, true, true, true, false] rfl rfl (any_of HT_.out (by kernel_rfl)) (fun _ _ _ h => h) (Or.inl ⟨by rfl, ?_⟩) ?_ ?_
                              rotate_left
                              · intro w'
                                go_simp
                                with_reducible rfl
                              rotate_left
                              · simp only [Act.put, List.setIfInBounds_toArray, List.set_cons_zero, List.set_cons_succ, i64_w, i32_w]
                                rfl
                              refine pure_ (i := 17) (N := some 5) (v := ?_) (a' := ?_) #[true, true, true, true, true, true, true, true, true, true, true, true, true, true, true, true, true, true] rfl rfl (any_of HT_.out (by kernel_rfl)) (fun _ _ _ h => h) (Or.inl ⟨by rfl, ?_⟩) ?_ ?_
                              rotate_left
                              · intro w'
                                go_simp
                                with_reducible rfl
                              rotate_left
                              · simp only [Act.put, List.setIfInBounds_toArray, List.set_cons_zero, List.set_cons_succ, i64_w, i32_w]
                                rfl
                              refine done_ (done_of HT_.out (by kernel_rfl)) ?_
                              try go_wp2
                              go_roundg k1
                              case measure => have := HK1.out; omega
                              case rel => exact ⟨((x5_1 ++ t201) ++ t203), (wrap64 (x6_1 + 1)), (by first | rfl | (simp; done) | (simp [*]; done)), (by first | rfl | (simp; done) | (simp [*]; done)), H', ⟨by have := HK1.out; omega⟩, ⟨by (with_reducible repeat (first | refine blk_drewN ?_ _ | refine blk_drew ?_ | refine blk_alloc ?_ _)); exact BK190.out⟩, ⟨by repeat (first | (with_reducible first | exact HB.out | apply below_alloc | apply pw_below_drewN | apply below_drew1 | refine below_set ?_ GE190.out) | exact HB.out)⟩⟩
                            · rw [if_neg c34] at H
                              exact absurd H (by simp)
                          · rw [if_neg c32] at H
                            exact absurd H (by simp)
                        · rw [if_neg c30] at H
                          exact absurd H (by simp)
                      · rw [if_neg c29] at H
                        have c29b0 : decide (x6_1 < (l0_6.length : Int)) = false := decide_eq_false c29
                        clear c29
                        simp only [Option.some.injEq, Prod.mk.injEq] at H
                        obtain ⟨rfl, rfl⟩ := H
                        have hcz39_0 : wr.cell? ⟨gb190, 0, none⟩ = some (.int .i64 a0_0) := (blk_cell BK190.out 0).trans rfl
                        have hcz39_1 : wr.cell? ⟨gb190, 1, none⟩ = some (.int .i64 a0_1) := (blk_cell BK190.out 1).trans rfl
                        have hcz39_2 : wr.cell? ⟨gb190, 2, none⟩ = some (.int .i64 a0_2) := (blk_cell BK190.out 2).trans rfl
                        have hcz39_3 : wr.cell? ⟨gb190, 3, none⟩ = some (.int .i64 a0_3) := (blk_cell BK190.out 3).trans rfl
                        have hcz39_4 : wr.cell? ⟨gb190, 4, none⟩ = some (.string a0_4) := (blk_cell BK190.out 4).trans rfl
                        have hcz39_5 : wr.cell? ⟨gb190, 5, none⟩ = some (.bool a0_5) := (blk_cell BK190.out 5).trans rfl
                        have hcz39_6 : wr.cell? ⟨gb190, 6, none⟩ = some (.slice A0_6 l0_6.length c0_6) := (blk_cell BK190.out 6).trans rfl
                        have hcz39_7 : wr.cell? ⟨gb190, 7, none⟩ = some (.bool a0_7) := (blk_cell BK190.out 7).trans rfl
                        have hfz39_0 := blk_frozen BK190.out 0
                        have hfz39_1 := blk_frozen BK190.out 1
                        have hfz39_2 := blk_frozen BK190.out 2
                        have hfz39_3 := blk_frozen BK190.out 3
                        have hfz39_4 := blk_frozen BK190.out 4
                        have hfz39_5 := blk_frozen BK190.out 5
                        have hfz39_6 := blk_frozen BK190.out 6
                        have hfz39_7 := blk_frozen BK190.out 7
                        go_wp2
                        go_ret2
                        exact ⟨by first | rfl | (simp [errW_none, errW_some] <;> rfl) | (simp [*, errW_none, errW_some] <;> rfl), by repeat (first | (with_reducible first | exact HB.out | apply below_alloc | apply pw_below_drewN | apply below_drew1 | refine below_set ?_ GE190.out) | exact HB.out)⟩
                · rw [if_neg c18] at H
                  exact absurd H (by simp)
              · rw [if_neg c16] at H
                exact absurd H (by simp)
            · rw [if_neg c14] at H
              exact absurd H (by simp)
          · rw [if_neg c12] at H
            exact absurd H (by simp)
        · rw [if_neg c10] at H
          exact absurd H (by simp)
      · rw [if_neg c8] at H
        exact absurd H (by simp)
    · rw [if_neg c6] at H
      exact absurd H (by simp)
  · replace c3 := Bool.eq_false_iff.mpr c3
    subst c3
    have H1 : (some ((⟨#[]⟩ : ByteArray), 1)) = some (r1, r2) := by rw [if_neg (show ¬ (false = true) by decide)] at H; exact H
    clear H
    have H := H1
    clear H1
    simp only [Option.some.injEq, Prod.mk.injEq] at H
    obtain ⟨rfl, rfl⟩ := H
    go_enter Tryd.func16, Tryd.ntmps16
    go_wp2_with (first | ((with_reducible refine gate_dst (N := 1) rfl ?_); refine box_event ?hg (N := 1) ?hd (cs := #[.int .i64 a0_0, .int .i64 a0_1, .int .i64 a0_2, .int .i64 a0_3, .string a0_4, .bool a0_5, .slice A0_6 l0_6.length c0_6, .bool a0_7]) (t := 41) ?hr ?_; (case hd => rfl); (case hg => rfl); (case hr => first | (go_simp; done) | (go_simp; rfl)); intro gb190 hg w40 hbox hb; have n0_ := Aside0.mk (below_step (by repeat (first | (with_reducible first | exact HB.out | apply below_alloc | apply pw_below_drewN | apply below_drew1) | exact HB.out)) hb); have n1_ := Aside0.mk (hbox); have n2_ := Aside0.mk ((by rw [hg]; exact (below_size (by repeat (first | (with_reducible first | exact HB.out | apply below_alloc | apply pw_below_drewN | apply below_drew1) | exact HB.out))) : w.heap.size ≤ gb190)); have n3_ := Aside0.mk ((by rw [hg]; exact (below_size (by repeat (first | (with_reducible first | exact HB.out | apply below_alloc | apply pw_below_drewN | apply below_drew1) | exact HB.out))) : w.heap.size ≤ gb190)); clear HB; have HB := n0_; have BK190 := n1_; have GW190 := n2_; have GE190 := n3_; clear n0_ n1_ n2_ n3_; clear hb hbox hg; have hcz41_0 : w40.cell? ⟨gb190, 0, none⟩ = some (.int .i64 a0_0) := (blk_cell BK190.out 0).trans rfl; have hcz41_1 : w40.cell? ⟨gb190, 1, none⟩ = some (.int .i64 a0_1) := (blk_cell BK190.out 1).trans rfl; have hcz41_2 : w40.cell? ⟨gb190, 2, none⟩ = some (.int .i64 a0_2) := (blk_cell BK190.out 2).trans rfl; have hcz41_3 : w40.cell? ⟨gb190, 3, none⟩ = some (.int .i64 a0_3) := (blk_cell BK190.out 3).trans rfl; have hcz41_4 : w40.cell? ⟨gb190, 4, none⟩ = some (.string a0_4) := (blk_cell BK190.out 4).trans rfl; have hcz41_5 : w40.cell? ⟨gb190, 5, none⟩ = some (.bool a0_5) := (blk_cell BK190.out 5).trans rfl; have hcz41_6 : w40.cell? ⟨gb190, 6, none⟩ = some (.slice A0_6 l0_6.length c0_6) := (blk_cell BK190.out 6).trans rfl; have hcz41_7 : w40.cell? ⟨gb190, 7, none⟩ = some (.bool a0_7) := (blk_cell BK190.out 7).trans rfl; have hfz41_0 := blk_frozen BK190.out 0; have hfz41_1 := blk_frozen BK190.out 1; have hfz41_2 := blk_frozen BK190.out 2; have hfz41_3 := blk_frozen BK190.out 3; have hfz41_4 := blk_frozen BK190.out 4; have hfz41_5 := blk_frozen BK190.out 5; have hfz41_6 := blk_frozen BK190.out 6; have hfz41_7 := blk_frozen BK190.out 7) | ((with_reducible refine gate_callee (f := 34) rfl ?_); refine goesL_ (some 8) rfl rfl Tryd.func34 (by kernel_rfl) rfl #[.agg #[.int .i64 a0_0, .int .i64 a0_1, .int .i64 a0_2, .int .i64 a0_3, .string a0_4, .bool a0_5, .slice A0_6 l0_6.length c0_6, .bool a0_7]] rfl (by (try simp only [List.map_toArray, List.map_cons, List.map_nil]); first | done | rfl | (simp only [List.length_drop, List.length_take]; rfl)) ?_; (with_reducible refine (stanchionref16_mayReply.calls k a0_0 a0_1 a0_2 a0_3 a0_4 a0_5 _ _ l0_6 a0_7 false _ ?side1 ?side2 A2.out).mono ?_); (case side1 => repeat (first | exact (Kd.C_below HR0_6.out HB.out) | (with_reducible refine Kd.C_alloc ?_ _) | (with_reducible refine Kd.C_drewN ?_ _) | (with_reducible refine Kd.C_drew ?_))); (case side2 => exact HC0_6.out); rintro e w42 ⟨rfl, hb⟩; refine ⟨_, rfl, ?_⟩; have n0_ := Aside0.mk (blk_below (g := gb190) (o := .cells #[.int .i64 a0_0, .int .i64 a0_1, .int .i64 a0_2, .int .i64 a0_3, .string a0_4, .bool a0_5, .slice A0_6 l0_6.length c0_6, .bool a0_7] 41 (0, 0)) (by (with_reducible repeat (first | refine blk_drewN ?_ _ | refine blk_drew ?_ | refine blk_alloc ?_ _)); exact BK190.out) hb); have n1_ := Aside0.mk (below_step (by repeat (first | (with_reducible first | exact HB.out | apply below_alloc | apply pw_below_drewN | apply below_drew1 | refine below_set ?_ GE190.out) | exact HB.out)) hb); clear BK190; clear HB; have BK190 := n0_; have HB := n1_; clear n0_ n1_; (try clear hb); (try clear hb2); (try clear hk); (try clear hi)))
    go_ret2
    exact ⟨by first | rfl | (simp [errW_none, errW_some] <;> rfl) | (simp [*, errW_none, errW_some] <;> rfl), by repeat (first | (with_reducible first | exact HB.out | apply below_alloc | apply pw_below_drewN | apply below_drew1 | refine below_set ?_ GE190.out) | exact HB.out)⟩
end Go.Proofs.YtlpcidjmaeicoaaDoor.QWi
