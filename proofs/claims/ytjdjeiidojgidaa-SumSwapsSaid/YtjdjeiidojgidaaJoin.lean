/- sum.Join: the walk. -/
import Derived.Test.YtjdjeiidojgidaaOf
namespace Go.Proofs.Ytjdjeiidojgidaa.Giv
open Go Go.RowKit Go.Proofs.Ytjdjeiidojgidaa.SumM Go.Proofs.YtjdjeiidojgidaaW.PrintWords Go.Proofs.YtjdjeiidojgidaaW.PrintLast

theorem and16 (v : Nat) (h : v < 4294967296) : bits .and .u32 (v : Int) 65535 = ((v % 65536 : Nat) : Int) := by
  rw [show (65535 : Int) = ((65535 : Nat) : Int) from rfl, u32_and_nat v 65535 h (by omega)]
  have := Nat.and_two_pow_sub_one_eq_mod v 16
  rw [show (2 : Nat) ^ 16 = 65536 from rfl, show (65536 : Nat) - 1 = 65535 from rfl] at this
  rw [this]
set_option maxHeartbeats 400000 in
theorem halves_calls (v lo hi : Nat) (w : World) (hv : v < 4294967296) (hlo : v % 65536 = lo) (hhi : v / 65536 = hi) :
    Calls Try.prog 26 #[.int .u32 v] w fun e w' => e = .returned (.agg #[.int .u64 lo, .int .u64 hi]) ∧ Below w.heap.size w w' := by
  have h1 := and16 v hv
  rw [hlo] at h1
  have h2 : (v : Int) / 65536 = (hi : Int) := by omega
  have h3 : lo < 65536 := by omega
  have h4 : hi < 65536 := by omega
  clear hlo hhi
  go_enter Try.func26, Try.ntmps26
  go_wp2
  exact bodyPost_ret (v := .agg #[.int .u64 lo, .int .u64 hi]) (by simp [results, Try.results26, go_sem]) rfl ⟨rfl, (Below.refl _ _).alloc (Nat.le_refl _) _⟩
/-- The halves of two joined sums. -/
def joinS (la ua lb ub : Nat) (n : Int) : Int × Int :=
  if n < 0 ∨ 65521 ≤ la ∨ 65521 ≤ ua ∨ 65521 ≤ lb ∨ 65521 ≤ ub then (0, 1)
  else ((65536 * ((ua + ub + (n.toNat % 65521) * ((la + 65520) % 65521)) % 65521) + (la + lb + 65520) % 65521 : Nat), 0)
theorem join_bad {la ua lb ub : Nat} {n : Int} (h : n < 0 ∨ 65521 ≤ la ∨ 65521 ≤ ua ∨ 65521 ≤ lb ∨ 65521 ≤ ub) : joinS la ua lb ub n = (0, 1) := if_pos h
theorem or64 (low up : Nat) (h1 : low < 65521) (h2 : up < 65521) : bits .or .u64 ((up : Int) * 65536) (low : Int) % 4294967296 = ((65536 * up + low : Nat) : Int) := by
  rw [show (up : Int) * 65536 = ((up * 65536 : Nat) : Int) by omega, u64_or_nat (up * 65536) low (by omega) (by omega), or_halves low up (by omega)]
  omega
def JEnds (w : World) (r : Int × Int) (e : Ending) (w' : World) : Prop := e = .returned (.tuple #[.int .u32 r.1, .int .i64 r.2]) ∧ Below w.heap.size w w'
theorem jends_of {w W : World} {r : Int × Int} {x y : Int} (h : Hid (r = (x, y))) (hb : Below w.heap.size w W) : JEnds w r (.returned (.tuple #[.int .u32 x, .int .i64 y])) W := by
  rw [h.out]
  exact ⟨rfl, hb⟩
theorem below_two {w w1 w2 : World} (h1 : Below w.heap.size w w1) (h2 : Below w1.heap.size w1 w2) (o1 o2 : Obj) : Below w.heap.size w ((w2.alloc o1).alloc o2) := by
  have h := h1.trans (h2.mono h1.size)
  have hs := h.size
  exact (h.alloc hs _).alloc (by simp; omega) _
set_option maxRecDepth 100000 in
set_option maxHeartbeats 2000000 in
theorem join_calls (a b : Nat) (n : Int) (la ua lb ub : Nat) (w : World) (ha : a < 4294967296) (hb : b < 4294967296) (hn : -9223372036854775808 ≤ n ∧ n ≤ 9223372036854775807) (h1 : a % 65536 = la) (h2 : a / 65536 = ua) (h3 : b % 65536 = lb) (h4 : b / 65536 = ub) :
    Calls Try.prog 17 #[.int .u32 a, .int .u32 b, .int .i64 n] w (JEnds w (joinS la ua lb ub n)) := by
  have HA : Hid (∀ w, Calls Try.prog 26 #[.int .u32 a] w fun e w' => e = .returned (.agg #[.int .u64 la, .int .u64 ua]) ∧ Below w.heap.size w w') := Lib.hid fun w => halves_calls a la ua w ha h1 h2
  have HB : Hid (∀ w, Calls Try.prog 26 #[.int .u32 b] w fun e w' => e = .returned (.agg #[.int .u64 lb, .int .u64 ub]) ∧ Below w.heap.size w w') := Lib.hid fun w => halves_calls b lb ub w hb h3 h4
  have b1 : la < 65536 := by omega
  have b2 : ua < 65536 := by omega
  have b3 : lb < 65536 := by omega
  have b4 : ub < 65536 := by omega
  obtain ⟨hn1, hn2⟩ := hn
  clear h1 h2 h3 h4
  go_enter Try.func17, Try.ntmps17
  go_wp2_with fail
  refine (HA.out _).mono ?_
  rintro e w1 ⟨rfl, hw1⟩
  have HW1 := Lib.hid hw1
  clear hw1
  go_wp2_with fail
  refine (HB.out _).mono ?_
  rintro e w2 ⟨rfl, hw2⟩
  have HW2 := Lib.hid hw2
  clear hw2
  go_wp2
  go_loop [18] (fun x => (x = .int .i64 0) ∨ (x = .int .i64 1 ∧ la < 65521 ∧ lb < 65521) ∨ (x = .int .i64 2 ∧ la < 65521 ∧ lb < 65521 ∧ ua < 65521 ∧ ub < 65521)) (fun x => 2 - (intOf x).toNat)
  case atStart => exact .inl rfl
  case round =>
    rcases hrel with rfl | ⟨rfl, c1, c2⟩ | ⟨rfl, c1, c2, c3, c4⟩
    · skip
      by_cases k1 : la < 65521
      · have d1 : decide ((65521 : Int) ≤ (la : Int)) = false := by simp; omega
        by_cases k2 : lb < 65521
        · have d2 : decide ((65521 : Int) ≤ (lb : Int)) = false := by simp; omega
          have K1 := Lib.hid k1
          have K2 := Lib.hid k2
          clear k1 k2
          go_wp2
          go_round
          case rel => exact .inr (.inl ⟨rfl, K1.out, K2.out⟩)
          case measure => simp [intOf]
        · have d2 : decide ((65521 : Int) ≤ (lb : Int)) = true := by simp; omega
          have HE := Lib.hid (join_bad (la := la) (ua := ua) (lb := lb) (ub := ub) (n := n) (.inr <| .inr <| .inr <| .inl (by omega)))
          clear k1 k2
          go_wp2
          go_ret2
          exact jends_of HE (below_two HW1.out HW2.out _ _)
      · have d1 : decide ((65521 : Int) ≤ (la : Int)) = true := by simp; omega
        have HE := Lib.hid (join_bad (la := la) (ua := ua) (lb := lb) (ub := ub) (n := n) (.inr <| .inl (by omega)))
        clear k1
        go_wp2
        go_ret2
        exact jends_of HE (below_two HW1.out HW2.out _ _)
    · have C1 := Lib.hid c1
      have C2 := Lib.hid c2
      clear c1 c2
      by_cases k1 : ua < 65521
      · have d1 : decide ((65521 : Int) ≤ (ua : Int)) = false := by simp; omega
        by_cases k2 : ub < 65521
        · have d2 : decide ((65521 : Int) ≤ (ub : Int)) = false := by simp; omega
          have K1 := Lib.hid k1
          have K2 := Lib.hid k2
          clear k1 k2
          go_wp2
          go_round
          case rel => exact .inr (.inr ⟨rfl, C1.out, C2.out, K1.out, K2.out⟩)
          case measure => simp [intOf]
        · have d2 : decide ((65521 : Int) ≤ (ub : Int)) = true := by simp; omega
          have HE := Lib.hid (join_bad (la := la) (ua := ua) (lb := lb) (ub := ub) (n := n) (.inr <| .inr <| .inr <| .inr (by omega)))
          clear k1 k2
          go_wp2
          go_ret2
          exact jends_of HE (below_two HW1.out HW2.out _ _)
      · have d1 : decide ((65521 : Int) ≤ (ua : Int)) = true := by simp; omega
        have HE := Lib.hid (join_bad (la := la) (ua := ua) (lb := lb) (ub := ub) (n := n) (.inr <| .inr <| .inl (by omega)))
        clear k1
        go_wp2
        go_ret2
        exact jends_of HE (below_two HW1.out HW2.out _ _)
    · by_cases hneg : n < 0
      · have HE := Lib.hid (join_bad (la := la) (ua := ua) (lb := lb) (ub := ub) (n := n) (.inl hneg))
        go_wp2
        go_ret2
        exact jends_of HE (below_two HW1.out HW2.out _ _)
      · have hn0 : 0 ≤ n := by omega
        obtain ⟨p, hp⟩ : ∃ p, p = (n.toNat % 65521) * ((la + 65520) % 65521) := ⟨_, rfl⟩
        have hpb : p ≤ 4292870400 := by
          rw [hp]
          exact Nat.mul_le_mul (show n.toNat % 65521 ≤ 65520 by omega) (show (la + 65520) % 65521 ≤ 65520 by omega)
        have hw : IntKind.u64.wrap (n % 65521 * (((la : Int) + 65521 - 1) % 65521)) = (p : Int) := by
          have e1 : n % 65521 = ((n.toNat % 65521 : Nat) : Int) := by omega
          have e2 : ((la : Int) + 65521 - 1) % 65521 = (((la + 65520) % 65521 : Nat) : Int) := by omega
          rw [e1, e2, ← Int.natCast_mul, ← hp, IntKind.wrap_u64]
          omega
        have HE : Hid (joinS la ua lb ub n = (bits .or .u64 ((((ua : Int) + ub + p) % 65521) * 65536) (((la : Int) + 65521 - 1 + lb) % 65521) % 4294967296, 0)) := by
          refine Lib.hid ?_
          have e1 : ((ua : Int) + ub + p) % 65521 = (((ua + ub + p) % 65521 : Nat) : Int) := by omega
          have e2 : ((la : Int) + 65521 - 1 + lb) % 65521 = (((la + lb + 65520) % 65521 : Nat) : Int) := by omega
          rw [e1, e2, or64 _ _ (by omega) (by omega)]
          unfold joinS
          rw [if_neg (by omega), ← hp]
        clear hp
        go_wp2
        go_ret2
        exact jends_of HE (below_two HW1.out HW2.out _ _)
end Go.Proofs.Ytjdjeiidojgidaa.Giv
