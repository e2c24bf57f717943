/- Of a request's bytes, and a reply's, no beginning is one, nor with a byte more (the statement WireCut, as a card). Condition: the package variable errors.errorType holds what the program's text lays there (the given tie) (texts ReqP, RepP, CutP, Laid, UpWireCut) -/
import Derived.Test.YtlpcidjmaeicoaaDoorCards
import Derived.Test.YtlpcidjmaeicoaaDoorTie
import Derived.RowKit
import Derived.LaidLaws
import Derived.LaidHandle
import Derived.Deep.DeepHandedRow
import Derived.Lib.LaidTab
import Derived.Test.YtlpcidjmaeicoaaDoorRows
import Derived.WalkKit
import Derived.ProofKit
import Derived.OpenShut
import Derived.ShutString
import Derived.ChangeOld
import Derived.Below
import Derived.Carry
import Derived.SevenTiedAt
import Derived.Test.YtlpcidjmaeicoaaDoorPC3
/-! ReqP -/
/- Requests as bytes: plain laws. -/
namespace Go.Proofs.YtlpcidjmaeicoaaDoor.Enc
open Go Go.RowKit Go.Proofs.YtlpcidjmaeicoaaDoor.DecM Go.Proofs.YtlpcidjmaeicoaaDoor.Giv Go.Proofs.YtlpcidjmaeicoaaDoor.Wire Go.Proofs.YtlpcidjmaeicoaaDoor.Reader Go.Proofs.YtlpcidjmaeicoaaDoor.QWi

/-- A request's bytes. -/
def encQ (a0 a1 a2 a3 : Int) (t : ByteArray) (o : Int) (y v l h : ByteArray) (m : Int) : ByteArray :=
  numS a0.toNat ++ (numS a1.toNat ++ (numS a2.toNat ++ (numS a3.toNat ++ (textS t ++ (if a0 = 5 then numS o.toNat ++ (textS y ++ (textS v ++ (textS l ++ (textS h ++ numS m.toNat)))) else ⟨#[]⟩)))))
theorem encQ_size {a0 a1 a2 a3 : Int} {t : ByteArray} {o : Int} {y v l h : ByteArray} {m : Int} (hm : mayQ a0 a1 a2 a3 t o y v l h m) : 1 ≤ (encQ a0 a1 a2 a3 t o y v l h m).size ∧ (encQ a0 a1 a2 a3 t o y v l h m).size ≤ 2000 := by
  obtain ⟨p0, p1, p2, p3, p4, p5⟩ := hm
  have n0 := num_size a0 (by omega)
  have n1 := num_size a1 p1
  have n2 := num_size a2 p2
  have n3 := num_size a3 p3
  have n4 := text_size t (by omega)
  have n5 := numS_ge a0.toNat
  unfold encQ
  by_cases h5 : a0 = 5
  · rcases p5 with ⟨_, _, q2, q3, q4, q5, q6, q7⟩ | ⟨q0, _⟩
    · have m0 := num_size o (by omega)
      have m1 := num_size m q7
      have m2 := text_size y (by omega)
      have m3 := text_size v (by omega)
      have m4 := text_size l (by omega)
      have m5 := text_size h (by omega)
      simp only [if_pos h5, ByteArray.size_append]
      omega
    · exact absurd h5 q0
  · have e : (⟨#[]⟩ : ByteArray).size = 0 := rfl
    simp only [if_neg h5, ByteArray.size_append, e]
    omega
/-- What wire.Req gives. -/
theorem req_f (k : Nat) (a0 a1 a2 a3 : Int) (t : ByteArray) (o : Int) (y v l h : ByteArray) (m : Int) :
    wire_Req.f (k + 1) a0 a1 a2 a3 t o y v l h m = some (if mayQ a0 a1 a2 a3 t o y v l h m then (encQ a0 a1 a2 a3 t o y v l h m, 0) else (⟨#[]⟩, 1)) := by
  unfold wire_Req.f
  rw [wire_may, bsm]
  by_cases hm : mayQ a0 a1 a2 a3 t o y v l h m
  · rw [if_pos hm, if_pos (decide_eq_true hm)]
    have hs := encQ_size hm
    obtain ⟨p0, p1, p2, p3, p4, p5⟩ := hm
    have e1 : numsS [a0, a1, a2, a3] ++ textsW [t] = numS a0.toNat ++ (numS a1.toNat ++ (numS a2.toNat ++ (numS a3.toNat ++ textS t))) := by
      rw [nums_cons, nums_cons, nums_cons, nums_one, texts_one, asc, asc, asc]
    have k1 : (numsS [a0, a1, a2, a3]).size + (textsW [t]).size ≤ 9223372036854775807 := by
      rw [← ByteArray.size_append, e1]
      have n0 := num_size a0 (by omega)
      have n1 := num_size a1 p1
      have n2 := num_size a2 p2
      have n3 := num_size a3 p3
      have n4 := text_size t (by omega)
      simp only [ByteArray.size_append]
      omega
    rw [nums_some [a0, a1, a2, a3] (by simp) (by
      intro x hx
      simp only [List.mem_cons, List.not_mem_nil, or_false] at hx
      rcases hx with rfl | rfl | rfl | rfl
      · omega
      · exact p1
      · exact p2
      · exact p3), bsm, texts_some [t] (by simp) (by
      intro x hx
      rw [List.mem_singleton.1 hx]
      omega), bsm, if_pos k1]
    by_cases h5 : a0 = 5
    · rcases p5 with ⟨_, _, q2, q3, q4, q5, q6, q7⟩ | ⟨q0, _⟩
      · have e2 : numsS [o] ++ textsW [y, v, l, h] = numS o.toNat ++ (textS y ++ (textS v ++ (textS l ++ textS h))) := by
          rw [nums_one, texts_cons, texts_cons, texts_cons, texts_one]
        have m0 := num_size o (by omega)
        have m1 := num_size m q7
        have m2 := text_size y (by omega)
        have m3 := text_size v (by omega)
        have m4 := text_size l (by omega)
        have m5 := text_size h (by omega)
        have e3 : (numsS [o] ++ textsW [y, v, l, h]) ++ numsS [m] = numS o.toNat ++ (textS y ++ (textS v ++ (textS l ++ (textS h ++ numS m.toNat)))) := by
          rw [e2, nums_one, asc, asc, asc, asc]
        have e4 : (numsS [a0, a1, a2, a3] ++ textsW [t]) ++ ((numsS [o] ++ textsW [y, v, l, h]) ++ numsS [m]) = encQ a0 a1 a2 a3 t o y v l h m := by
          unfold encQ
          rw [e1, e3, if_pos h5, asc, asc, asc, asc]
        rw [if_pos h5, nums_some [o] (by simp) (by
          intro x hx
          rw [List.mem_singleton.1 hx]
          omega), bsm, texts_some [y, v, l, h] (by simp) (by
          intro x hx
          simp only [List.mem_cons, List.not_mem_nil, or_false] at hx
          rcases hx with rfl | rfl | rfl | rfl
          · omega
          · omega
          · omega
          · omega), bsm, if_pos (by rw [← ByteArray.size_append, e2]; simp only [ByteArray.size_append]; omega), nums_some [m] (by simp) (by
          intro x hx
          rw [List.mem_singleton.1 hx]
          exact q7), bsm, if_pos (by rw [← ByteArray.size_append, e3]; simp only [ByteArray.size_append]; omega), if_pos (by rw [← ByteArray.size_append, e4]; omega), e4]
      · exact absurd h5 q0
    · have e4 : numsS [a0, a1, a2, a3] ++ textsW [t] = encQ a0 a1 a2 a3 t o y v l h m := by
        unfold encQ
        rw [e1, if_neg h5, app_empty]
      rw [if_neg h5, e4]
  · rw [if_neg hm, if_neg (fun h => hm (of_decide_eq_true h))]
/-- The fields, one behind the other. -/
def parseQ {α : Type} (x : ByteArray × Bool) (f : Int → Int → Int → Int → ByteArray → Int → ByteArray → ByteArray → ByteArray → ByteArray → Int → ByteArray × Bool → α) : α :=
  nx x 6 fun a1 x1 => nx x1 1073741824 fun a2 x2 => nx x2 1073741824 fun a3 x3 => nx x3 1073741824 fun a4 x4 => tx x4 16 fun a5 x5 =>
  if a1 = 5 then nx x5 6 fun a6 x6 => tx x6 32 fun a7 x7 => tx x7 64 fun a8 x8 => tx x8 32 fun a9 x9 => tx x9 32 fun a10 x10 => nx x10 1073741824 fun a11 x11 => f a1 a2 a3 a4 a5 a6 a7 a8 a9 a10 a11 x11
  else f a1 a2 a3 a4 a5 0 ⟨#[]⟩ ⟨#[]⟩ ⟨#[]⟩ ⟨#[]⟩ 0 x5
theorem takeReq_parse (s : ByteArray) : takeReqF s = if 2048 < s.size then zq 4 else parseQ (s, false) fun a0 a1 a2 a3 t o y v l h m x => lastQ x (goodQ a0 a1 a2 a3 t o y v l h m) := rfl
/-- A parse, by its fields. -/
theorem parse_at (x : ByteArray × Bool) : ∃ a0 a1 a2 a3 t o y v l h m z, ∀ {α : Type} (f : Int → Int → Int → Int → ByteArray → Int → ByteArray → ByteArray → ByteArray → ByteArray → Int → ByteArray × Bool → α), parseQ x f = f a0 a1 a2 a3 t o y v l h m z := by
  unfold parseQ nx tx
  by_cases h5 : (numR x.1 x.2 6).1 = 5
  · simp only [if_pos h5]
    exact ⟨_, _, _, _, _, _, _, _, _, _, _, _, fun f => rfl⟩
  · simp only [if_neg h5]
    exact ⟨_, _, _, _, _, _, _, _, _, _, _, _, fun f => rfl⟩
theorem parse_back {α : Type} {a0 a1 a2 a3 : Int} {t : ByteArray} {o : Int} {y v l h : ByteArray} {m : Int} (hm : mayQ a0 a1 a2 a3 t o y v l h m) (r : ByteArray) (f : Int → Int → Int → Int → ByteArray → Int → ByteArray → ByteArray → ByteArray → ByteArray → Int → ByteArray × Bool → α) :
    parseQ (encQ a0 a1 a2 a3 t o y v l h m ++ r, false) f = f a0 a1 a2 a3 t o y v l h m (r, false) := by
  obtain ⟨p0, p1, p2, p3, p4, p5⟩ := hm
  unfold parseQ encQ
  rw [asc, nx_back a0 _ 6 _ (by omega) (by omega), asc, nx_back a1 _ _ _ p1 (by omega), asc, nx_back a2 _ _ _ p2 (by omega), asc, nx_back a3 _ _ _ p3 (by omega), asc, tx_back t _ _ _ (by omega) (by omega)]
  rcases p5 with ⟨q0, q1, q2, q3, q4, q5, q6, q7⟩ | ⟨q0, q1, q2, q3, q4, q5, q6, _⟩
  · rw [if_pos q0, if_pos q0, asc, nx_back o _ 6 _ (by omega) (by omega), asc, tx_back y _ _ _ (by omega) (by omega), asc, tx_back v _ _ _ (by omega) (by omega), asc, tx_back l _ _ _ (by omega) (by omega), asc, tx_back h _ _ _ (by omega) (by omega), nx_back m _ _ _ q7 (by omega)]
  · rw [if_neg q0, if_neg q0, q1, size_nil q2, size_nil q3, size_nil q4, size_nil q5, q6]
    have e : (⟨#[]⟩ : ByteArray) ++ r = r := by
      apply bytes_ext
      simp only [data_append, List.nil_append]
    rw [e]
/-- What was parsed whole was written. -/
theorem parse_was (s : ByteArray) : parseQ (s, false) fun a0 a1 a2 a3 t o y v l h m x => x.2 = false → s = encQ a0 a1 a2 a3 t o y v l h m ++ x.1 := by
  unfold parseQ
  refine nx_rule (by simp only [nx_bad, tx_bad]; intro h; cases h) fun a0 r0 b0 e0 => ?_
  refine nx_rule (by simp only [nx_bad, tx_bad]; split <;> (intro h; cases h)) fun a1 r1 b1 e1 => ?_
  refine nx_rule (by simp only [nx_bad, tx_bad]; split <;> (intro h; cases h)) fun a2 r2 b2 e2 => ?_
  refine nx_rule (by simp only [nx_bad, tx_bad]; split <;> (intro h; cases h)) fun a3 r3 b3 e3 => ?_
  refine tx_rule (by simp only [nx_bad, tx_bad]; split <;> (intro h; cases h)) fun t r4 b4 e4 => ?_
  subst e4 e3 e2 e1
  by_cases h5 : a0 = 5
  · rw [if_pos h5]
    refine nx_rule (by simp only [nx_bad, tx_bad]; intro h; cases h) fun o r5 b5 e5 => ?_
    refine tx_rule (by simp only [nx_bad, tx_bad]; intro h; cases h) fun y r6 b6 e6 => ?_
    refine tx_rule (by simp only [nx_bad, tx_bad]; intro h; cases h) fun v r7 b7 e7 => ?_
    refine tx_rule (by simp only [nx_bad, tx_bad]; intro h; cases h) fun l r8 b8 e8 => ?_
    refine tx_rule (by simp only [nx_bad]; intro h; cases h) fun h r9 b9 e9 => ?_
    refine nx_rule (by intro h; cases h) fun m r10 b10 e10 => ?_
    subst e10 e9 e8 e7 e6 e5
    intro _
    rw [e0]
    unfold encQ
    rw [if_pos h5]
    simp only [asc]
  · rw [if_neg h5]
    intro _
    rw [e0]
    unfold encQ
    rw [if_neg h5]
    have e : ∀ r : ByteArray, (⟨#[]⟩ : ByteArray) ++ r = r := fun r => by
      apply bytes_ext
      simp only [data_append, List.nil_append]
    simp only [asc, e]
/-- What is taken was written by the same bytes; else it is ErrBig or ErrForm. -/
theorem take_req (s : ByteArray) : (∃ a0 a1 a2 a3 t o y v l h m, mayQ a0 a1 a2 a3 t o y v l h m ∧ s = encQ a0 a1 a2 a3 t o y v l h m ∧ takeReqF s = (a0, a1, a2, a3, t, o, y, v, l, h, m, 0)) ∨ takeReqF s = (if 2048 < s.size then zq 4 else zq 3) := by
  rw [takeReq_parse]
  by_cases hs : 2048 < s.size
  · exact .inr (by rw [if_pos hs, if_pos hs])
  rw [if_neg hs, if_neg hs]
  obtain ⟨a0, a1, a2, a3, t, o, y, v, l, h, m, x, hp⟩ := parse_at (s, false)
  have hw := parse_was s
  rw [hp] at hw
  rw [hp]
  unfold lastQ
  by_cases hx : x.2 = true ∨ ¬ x.1.size = 0
  · exact .inr (if_pos hx)
  · rw [if_neg hx]
    unfold goodQ
    by_cases hm : mayQ a0 a1 a2 a3 t o y v l h m
    · rw [if_pos hm]
      simp only [not_or, Classical.not_not] at hx
      have e := hw (by simpa using hx.1)
      rw [size_nil hx.2, app_empty] at e
      exact .inl ⟨a0, a1, a2, a3, t, o, y, v, l, h, m, hm, e, rfl⟩
    · exact .inr (if_neg hm)
theorem take_more {a0 a1 a2 a3 : Int} {t : ByteArray} {o : Int} {y v l h : ByteArray} {m : Int} (hm : mayQ a0 a1 a2 a3 t o y v l h m) (u : ByteArray) (hu : 1 ≤ u.size) (hu2 : u.size ≤ 40) : takeReqF (encQ a0 a1 a2 a3 t o y v l h m ++ u) = zq 3 := by
  have hs := encQ_size hm
  have e := parse_back hm u (fun a0 a1 a2 a3 t o y v l h m x => lastQ x (goodQ a0 a1 a2 a3 t o y v l h m))
  rw [takeReq_parse, if_neg (by rw [ByteArray.size_append]; omega), e]
  unfold lastQ
  exact if_pos (.inr (by show ¬ u.size = 0; omega))
theorem take_less {a0 a1 a2 a3 : Int} {t : ByteArray} {o : Int} {y v l h : ByteArray} {m : Int} (hm : mayQ a0 a1 a2 a3 t o y v l h m) (x u : ByteArray) (hu : 1 ≤ u.size) (he : encQ a0 a1 a2 a3 t o y v l h m = x ++ u) : takeReqF x = zq 3 := by
  have hs := encQ_size hm
  have hz := congrArg ByteArray.size he
  rw [ByteArray.size_append] at hz
  rcases take_req x with ⟨b0, b1, b2, b3, t', o', y', v', l', h', m', hm', e', _⟩ | e
  · have f1 := parse_back hm (⟨#[]⟩ : ByteArray) (fun _ _ _ _ _ _ _ _ _ _ _ x => x.1)
    have f2 := parse_back hm' u (fun _ _ _ _ _ _ _ _ _ _ _ x => x.1)
    rw [app_empty, he, e', f2] at f1
    have : u.size = 0 := by rw [show u = (⟨#[]⟩ : ByteArray) from f1]; rfl
    omega
  · rw [e, if_neg (by omega)]
/-- The document's example. -/
theorem shown_f (k : Nat) : stanchionlaw16_shown.f (k + 1) = some true := by
  unfold stanchionlaw16_shown.f
  have h1 : (⟨#[116]⟩ : ByteArray).size = 1 := rfl
  have h0 : (⟨#[]⟩ : ByteArray).size = 0 := rfl
  have hm : mayQ 4 1 2 3 (⟨#[116]⟩ : ByteArray) 0 (⟨#[]⟩ : ByteArray) (⟨#[]⟩ : ByteArray) (⟨#[]⟩ : ByteArray) (⟨#[]⟩ : ByteArray) 0 := by
    unfold mayQ
    rw [h1, h0]
    decide
  rw [req_f, bsm, if_pos hm]
  have e : (encQ 4 1 2 3 (⟨#[116]⟩ : ByteArray) 0 (⟨#[]⟩ : ByteArray) (⟨#[]⟩ : ByteArray) (⟨#[]⟩ : ByteArray) (⟨#[]⟩ : ByteArray) 0).toList = ([52, 59, 49, 59, 50, 59, 51, 59, 49, 59, 116] : List UInt8) := by
    rw [Lib.toList_data]
    unfold encQ textS
    simp only [data_append, numS_data, h1]
    rw [show (4 : Int).toNat = 4 from rfl, show (1 : Int).toNat = 1 from rfl, show (2 : Int).toNat = 2 from rfl, show (3 : Int).toNat = 3 from rfl, figL_small (by omega), figL_small (by omega), figL_small (by omega), figL_small (by omega)]
    rfl
  rw [if_pos e]
  rfl
end Go.Proofs.YtlpcidjmaeicoaaDoor.Enc

/-! RepP -/
/- Replies as bytes: plain laws. -/
namespace Go.Proofs.YtlpcidjmaeicoaaDoor.Enc
open Go Go.RowKit Go.Proofs.YtlpcidjmaeicoaaDoor.DecM Go.Proofs.YtlpcidjmaeicoaaDoor.Giv Go.Proofs.YtlpcidjmaeicoaaDoor.Wire Go.Proofs.YtlpcidjmaeicoaaDoor.Reader Go.Proofs.YtlpcidjmaeicoaaDoor.QWi Go.Proofs.YtlpcidjmaeicoaaDoorW.PrintWords

theorem bsp {α β : Type} (a : α) (f : α → Option β) : (some a).bind f = f a := Eq.trans (Option.bind_some a f) (Eq.refl _)
def flagI (b : Bool) : Int := if b = true then 1 else 0
theorem flagI_is (b : Bool) : (flagI b == 1) = b := by
  cases b <;> rfl
theorem flagI_01 (b : Bool) : 0 ≤ flagI b ∧ flagI b ≤ 1 := by
  cases b with
  | true => exact ⟨by decide, by decide⟩
  | false => exact ⟨by decide, by decide⟩
theorem flagI_of (n : Int) (h : 0 ≤ n ∧ n ≤ 1) : flagI (n == 1) = n := by
  rcases (by omega : n = 0 ∨ n = 1) with rfl | rfl
  · rfl
  · rfl
def encRows : List S74 → ByteArray
  | [] => ⟨#[]⟩
  | p :: l => textS p.f0 ++ (textS p.f1 ++ encRows l)
/-- A reply's bytes. -/
def encP (p : S41) : ByteArray :=
  numS p.f0.toNat ++ (numS p.f1.toNat ++ (numS p.f2.toNat ++ (numS p.f3.toNat ++ (textS p.f4 ++ (numS (flagI p.f5).toNat ++ (numS (flagI p.f7).toNat ++ (numS (p.f6.length : Int).toNat ++ encRows p.f6)))))))
def mayP (p : S41) : Bool := mayB p.f0 p.f1 p.f2 p.f3 p.f4 p.f5 p.f6 p.f7
theorem numB_is {x : Int} (h : QWi.numB x = true) : 0 ≤ x ∧ x ≤ 1073741824 := by
  unfold QWi.numB at h
  simpa using h
/-- What a reply that may be keeps to. -/
theorem mayP_is {p : S41} (h : mayP p = true) : (0 ≤ p.f0 ∧ p.f0 ≤ 1073741824) ∧ (0 ≤ p.f1 ∧ p.f1 ≤ 1073741824) ∧ (0 ≤ p.f2 ∧ p.f2 ≤ 1073741824) ∧ (0 ≤ p.f3 ∧ p.f3 ≤ 16) ∧ p.f4.size ≤ 64 ∧ p.f6.length ≤ 16 ∧ ∀ x ∈ p.f6, x.f0.size ≤ 32 ∧ x.f1.size ≤ 64 := by
  have e := mayReply_some p.f0 p.f1 p.f2 p.f3 p.f4 p.f5 p.f6 p.f7
  rw [show mayB p.f0 p.f1 p.f2 p.f3 p.f4 p.f5 p.f6 p.f7 = true from h] at e
  unfold wire_mayReply.f at e
  by_cases c0 : QWi.numB p.f0 = false
  · rw [if_pos c0] at e
    cases e
  rw [if_neg c0] at e
  by_cases c1 : QWi.numB p.f1 = false
  · rw [if_pos c1] at e
    cases e
  rw [if_neg c1] at e
  by_cases c2 : QWi.numB p.f2 = false
  · rw [if_pos c2] at e
    cases e
  rw [if_neg c2] at e
  by_cases c3 : p.f3 < 0
  · rw [if_pos c3] at e
    cases e
  rw [if_neg c3] at e
  by_cases c4 : 16 < p.f3
  · rw [if_pos c4] at e
    cases e
  rw [if_neg c4] at e
  by_cases c5 : 64 < (p.f4.size : Int)
  · rw [if_pos c5] at e
    cases e
  rw [if_neg c5] at e
  by_cases c6 : 16 < (p.f6.length : Int)
  · rw [if_pos c6] at e
    cases e
  rw [if_neg c6] at e
  have c9 : p.f6.any longP = false := by
    by_cases c7 : table_Right.f 20 p.f6 = some false
    · rw [if_pos c7] at e
      cases e
    rw [if_neg c7] at e
    by_cases c8 : table_Right.f 20 p.f6 = some true
    · rw [if_pos c8] at e
      by_cases c9 : p.f6.any longP = true
      · rw [if_pos c9] at e
        cases e
      · exact Bool.eq_false_iff.mpr c9
    · rw [if_neg c8] at e
      cases e
  refine ⟨numB_is (by simpa using c0), numB_is (by simpa using c1), numB_is (by simpa using c2), ⟨by omega, by omega⟩, by omega, by omega, fun x hx => ?_⟩
  have h1 := List.any_eq_false.1 c9 x hx
  unfold longP at h1
  simp at h1
  omega
theorem encRows_size (l : List S74) (h : ∀ x ∈ l, x.f0.size ≤ 32 ∧ x.f1.size ≤ 64) : (encRows l).size ≤ 102 * l.length := by
  induction l with
  | nil => exact Nat.zero_le _
  | cons p l ih =>
    have h1 := h p (List.mem_cons_self ..)
    have h2 := ih fun x hx => h x (List.mem_cons_of_mem _ hx)
    have k1 := text_size p.f0 (by omega)
    have k2 := text_size p.f1 (by omega)
    show (textS p.f0 ++ (textS p.f1 ++ encRows l)).size ≤ _
    rw [ByteArray.size_append, ByteArray.size_append, List.length_cons, Nat.mul_succ]
    omega
theorem encP_size {p : S41} (hm : mayP p = true) : 1 ≤ (encP p).size ∧ (encP p).size ≤ 2000 := by
  obtain ⟨p0, p1, p2, p3, p4, p5, p6⟩ := mayP_is hm
  have n0 := num_size p.f0 p0
  have n1 := num_size p.f1 p1
  have n2 := num_size p.f2 p2
  have n3 := num_size p.f3 (by omega)
  have n4 := text_size p.f4 (by omega)
  have n5 := numS_le 0 (flagI p.f5).toNat (by have := flagI_01 p.f5; omega)
  have n6 := numS_le 0 (flagI p.f7).toNat (by have := flagI_01 p.f7; omega)
  have n7 := numS_le 1 (p.f6.length : Int).toNat (by omega)
  have n8 := encRows_size p.f6 p6
  have n9 := numS_ge p.f0.toNat
  unfold encP
  simp only [ByteArray.size_append]
  omega
theorem rd_at (l : List S74) (i : Nat) (hi : i < l.length) : rd_T74 l (i : Int) = l[i] := by
  unfold rd_T74
  rw [Int.toNat_natCast, List.getD_eq_getElem?_getD, List.getElem?_eq_getElem hi]
  rfl
theorem reply_l0 (l : List S74) (hl : l.length ≤ 16) (ha : ∀ x ∈ l, x.f0.size ≤ 32 ∧ x.f1.size ≤ 64) : ∀ (d i : Nat) (x : ByteArray) (k : Nat), l.length - i = d → i ≤ l.length → x.size + 102 * d ≤ 100000 → d < k →
    wire_Reply.l0 k x l (l.length : Int) (i : Int) = some (x ++ encRows (l.drop i), 0) := by
  intro d
  induction d with
  | zero =>
    intro i x k hd hi hx hk
    obtain ⟨k, rfl⟩ : ∃ j, k = j + 1 := ⟨k - 1, by omega⟩
    rw [wire_Reply.l0, if_neg (by omega), List.drop_eq_nil_of_le (by omega)]
    show _ = some (x ++ (⟨#[]⟩ : ByteArray), 0)
    rw [app_empty]
  | succ d ih =>
    intro i x k hd hi hx hk
    obtain ⟨k, rfl⟩ : ∃ j, k = j + 1 := ⟨k - 1, by omega⟩
    have hlt : i < l.length := by omega
    obtain ⟨s1, s2⟩ := ha l[i] (List.getElem_mem hlt)
    have k1 := text_size (l[i]).f0 (by omega)
    have k2 := text_size (l[i]).f1 s2
    have e := ih (i + 1) (x ++ (textS (l[i]).f0 ++ textS (l[i]).f1)) k (by omega) (by omega) (by simp only [ByteArray.size_append]; omega) (by omega)
    rw [wire_Reply.l0, if_pos (by omega), if_pos (by omega), if_pos (by omega), rd_at l i hlt, texts_some [(l[i]).f0, (l[i]).f1] (by simp) (by
      intro t ht
      simp only [List.mem_cons, List.not_mem_nil, or_false] at ht
      rcases ht with rfl | rfl
      · omega
      · exact s2), bsp, texts_cons, texts_one, if_pos (by simp only [ByteArray.size_append]; omega), w_nat i (by omega), e, List.drop_eq_getElem_cons hlt]
    show _ = some (x ++ (textS (l[i]).f0 ++ (textS (l[i]).f1 ++ encRows (l.drop (i + 1)))), 0)
    rw [asc, asc]
/-- What wire.Reply gives. -/
theorem reply_f (k : Nat) (p : S41) : wire_Reply.f (k + 18) p.f0 p.f1 p.f2 p.f3 p.f4 p.f5 p.f6 p.f7 = some (if mayP p = true then (encP p, 0) else (⟨#[]⟩, 1)) := by
  unfold wire_Reply.f
  rw [mayReply_some, bsp, show mayB p.f0 p.f1 p.f2 p.f3 p.f4 p.f5 p.f6 p.f7 = mayP p from rfl]
  by_cases hm : mayP p = true
  · rw [if_pos hm, if_pos hm]
    have hz := encP_size hm
    obtain ⟨p0, p1, p2, p3, p4, p5, p6⟩ := mayP_is hm
    have n0 := num_size p.f0 p0
    have n1 := num_size p.f1 p1
    have n2 := num_size p.f2 p2
    have n3 := num_size p.f3 (by omega)
    have n4 := text_size p.f4 (by omega)
    have b5 := flagI_01 p.f5
    have b7 := flagI_01 p.f7
    have n5 := num_size (flagI p.f5) (by omega)
    have n6 := num_size (flagI p.f7) (by omega)
    have n7 := num_size (p.f6.length : Int) (by omega)
    have n8 := encRows_size p.f6 p6
    have fl : ∀ b, wire_flag.f b = some (flagI b) := fun b => by
      unfold wire_flag.f flagI
      cases b <;> rfl
    have e1 : numsS [p.f0, p.f1, p.f2, p.f3] ++ textsW [p.f4] = numS p.f0.toNat ++ (numS p.f1.toNat ++ (numS p.f2.toNat ++ (numS p.f3.toNat ++ textS p.f4))) := by
      rw [nums_cons, nums_cons, nums_cons, nums_one, texts_one, asc, asc, asc]
    have e2 : numsS [flagI p.f5, flagI p.f7, (p.f6.length : Int)] = numS (flagI p.f5).toNat ++ (numS (flagI p.f7).toNat ++ numS (p.f6.length : Int).toNat) := by
      rw [nums_cons, nums_cons, nums_one]
    rw [nums_some [p.f0, p.f1, p.f2, p.f3] (by simp) (by
      intro x hx
      simp only [List.mem_cons, List.not_mem_nil, or_false] at hx
      rcases hx with rfl | rfl | rfl | rfl
      · exact p0
      · exact p1
      · exact p2
      · omega), bsp, texts_some [p.f4] (by simp) (by
      intro x hx
      rw [List.mem_singleton.1 hx]
      omega), bsp, if_pos (by rw [← ByteArray.size_append, e1]; simp only [ByteArray.size_append]; omega), fl, bsp, fl, bsp, nums_some [flagI p.f5, flagI p.f7, (p.f6.length : Int)] (by simp) (by
      intro x hx
      simp only [List.mem_cons, List.not_mem_nil, or_false] at hx
      rcases hx with rfl | rfl | rfl
      · omega
      · omega
      · omega), bsp, if_pos (by rw [← ByteArray.size_append, e1, e2]; simp only [ByteArray.size_append]; omega)]
    have e3 := reply_l0 p.f6 p5 p6 p.f6.length 0 (numsS [p.f0, p.f1, p.f2, p.f3] ++ textsW [p.f4] ++ numsS [flagI p.f5, flagI p.f7, (p.f6.length : Int)]) (k + 18) (by omega) (by omega) (by rw [e1, e2]; simp only [ByteArray.size_append]; omega) (by omega)
    rw [show ((0 : Nat) : Int) = 0 from rfl] at e3
    rw [e3, e1, e2, List.drop_zero]
    unfold encP
    simp only [asc]
  · rw [if_neg hm, if_neg hm]
/-! ### rows -/
theorem encRows_snoc (l : List S74) (p : S74) : encRows (l ++ [p]) = encRows l ++ (textS p.f0 ++ textS p.f1) := by
  induction l with
  | nil =>
    show textS p.f0 ++ (textS p.f1 ++ (⟨#[]⟩ : ByteArray)) = (⟨#[]⟩ : ByteArray) ++ _
    rw [app_empty]
    apply bytes_ext
    simp only [data_append, List.nil_append]
  | cons q l ih =>
    show textS q.f0 ++ (textS q.f1 ++ encRows (l ++ [p])) = (textS q.f0 ++ (textS q.f1 ++ encRows l)) ++ _
    rw [ih, asc, asc]
theorem rows_back (l : List S74) (ha : ∀ x ∈ l, x.f0.size ≤ 32 ∧ x.f1.size ≤ 64) (r : ByteArray) : ∀ i, i ≤ l.length → rowsI (encRows l ++ r, false) i = (l.take i, encRows (l.drop i) ++ r, false) := by
  intro i
  induction i with
  | zero => exact fun _ => rfl
  | succ i ih =>
    intro hi
    have hlt : i < l.length := by omega
    obtain ⟨s1, s2⟩ := ha l[i] (List.getElem_mem hlt)
    show rowStep (rowsI (encRows l ++ r, false) i) = _
    rw [ih (by omega)]
    unfold rowStep
    rw [List.drop_eq_getElem_cons hlt]
    show tx ((textS (l[i]).f0 ++ (textS (l[i]).f1 ++ encRows (l.drop (i + 1)))) ++ r, false) 32 _ = _
    rw [asc, tx_back _ _ _ _ (by omega) (by omega), asc, tx_back _ _ _ _ (by omega) (by omega), List.take_succ_eq_append_getElem hlt]
theorem rows_all (l : List S74) (ha : ∀ x ∈ l, x.f0.size ≤ 32 ∧ x.f1.size ≤ 64) (r : ByteArray) : rowsI (encRows l ++ r, false) l.length = (l, r, false) := by
  rw [rows_back l ha r _ (Nat.le_refl _), List.take_length, List.drop_length]
  show (l, (⟨#[]⟩ : ByteArray) ++ r, false) = _
  have e : (⟨#[]⟩ : ByteArray) ++ r = r := by
    apply bytes_ext
    simp only [data_append, List.nil_append]
  rw [e]
theorem row_was (l : List S74) (s : ByteArray) : (fun z : List S74 × ByteArray × Bool => z.2.2 = false → ∃ k v, z.1 = l ++ [⟨k, v⟩] ∧ s = textS k ++ (textS v ++ z.2.1)) (rowStep (l, s, false)) := by
  unfold rowStep
  show tx (s, false) 32 fun k x => tx x 64 fun v y => (y.2 = false → ∃ k' v', l ++ [⟨k, v⟩] = l ++ [⟨k', v'⟩] ∧ s = textS k' ++ (textS v' ++ y.1))
  refine tx_rule (by simp only [tx_bad]; intro h; cases h) fun k r b e => ?_
  refine tx_rule (by intro h; cases h) fun v r' b' e' => ?_
  intro _
  exact ⟨k, v, rfl, by rw [e, e']⟩
theorem rows_was (x : ByteArray × Bool) (i : Nat) : (rowsI x i).2.2 = false → x.2 = false ∧ x.1 = encRows (rowsI x i).1 ++ (rowsI x i).2.1 := by
  induction i with
  | zero =>
    intro h
    refine ⟨h, ?_⟩
    show x.1 = (⟨#[]⟩ : ByteArray) ++ x.1
    apply bytes_ext
    simp only [data_append, List.nil_append]
  | succ i ih =>
    intro h
    have h' : (rowStep (rowsI x i)).2.2 = false := h
    show x.2 = false ∧ x.1 = encRows (rowStep (rowsI x i)).1 ++ (rowStep (rowsI x i)).2.1
    generalize rowsI x i = p at ih h'
    obtain ⟨l, s, b⟩ := p
    cases b with
    | true =>
      unfold rowStep at h'
      simp only [tx_bad] at h'
      cases h'
    | false =>
      obtain ⟨h1, h2⟩ := ih rfl
      obtain ⟨k, v, e1, e2⟩ := row_was l s h'
      refine ⟨h1, ?_⟩
      rw [h2, e1, encRows_snoc, asc, asc]
      show encRows l ++ s = _
      exact congrArg (fun z => encRows l ++ z) e2
/-- The fields, one behind the other. -/
def parseP {α : Type} (x : ByteArray × Bool) (f : Int → Int → Int → Int → ByteArray → Int → Int → Int → ByteArray × Bool → α) : α :=
  nx x 1073741824 fun a1 x1 => nx x1 1073741824 fun a2 x2 => nx x2 1073741824 fun a3 x3 => nx x3 16 fun a4 x4 => tx x4 64 fun a5 x5 => nx x5 1 fun a6 x6 => nx x6 1 fun a7 x7 => nx x7 16 fun a8 x8 => f a1 a2 a3 a4 a5 a6 a7 a8 x8
theorem takeReply_parse (s : ByteArray) : takeReplyF s = parseP (s, false) fun a1 a2 a3 a4 a5 a6 a7 a8 x8 => goodP a1 a2 a3 a4 a5 (a6 == 1) (a7 == 1) (rowsI x8 a8.toNat) := rfl
theorem parseP_at (x : ByteArray × Bool) : ∃ a1 a2 a3 a4 a5 a6 a7 a8 z, ∀ {α : Type} (f : Int → Int → Int → Int → ByteArray → Int → Int → Int → ByteArray × Bool → α), parseP x f = f a1 a2 a3 a4 a5 a6 a7 a8 z :=
  ⟨_, _, _, _, _, _, _, _, _, fun _ => rfl⟩
theorem parseP_back {α : Type} {p : S41} (hm : mayP p = true) (r : ByteArray) (f : Int → Int → Int → Int → ByteArray → Int → Int → Int → ByteArray × Bool → α) :
    parseP (encP p ++ r, false) f = f p.f0 p.f1 p.f2 p.f3 p.f4 (flagI p.f5) (flagI p.f7) (p.f6.length : Int) (encRows p.f6 ++ r, false) := by
  obtain ⟨p0, p1, p2, p3, p4, p5, p6⟩ := mayP_is hm
  have b5 := flagI_01 p.f5
  have b7 := flagI_01 p.f7
  unfold parseP encP
  rw [asc, nx_back _ _ _ _ p0 (by omega), asc, nx_back _ _ _ _ p1 (by omega), asc, nx_back _ _ _ _ p2 (by omega), asc, nx_back _ _ _ _ p3 (by omega), asc, tx_back _ _ _ _ (by omega) (by omega), asc, nx_back _ _ _ _ b5 (by omega), asc, nx_back _ _ _ _ b7 (by omega), asc, nx_back _ _ _ _ (by omega) (by omega)]
theorem parseP_was (s : ByteArray) : parseP (s, false) fun a1 a2 a3 a4 a5 a6 a7 a8 x => x.2 = false → ((0 ≤ a6 ∧ a6 ≤ 1) ∧ (0 ≤ a7 ∧ a7 ≤ 1) ∧ 0 ≤ a8) ∧
    s = numS a1.toNat ++ (numS a2.toNat ++ (numS a3.toNat ++ (numS a4.toNat ++ (textS a5 ++ (numS a6.toNat ++ (numS a7.toNat ++ (numS a8.toNat ++ x.1))))))) := by
  unfold parseP
  refine nx_rule (by simp only [nx_bad, tx_bad]; intro h; cases h) fun a0 r0 b0 e0 => ?_
  refine nx_rule (by simp only [nx_bad, tx_bad]; intro h; cases h) fun a1 r1 b1 e1 => ?_
  refine nx_rule (by simp only [nx_bad, tx_bad]; intro h; cases h) fun a2 r2 b2 e2 => ?_
  refine nx_rule (by simp only [nx_bad, tx_bad]; intro h; cases h) fun a3 r3 b3 e3 => ?_
  refine tx_rule (by simp only [nx_bad]; intro h; cases h) fun t r4 b4 e4 => ?_
  refine nx_rule (by simp only [nx_bad]; intro h; cases h) fun a5 r5 b5 e5 => ?_
  refine nx_rule (by simp only [nx_bad]; intro h; cases h) fun a6 r6 b6 e6 => ?_
  refine nx_rule (by intro h; cases h) fun a7 r7 b7 e7 => ?_
  intro _
  exact ⟨⟨b5, b6, b7.1⟩, by rw [e0, e1, e2, e3, e4, e5, e6, e7]⟩
/-- What is taken was written by the same bytes; else it is ErrForm. -/
theorem take_rep (s : ByteArray) : (∃ p, mayP p = true ∧ s = encP p ∧ takeReplyF s = (p, 0)) ∨ takeReplyF s = (z41, 3) := by
  rw [takeReply_parse]
  obtain ⟨a1, a2, a3, a4, a5, a6, a7, a8, x, hp⟩ := parseP_at (s, false)
  have hw := parseP_was s
  rw [hp] at hw
  rw [hp]
  unfold goodP
  by_cases hx : (rowsI x a8.toNat).2.2 = true ∨ ¬ (rowsI x a8.toNat).2.1.size = 0
  · exact .inr (if_pos hx)
  · rw [if_neg hx]
    by_cases hm : mayB a1 a2 a3 a4 a5 (a6 == 1) (rowsI x a8.toNat).1 (a7 == 1) = true
    · rw [if_pos hm]
      simp only [not_or, Classical.not_not] at hx
      obtain ⟨w1, w2⟩ := rows_was x a8.toNat (by simpa using hx.1)
      obtain ⟨⟨b6, b7, b8⟩, e⟩ := hw w1
      refine .inl ⟨⟨a1, a2, a3, a4, a5, a6 == 1, (rowsI x a8.toNat).1, a7 == 1⟩, hm, ?_, rfl⟩
      have el : ((rowsI x a8.toNat).1.length : Int).toNat = a8.toNat := by
        rw [rowsI_length, Int.toNat_natCast]
      rw [size_nil hx.2, app_empty] at w2
      unfold encP
      dsimp only
      rw [flagI_of a6 b6, flagI_of a7 b7, el, ← w2]
      exact e
    · exact .inr (if_neg hm)
theorem take_p_all {p : S41} (hm : mayP p = true) (u : ByteArray) : takeReplyF (encP p ++ u) = if u.size = 0 then (p, 0) else (z41, 3) := by
  rw [takeReply_parse, parseP_back hm]
  have ha := (mayP_is hm).2.2.2.2.2.2
  rw [Int.toNat_natCast, rows_all p.f6 ha u, flagI_is, flagI_is]
  unfold goodP
  by_cases hu : u.size = 0
  · rw [if_pos hu, if_neg (by rintro (h | h); · cases h
                              · exact h hu), if_pos (show mayB p.f0 p.f1 p.f2 p.f3 p.f4 p.f5 p.f6 p.f7 = true from hm)]
  · rw [if_neg hu, if_pos (.inr hu)]
theorem take_p {p : S41} (hm : mayP p = true) : takeReplyF (encP p) = (p, 0) := by
  have e := take_p_all hm (⟨#[]⟩ : ByteArray)
  rw [app_empty] at e
  exact e
theorem take_p_less {p : S41} (hm : mayP p = true) (x u : ByteArray) (hu : 1 ≤ u.size) (he : encP p = x ++ u) : takeReplyF x = (z41, 3) := by
  rcases take_rep x with ⟨q, hm', e', _⟩ | e
  · have f1 := take_p hm
    rw [he, e', take_p_all hm' u, if_neg (by omega)] at f1
    have := congrArg Prod.snd f1
    cases this
  · exact e
end Go.Proofs.YtlpcidjmaeicoaaDoor.Enc

/-! CutP -/
/- WireCut in plain Lean: of a request's bytes, and a reply's, no beginning is one, nor with a byte more. -/
namespace Go.Proofs.YtlpcidjmaeicoaaDoor.Enc
open Go Go.RowKit Go.Proofs.YtlpcidjmaeicoaaDoor.DecM Go.Proofs.YtlpcidjmaeicoaaDoor.Giv Go.Proofs.YtlpcidjmaeicoaaDoor.Wire Go.Proofs.YtlpcidjmaeicoaaDoor.Reader Go.Proofs.YtlpcidjmaeicoaaDoor.QWi Go.Proofs.YtlpcidjmaeicoaaDoorW.PrintWords

theorem cut_at (s : ByteArray) (c : Int) (h0 : 0 ≤ c) (h1 : c < s.size) : ∃ u : ByteArray, 1 ≤ u.size ∧ s = s.extract 0 c.toNat ++ u := by
  refine ⟨s.extract c.toNat s.size, ?_, ?_⟩
  · rw [ByteArray.size_extract]
    omega
  · apply bytes_ext
    rw [data_append, ext_upto, ext_from, List.take_append_drop]
theorem takeR_some (s : ByteArray) (hs : s.size ≤ 100000) : wire_TakeReply.f s = some (flatP (takeReplyF s)) := by
  unfold wire_TakeReply.f
  exact if_pos (by omega)
theorem cut_j2 (k : Nat) (c : Int) (p : S41) (hm : mayP p = true) (h0 : 0 ≤ c) (h1 : c < (encP p).size) : stanchionlaw16_WireCut.j2 (k + 1) c true (encP p) true = some true := by
  have hz := encP_size hm
  obtain ⟨u, hu, he⟩ := cut_at (encP p) c h0 h1
  have hs : ((encP p).extract 0 c.toNat).size ≤ 2000 := by
    rw [ByteArray.size_extract]
    omega
  have h48 : (⟨#[48]⟩ : ByteArray).size = 1 := rfl
  have e1 := take_p_less hm _ u hu he
  have e2 := take_p_all hm (⟨#[48]⟩ : ByteArray)
  rw [if_neg (by rw [h48]; decide)] at e2
  rw [stanchionlaw16_WireCut.j2, if_pos rfl, if_pos h0, if_pos (by omega), takeR_some _ (by omega), bsp, if_pos (by omega), takeR_some _ (by rw [ByteArray.size_append, h48]; omega), bsp, e1, e2]
  rfl
theorem cut_j2f (k : Nat) (c : Int) (t : ByteArray) : stanchionlaw16_WireCut.j2 (k + 1) c true t false = some true := by
  rw [stanchionlaw16_WireCut.j2, if_neg (by decide)]
theorem cut_j1 (k : Nat) (c : Int) (p : S41) : stanchionlaw16_WireCut.j1 (k + 2) c true (if mayP p = true then (encP p, (0 : Int)) else (⟨#[]⟩, 1)).1 (if mayP p = true then (encP p, (0 : Int)) else (⟨#[]⟩, 1)).2 = some true := by
  by_cases hm : mayP p = true
  · rw [if_pos hm, stanchionlaw16_WireCut.j1, if_pos rfl]
    by_cases h0 : c ≥ 0
    · rw [if_pos h0]
      by_cases h1 : c < ((encP p).size : Int)
      · rw [decide_eq_true h1]
        exact cut_j2 k c p hm h0 h1
      · rw [decide_eq_false h1]
        exact cut_j2f k c _
    · rw [if_neg h0]
      exact cut_j2f k c _
  · rw [if_neg hm, stanchionlaw16_WireCut.j1, if_neg (by decide)]
    exact cut_j2f k c _
theorem Cut (a0 a1 a2 a3 : Int) (t : ByteArray) (o : Int) (y v l h : ByteArray) (m : Int) (b0 b1 b2 b3 : Int) (b4 : ByteArray) (b5 : Bool) (b6 : List S74) (b7 : Bool) (c : Int) :
    ∃ k, stanchionlaw16_WireCut.f k a0 a1 a2 a3 t o y v l h m b0 b1 b2 b3 b4 b5 b6 b7 c = some true := by
  refine ⟨17 + 1 + 1, ?_⟩
  have hj := cut_j1 16 c ⟨b0, b1, b2, b3, b4, b5, b6, b7⟩
  have hr := reply_f 1 ⟨b0, b1, b2, b3, b4, b5, b6, b7⟩
  unfold stanchionlaw16_WireCut.f
  rw [shown_f, bsp, req_f, bsp]
  rw [show wire_Reply.f (17 + 1 + 1) b0 b1 b2 b3 b4 b5 b6 b7 = _ from hr, bsp]
  generalize (if mayP ⟨b0, b1, b2, b3, b4, b5, b6, b7⟩ = true then (encP ⟨b0, b1, b2, b3, b4, b5, b6, b7⟩, (0 : Int)) else ((⟨#[]⟩ : ByteArray), 1)) = R at hj
  by_cases hm : mayQ a0 a1 a2 a3 t o y v l h m
  · rw [if_pos hm, if_pos rfl]
    dsimp only
    by_cases h0 : c ≥ 0
    · rw [if_pos h0]
      by_cases h1 : c < ((encQ a0 a1 a2 a3 t o y v l h m).size : Int)
      · rw [decide_eq_true h1, stanchionlaw16_WireCut.j0, if_pos rfl, if_pos h0, if_pos (by omega)]
        have hz := encQ_size hm
        obtain ⟨u, hu, he⟩ := cut_at _ c h0 h1
        have h48 : (⟨#[48]⟩ : ByteArray).size = 1 := rfl
        unfold wire_TakeReq.f
        rw [bsp, take_less hm _ u hu he, if_pos (by omega), bsp, take_more hm (⟨#[48]⟩ : ByteArray) (by rw [h48]; decide) (by rw [h48]; decide)]
        exact hj
      · rw [decide_eq_false h1, stanchionlaw16_WireCut.j0, if_neg (by decide)]
        exact hj
    · rw [if_neg h0, stanchionlaw16_WireCut.j0, if_neg (by decide)]
      exact hj
  · rw [if_neg hm, if_neg (by decide), stanchionlaw16_WireCut.j0, if_neg (by decide)]
    exact hj
end Go.Proofs.YtlpcidjmaeicoaaDoor.Enc

/-! Laid -/
/- The one variable that the rows list, errors.errorType: what the condition gives a walk, and a world that meets it (after the worked proof Toyas). -/
namespace Go.Proofs.YtlpcidjmaeicoaaDoor.Laid
open Go Go.RowKit Go.ChangeShapes Go.WideShapes Go.ChangeAt

def list : List (String × DataW Unit) := [("errors.errorType", Rows.laid_errors_errorType)]
theorem et : Tryd.prog.globalNamed "errors.errorType" = some 0 := by kernel_rfl
theorem rt : (Tryd.prog.cutTypes.find? (·.1 == "internal/reflectlite.rtype")).map (·.2) = some 129 := by kernel_rfl
theorem oneRow : ((List.range 172).filter fun t => Tryd.prog.rowNamed t [101, 114, 114, 111, 114]) = [58] := by kernel_rfl
theorem size : Tryd.prog.types.size = 172 := by kernel_rfl
theorem handle_of_laid {W : World} (h : laidMetH Tryd.prog list W) : Reader.Handle W := by
  have h' : laidMet Tryd.prog [] W ∧ handlesMet Tryd.prog list W := h
  obtain ⟨name, u, ty, e1, e2, e3, e4, e5⟩ := h'.2 _ (List.mem_singleton.2 rfl)
  have en : name = [101, 114, 114, 111, 114] := (Option.some.inj e1).symm
  subst en
  obtain rfl := Option.some.inj (rt.symm.trans e2)
  have hm : ty ∈ (List.range 172).filter fun t => Tryd.prog.rowNamed t [101, 114, 114, 111, 114] := List.mem_filter.2 ⟨List.mem_range.2 (by rw [← size]; exact e3), e4⟩
  rw [oneRow] at hm
  obtain rfl := List.mem_singleton.1 hm
  have hh : typeHandle Tryd.prog 58 = .pointer (some ⟨1, 58, none⟩) := by kernel_rfl
  rw [hh] at e5
  unfold Reader.Handle
  simpa using World.var?_cell et e5 0
/-- A world that meets the condition: the settled one, the variable's cell laid. -/
noncomputable def world (os : Os) : World :=
  { World.holding Tryd.prog os ⟨#[], #[], []⟩ with heap := (World.holding Tryd.prog os ⟨#[], #[], []⟩).heap.modify 0 fun
      | .cells _ t frozen => .cells #[.iface 129 (.agg #[.pointer (some ⟨1, 58, none⟩)])] t frozen
      | o => o }
theorem world_met (os : Os) (args : Array Value) : laidMetH Tryd.prog list ((world os).forCall (fun _ _ => 0) ⟨#[], args, []⟩).memory :=
  laidMetH_of_parts (laidMet_nil _ _) (by kernel_rfl)
end Go.Proofs.YtlpcidjmaeicoaaDoor.Laid

/-! UpWireCut -/
/- WireCut returns true for every input that can be read, the package-level variable errors.errorType reading as its initialiser lays it (which the card ties to the program's text): the card, out of the printed contract and the plain law. -/
namespace Go.Proofs.YtlpcidjmaeicoaaDoor.wireCut
open Go.ChangeShapes Go.WideShapes Go.ChangeAt Go.RowKit
open Go.ChangeMaps (open_string shut_string)
set_option linter.unusedVariables false
theorem len6 {α : Type} {l : List α} (h : l.length = 6) : ∃ a0 a1 a2 a3 a4 a5, l = [a0, a1, a2, a3, a4, a5] :=
  match l, h with
  | [a0, a1, a2, a3, a4, a5], _ => ⟨a0, a1, a2, a3, a4, a5, rfl⟩
theorem len8 {α : Type} {l : List α} (h : l.length = 8) : ∃ a0 a1 a2 a3 a4 a5 a6 a7, l = [a0, a1, a2, a3, a4, a5, a6, a7] :=
  match l, h with
  | [a0, a1, a2, a3, a4, a5, a6, a7], _ => ⟨a0, a1, a2, a3, a4, a5, a6, a7, rfl⟩
theorem len11 {α : Type} {l : List α} (h : l.length = 11) : ∃ a0 a1 a2 a3 a4 a5 a6 a7 a8 a9 a10, l = [a0, a1, a2, a3, a4, a5, a6, a7, a8, a9, a10] :=
  match l, h with
  | [a0, a1, a2, a3, a4, a5, a6, a7, a8, a9, a10], _ => ⟨a0, a1, a2, a3, a4, a5, a6, a7, a8, a9, a10, rfl⟩
theorem own : ownKnob Tryd.prog.godebug = none := by kernel_rfl
theorem laidOut : laidOutB Tryd.prog = true := by kernel_rfl
theorem c3 : Tryd.prog.cellsOf 3 = 1 := by kernel_rfl
theorem c4 : Tryd.prog.cellsOf 4 = 1 := by kernel_rfl
theorem c9 : Tryd.prog.cellsOf 9 = 1 := by kernel_rfl
theorem c23 : Tryd.prog.cellsOf 23 = 6 := by kernel_rfl
theorem c25 : Tryd.prog.cellsOf 25 = 11 := by kernel_rfl
theorem c27 : Tryd.prog.cellsOf 27 = 1 := by kernel_rfl
theorem c39 : Tryd.prog.cellsOf 39 = 1 := by kernel_rfl
theorem c41 : Tryd.prog.cellsOf 41 = 8 := by kernel_rfl
set_option maxRecDepth 100000 in
theorem contract (H : Type) (enc : TypeId × Value → H) (W : World) (base : Nat) (args : Array Value) (ds gs : List (DataW H)) (before : List MemPlace)
    (hval0 : ∀ (j : Nat) t v, Tryd.f6.params[j]? = some t → args[j]? = some v → Value.okWide Tryd.prog W .any base t v)
    (hW : DataW.Whole enc Tryd.prog Tryd.f6.params.toList Rows.wireCutSpec.vars false W args.toList ds gs before) (hL : laidMetH Tryd.prog Rows.wireCutRow.laid W) :
    Calls Tryd.prog 6 args W fun e W' => ∃ v, e = .returned v ∧ Rows.wireCutSpec.post enc Tryd.prog Tryd.f6 false true false false W args v W' := by
  have hval : ∀ (j : Nat) t v, Tryd.f6.params[j]? = some t → args[j]? = some v → Value.okWide Tryd.prog W .any base t v := hval0
  have hW' := hW
  obtain ⟨p, q, hA0, hV, rfl, hfz, hnd⟩ := hW
  have hA : DataW.TrodAll enc Tryd.prog W 0 (fun _ => true) true Tryd.f6.params.toList args.toList ds p := hA0
  rw [Tryd.params6] at hA hval
  obtain ⟨v0, vs0, d0, ds0, p0, q0, hargs, rfl, rfl, h0, r0⟩ := trodAll_cons hA
  obtain ⟨v1, vs1, d1, ds1, p1, q1, rfl, rfl, rfl, h1, r1⟩ := trodAll_cons r0
  obtain ⟨v2, vs2, d2, ds2, p2, q2, rfl, rfl, rfl, h2, r2⟩ := trodAll_cons r1
  obtain ⟨rfl, rfl, rfl⟩ := trodAll_nil r2
  obtain rfl : args = #[v0, v1, v2] := by cases args; simp_all
  obtain ⟨rfl, rfl⟩ := trodVars_none hV
  have h0k := h0
  obtain ⟨cs0, rfl, hs0⟩ := okWide_struct Tryd.underlying25 (hval 0 25 v0 rfl rfl)
  obtain ⟨lx0⟩ := cs0
  rw [c25] at hs0
  obtain ⟨c0_0c, c0_1c, c0_2c, c0_3c, c0_4c, c0_5c, c0_6c, c0_7c, c0_8c, c0_9c, c0_10c, rfl⟩ := len11 hs0
  obtain ⟨n0, f0⟩ := h0
  have f0x : DataW.trod enc Tryd.prog W 0 (fun _ => true) true n0 25 [c0_0c, c0_1c, c0_2c, c0_3c, c0_4c, c0_5c, c0_6c, c0_7c, c0_8c, c0_9c, c0_10c] = some (d0, p0) := f0
  obtain ⟨xs0, n0, _, ex0, _, hl0, hg0⟩ := DataW.trod_struct Tryd.underlying25 f0x
  obtain ⟨y0_0, y0_1, y0_2, y0_3, y0_4, y0_5, rfl⟩ := len6 hl0
  have eb0 := OpenRow.agg_bulk ex0
  simp only [Rows.uptoBulkAll, List.map_cons, List.map_nil] at eb0
  have g0_0 : DataW.trod enc Tryd.prog W 0 (fun _ => true) true n0 3 [c0_0c] = some y0_0 := by
    have z : DataW.trod enc Tryd.prog W 0 (fun _ => true) true n0 3 (([c0_0c, c0_1c, c0_2c, c0_3c, c0_4c, c0_5c, c0_6c, c0_7c, c0_8c, c0_9c, c0_10c].drop 0).take (Tryd.prog.cellsOf 3)) = [y0_0, y0_1, y0_2, y0_3, y0_4, y0_5][0]? := hg0 0 _ rfl
    rw [c3] at z
    exact z
  have g0_1 : DataW.trod enc Tryd.prog W 0 (fun _ => true) true n0 3 [c0_1c] = some y0_1 := by
    have z : DataW.trod enc Tryd.prog W 0 (fun _ => true) true n0 3 (([c0_0c, c0_1c, c0_2c, c0_3c, c0_4c, c0_5c, c0_6c, c0_7c, c0_8c, c0_9c, c0_10c].drop 1).take (Tryd.prog.cellsOf 3)) = [y0_0, y0_1, y0_2, y0_3, y0_4, y0_5][1]? := hg0 1 _ rfl
    rw [c3] at z
    exact z
  have g0_2 : DataW.trod enc Tryd.prog W 0 (fun _ => true) true n0 3 [c0_2c] = some y0_2 := by
    have z : DataW.trod enc Tryd.prog W 0 (fun _ => true) true n0 3 (([c0_0c, c0_1c, c0_2c, c0_3c, c0_4c, c0_5c, c0_6c, c0_7c, c0_8c, c0_9c, c0_10c].drop 2).take (Tryd.prog.cellsOf 3)) = [y0_0, y0_1, y0_2, y0_3, y0_4, y0_5][2]? := hg0 2 _ rfl
    rw [c3] at z
    exact z
  have g0_3 : DataW.trod enc Tryd.prog W 0 (fun _ => true) true n0 3 [c0_3c] = some y0_3 := by
    have z : DataW.trod enc Tryd.prog W 0 (fun _ => true) true n0 3 (([c0_0c, c0_1c, c0_2c, c0_3c, c0_4c, c0_5c, c0_6c, c0_7c, c0_8c, c0_9c, c0_10c].drop 3).take (Tryd.prog.cellsOf 3)) = [y0_0, y0_1, y0_2, y0_3, y0_4, y0_5][3]? := hg0 3 _ rfl
    rw [c3] at z
    exact z
  have g0_4 : DataW.trod enc Tryd.prog W 0 (fun _ => true) true n0 9 [c0_4c] = some y0_4 := by
    have z : DataW.trod enc Tryd.prog W 0 (fun _ => true) true n0 9 (([c0_0c, c0_1c, c0_2c, c0_3c, c0_4c, c0_5c, c0_6c, c0_7c, c0_8c, c0_9c, c0_10c].drop 4).take (Tryd.prog.cellsOf 9)) = [y0_0, y0_1, y0_2, y0_3, y0_4, y0_5][4]? := hg0 4 _ rfl
    rw [c9] at z
    exact z
  have g0_5 : DataW.trod enc Tryd.prog W 0 (fun _ => true) true n0 23 [c0_5c, c0_6c, c0_7c, c0_8c, c0_9c, c0_10c] = some y0_5 := by
    have z : DataW.trod enc Tryd.prog W 0 (fun _ => true) true n0 23 (([c0_0c, c0_1c, c0_2c, c0_3c, c0_4c, c0_5c, c0_6c, c0_7c, c0_8c, c0_9c, c0_10c].drop 5).take (Tryd.prog.cellsOf 23)) = [y0_0, y0_1, y0_2, y0_3, y0_4, y0_5][5]? := hg0 5 _ rfl
    rw [c23] at z
    exact z
  obtain ⟨a0_0, e0_0, q0_0, w0_0⟩ := DataW.trod_int Tryd.underlying3 g0_0
  simp only [List.cons.injEq, and_true] at e0_0
  subst e0_0
  obtain ⟨a0_1, e0_1, q0_1, w0_1⟩ := DataW.trod_int Tryd.underlying3 g0_1
  simp only [List.cons.injEq, and_true] at e0_1
  subst e0_1
  obtain ⟨a0_2, e0_2, q0_2, w0_2⟩ := DataW.trod_int Tryd.underlying3 g0_2
  simp only [List.cons.injEq, and_true] at e0_2
  subst e0_2
  obtain ⟨a0_3, e0_3, q0_3, w0_3⟩ := DataW.trod_int Tryd.underlying3 g0_3
  simp only [List.cons.injEq, and_true] at e0_3
  subst e0_3
  obtain ⟨a0_4, e0_4, q0_4, w0_4⟩ := DataW.trod_string Tryd.underlying9 g0_4
  simp only [List.cons.injEq, and_true] at e0_4
  subst e0_4
  have b0_4 := OpenRow.str_bulk q0_4
  obtain ⟨xs0_5, n0_5, _, ex0_5, _, hl0_5, hg0_5⟩ := DataW.trod_struct Tryd.underlying23 g0_5
  obtain ⟨y0_5_0, y0_5_1, y0_5_2, y0_5_3, y0_5_4, y0_5_5, rfl⟩ := len6 hl0_5
  have eb0_5 := OpenRow.agg_bulk1 ex0_5
  simp only [Rows.uptoBulkAll, List.map_cons, List.map_nil] at eb0_5
  have g0_5_0 : DataW.trod enc Tryd.prog W 0 (fun _ => true) true n0_5 3 [c0_5c] = some y0_5_0 := by
    have z : DataW.trod enc Tryd.prog W 0 (fun _ => true) true n0_5 3 (([c0_5c, c0_6c, c0_7c, c0_8c, c0_9c, c0_10c].drop 0).take (Tryd.prog.cellsOf 3)) = [y0_5_0, y0_5_1, y0_5_2, y0_5_3, y0_5_4, y0_5_5][0]? := hg0_5 0 _ rfl
    rw [c3] at z
    exact z
  have g0_5_1 : DataW.trod enc Tryd.prog W 0 (fun _ => true) true n0_5 9 [c0_6c] = some y0_5_1 := by
    have z : DataW.trod enc Tryd.prog W 0 (fun _ => true) true n0_5 9 (([c0_5c, c0_6c, c0_7c, c0_8c, c0_9c, c0_10c].drop 1).take (Tryd.prog.cellsOf 9)) = [y0_5_0, y0_5_1, y0_5_2, y0_5_3, y0_5_4, y0_5_5][1]? := hg0_5 1 _ rfl
    rw [c9] at z
    exact z
  have g0_5_2 : DataW.trod enc Tryd.prog W 0 (fun _ => true) true n0_5 9 [c0_7c] = some y0_5_2 := by
    have z : DataW.trod enc Tryd.prog W 0 (fun _ => true) true n0_5 9 (([c0_5c, c0_6c, c0_7c, c0_8c, c0_9c, c0_10c].drop 2).take (Tryd.prog.cellsOf 9)) = [y0_5_0, y0_5_1, y0_5_2, y0_5_3, y0_5_4, y0_5_5][2]? := hg0_5 2 _ rfl
    rw [c9] at z
    exact z
  have g0_5_3 : DataW.trod enc Tryd.prog W 0 (fun _ => true) true n0_5 9 [c0_8c] = some y0_5_3 := by
    have z : DataW.trod enc Tryd.prog W 0 (fun _ => true) true n0_5 9 (([c0_5c, c0_6c, c0_7c, c0_8c, c0_9c, c0_10c].drop 3).take (Tryd.prog.cellsOf 9)) = [y0_5_0, y0_5_1, y0_5_2, y0_5_3, y0_5_4, y0_5_5][3]? := hg0_5 3 _ rfl
    rw [c9] at z
    exact z
  have g0_5_4 : DataW.trod enc Tryd.prog W 0 (fun _ => true) true n0_5 9 [c0_9c] = some y0_5_4 := by
    have z : DataW.trod enc Tryd.prog W 0 (fun _ => true) true n0_5 9 (([c0_5c, c0_6c, c0_7c, c0_8c, c0_9c, c0_10c].drop 4).take (Tryd.prog.cellsOf 9)) = [y0_5_0, y0_5_1, y0_5_2, y0_5_3, y0_5_4, y0_5_5][4]? := hg0_5 4 _ rfl
    rw [c9] at z
    exact z
  have g0_5_5 : DataW.trod enc Tryd.prog W 0 (fun _ => true) true n0_5 3 [c0_10c] = some y0_5_5 := by
    have z : DataW.trod enc Tryd.prog W 0 (fun _ => true) true n0_5 3 (([c0_5c, c0_6c, c0_7c, c0_8c, c0_9c, c0_10c].drop 5).take (Tryd.prog.cellsOf 3)) = [y0_5_0, y0_5_1, y0_5_2, y0_5_3, y0_5_4, y0_5_5][5]? := hg0_5 5 _ rfl
    rw [c3] at z
    exact z
  obtain ⟨a0_5_0, e0_5_0, q0_5_0, w0_5_0⟩ := DataW.trod_int Tryd.underlying3 g0_5_0
  simp only [List.cons.injEq, and_true] at e0_5_0
  subst e0_5_0
  obtain ⟨a0_5_1, e0_5_1, q0_5_1, w0_5_1⟩ := DataW.trod_string Tryd.underlying9 g0_5_1
  simp only [List.cons.injEq, and_true] at e0_5_1
  subst e0_5_1
  have b0_5_1 := OpenRow.str_bulk q0_5_1
  obtain ⟨a0_5_2, e0_5_2, q0_5_2, w0_5_2⟩ := DataW.trod_string Tryd.underlying9 g0_5_2
  simp only [List.cons.injEq, and_true] at e0_5_2
  subst e0_5_2
  have b0_5_2 := OpenRow.str_bulk q0_5_2
  obtain ⟨a0_5_3, e0_5_3, q0_5_3, w0_5_3⟩ := DataW.trod_string Tryd.underlying9 g0_5_3
  simp only [List.cons.injEq, and_true] at e0_5_3
  subst e0_5_3
  have b0_5_3 := OpenRow.str_bulk q0_5_3
  obtain ⟨a0_5_4, e0_5_4, q0_5_4, w0_5_4⟩ := DataW.trod_string Tryd.underlying9 g0_5_4
  simp only [List.cons.injEq, and_true] at e0_5_4
  subst e0_5_4
  have b0_5_4 := OpenRow.str_bulk q0_5_4
  obtain ⟨a0_5_5, e0_5_5, q0_5_5, w0_5_5⟩ := DataW.trod_int Tryd.underlying3 g0_5_5
  simp only [List.cons.injEq, and_true] at e0_5_5
  subst e0_5_5
  have h1k := h1
  obtain ⟨cs1, rfl, hs1⟩ := okWide_struct Tryd.underlying41 (hval 1 41 v1 rfl rfl)
  obtain ⟨lx1⟩ := cs1
  rw [c41] at hs1
  obtain ⟨c1_0c, c1_1c, c1_2c, c1_3c, c1_4c, c1_5c, c1_6c, c1_7c, rfl⟩ := len8 hs1
  obtain ⟨n1, f1⟩ := h1
  have f1x : DataW.trod enc Tryd.prog W 0 (fun _ => true) true n1 41 [c1_0c, c1_1c, c1_2c, c1_3c, c1_4c, c1_5c, c1_6c, c1_7c] = some (d1, p1) := f1
  obtain ⟨xs1, n1, _, ex1, _, hl1, hg1⟩ := DataW.trod_struct Tryd.underlying41 f1x
  obtain ⟨y1_0, y1_1, y1_2, y1_3, y1_4, y1_5, y1_6, y1_7, rfl⟩ := len8 hl1
  have eb1 := OpenRow.agg_bulk ex1
  simp only [Rows.uptoBulkAll, List.map_cons, List.map_nil] at eb1
  have g1_0 : DataW.trod enc Tryd.prog W 0 (fun _ => true) true n1 3 [c1_0c] = some y1_0 := by
    have z : DataW.trod enc Tryd.prog W 0 (fun _ => true) true n1 3 (([c1_0c, c1_1c, c1_2c, c1_3c, c1_4c, c1_5c, c1_6c, c1_7c].drop 0).take (Tryd.prog.cellsOf 3)) = [y1_0, y1_1, y1_2, y1_3, y1_4, y1_5, y1_6, y1_7][0]? := hg1 0 _ rfl
    rw [c3] at z
    exact z
  have g1_1 : DataW.trod enc Tryd.prog W 0 (fun _ => true) true n1 3 [c1_1c] = some y1_1 := by
    have z : DataW.trod enc Tryd.prog W 0 (fun _ => true) true n1 3 (([c1_0c, c1_1c, c1_2c, c1_3c, c1_4c, c1_5c, c1_6c, c1_7c].drop 1).take (Tryd.prog.cellsOf 3)) = [y1_0, y1_1, y1_2, y1_3, y1_4, y1_5, y1_6, y1_7][1]? := hg1 1 _ rfl
    rw [c3] at z
    exact z
  have g1_2 : DataW.trod enc Tryd.prog W 0 (fun _ => true) true n1 3 [c1_2c] = some y1_2 := by
    have z : DataW.trod enc Tryd.prog W 0 (fun _ => true) true n1 3 (([c1_0c, c1_1c, c1_2c, c1_3c, c1_4c, c1_5c, c1_6c, c1_7c].drop 2).take (Tryd.prog.cellsOf 3)) = [y1_0, y1_1, y1_2, y1_3, y1_4, y1_5, y1_6, y1_7][2]? := hg1 2 _ rfl
    rw [c3] at z
    exact z
  have g1_3 : DataW.trod enc Tryd.prog W 0 (fun _ => true) true n1 27 [c1_3c] = some y1_3 := by
    have z : DataW.trod enc Tryd.prog W 0 (fun _ => true) true n1 27 (([c1_0c, c1_1c, c1_2c, c1_3c, c1_4c, c1_5c, c1_6c, c1_7c].drop 3).take (Tryd.prog.cellsOf 27)) = [y1_0, y1_1, y1_2, y1_3, y1_4, y1_5, y1_6, y1_7][3]? := hg1 3 _ rfl
    rw [c27] at z
    exact z
  have g1_4 : DataW.trod enc Tryd.prog W 0 (fun _ => true) true n1 9 [c1_4c] = some y1_4 := by
    have z : DataW.trod enc Tryd.prog W 0 (fun _ => true) true n1 9 (([c1_0c, c1_1c, c1_2c, c1_3c, c1_4c, c1_5c, c1_6c, c1_7c].drop 4).take (Tryd.prog.cellsOf 9)) = [y1_0, y1_1, y1_2, y1_3, y1_4, y1_5, y1_6, y1_7][4]? := hg1 4 _ rfl
    rw [c9] at z
    exact z
  have g1_5 : DataW.trod enc Tryd.prog W 0 (fun _ => true) true n1 4 [c1_5c] = some y1_5 := by
    have z : DataW.trod enc Tryd.prog W 0 (fun _ => true) true n1 4 (([c1_0c, c1_1c, c1_2c, c1_3c, c1_4c, c1_5c, c1_6c, c1_7c].drop 5).take (Tryd.prog.cellsOf 4)) = [y1_0, y1_1, y1_2, y1_3, y1_4, y1_5, y1_6, y1_7][5]? := hg1 5 _ rfl
    rw [c4] at z
    exact z
  have g1_6 : DataW.trod enc Tryd.prog W 0 (fun _ => true) true n1 39 [c1_6c] = some y1_6 := by
    have z : DataW.trod enc Tryd.prog W 0 (fun _ => true) true n1 39 (([c1_0c, c1_1c, c1_2c, c1_3c, c1_4c, c1_5c, c1_6c, c1_7c].drop 6).take (Tryd.prog.cellsOf 39)) = [y1_0, y1_1, y1_2, y1_3, y1_4, y1_5, y1_6, y1_7][6]? := hg1 6 _ rfl
    rw [c39] at z
    exact z
  have g1_7 : DataW.trod enc Tryd.prog W 0 (fun _ => true) true n1 4 [c1_7c] = some y1_7 := by
    have z : DataW.trod enc Tryd.prog W 0 (fun _ => true) true n1 4 (([c1_0c, c1_1c, c1_2c, c1_3c, c1_4c, c1_5c, c1_6c, c1_7c].drop 7).take (Tryd.prog.cellsOf 4)) = [y1_0, y1_1, y1_2, y1_3, y1_4, y1_5, y1_6, y1_7][7]? := hg1 7 _ rfl
    rw [c4] at z
    exact z
  obtain ⟨a1_0, e1_0, q1_0, w1_0⟩ := DataW.trod_int Tryd.underlying3 g1_0
  simp only [List.cons.injEq, and_true] at e1_0
  subst e1_0
  obtain ⟨a1_1, e1_1, q1_1, w1_1⟩ := DataW.trod_int Tryd.underlying3 g1_1
  simp only [List.cons.injEq, and_true] at e1_1
  subst e1_1
  obtain ⟨a1_2, e1_2, q1_2, w1_2⟩ := DataW.trod_int Tryd.underlying3 g1_2
  simp only [List.cons.injEq, and_true] at e1_2
  subst e1_2
  obtain ⟨a1_3, e1_3, q1_3, w1_3⟩ := DataW.trod_int Tryd.underlying27 g1_3
  simp only [List.cons.injEq, and_true] at e1_3
  subst e1_3
  obtain ⟨a1_4, e1_4, q1_4, w1_4⟩ := DataW.trod_string Tryd.underlying9 g1_4
  simp only [List.cons.injEq, and_true] at e1_4
  subst e1_4
  have b1_4 := OpenRow.str_bulk q1_4
  obtain ⟨a1_5, e1_5, q1_5⟩ := DataW.trod_bool Tryd.underlying4 g1_5
  simp only [List.cons.injEq, and_true] at e1_5
  subst e1_5
  obtain ⟨A1_6, n1_6q, c1_6, es1_6⟩ := OpenRow.slice_value1 Tryd.underlying39 g1_6
  subst es1_6
  obtain ⟨l1_6, en1_6, hr1_6, hc1_6, b1_6, w1_6⟩ := OpenPairs.open_pairs g1_6
  subst en1_6
  obtain ⟨a1_7, e1_7, q1_7⟩ := DataW.trod_bool Tryd.underlying4 g1_7
  simp only [List.cons.injEq, and_true] at e1_7
  subst e1_7
  have h2k := h2
  obtain ⟨a2, rfl, rfl, rfl, w2⟩ := open_int Tryd.underlying3 (hval 2 3 v2 rfl rfl) h2
  clear hA0 hval0
  have hlt0 : ∀ x ∈ p0, x.block < W.heap.size := by
    obtain ⟨m0, hm0⟩ := h0k
    exact DataW.trod_lt m0 _ _ _ hm0
  have hlt1 : ∀ x ∈ p1, x.block < W.heap.size := by
    obtain ⟨m1, hm1⟩ := h1k
    exact DataW.trod_lt m1 _ _ _ hm1
  obtain ⟨k, hk⟩ := Enc.Cut a0_0 a0_1 a0_2 a0_3 a0_4 a0_5_0 a0_5_1 a0_5_2 a0_5_3 a0_5_4 a0_5_5 a1_0 a1_1 a1_2 a1_3 a1_4 a1_5 l1_6 a1_7 a2 
  refine (QWi.stanchionlaw16_WireCut.calls k a0_0 a0_1 a0_2 a0_3 a0_4 a0_5_0 a0_5_1 a0_5_2 a0_5_3 a0_5_4 a0_5_5 a1_0 a1_1 a1_2 a1_3 a1_4 a1_5 A1_6 c1_6 l1_6 a1_7 a2 true W hr1_6 hc1_6 hk rfl (Laid.handle_of_laid hL)).mono fun e W' ⟨he, bel⟩ => ?_
  subst he
  exact ⟨_, rfl, _, _, _, [], _, [], hW', trodAll_mk1 (shut_bool Tryd.underlying4 _), (trodAll_cons_mk (Below.trod laidOut (by kernel_rfl) (of_decide_eq_true (by kernel_rfl)) h0k bel hlt0) (trodAll_cons_mk (Below.trod laidOut (by kernel_rfl) (of_decide_eq_true (by kernel_rfl)) h1k bel hlt1) (trodAll_cons_mk (shut_int Tryd.underlying3 w2) trodAll_mk0))), rfl, bel.frame _, fun h => by cases h⟩
theorem reads (os : Os) {H : Type} (enc : TypeId × Value → H) : ∃ places, DataW.whole enc Tryd.prog ((Laid.world os).forCall (fun _ _ => 0) ⟨#[], #[.agg #[.int .i64 0, .int .i64 0, .int .i64 0, .int .i64 0, .string ByteArray.empty, .int .i64 0, .string ByteArray.empty, .string ByteArray.empty, .string ByteArray.empty, .string ByteArray.empty, .int .i64 0], .agg #[.int .i64 0, .int .i64 0, .int .i64 0, .int .i64 0, .string ByteArray.empty, .bool false, .slice none 0 0, .bool false], .int .i64 0], []⟩).memory Tryd.f6.params.toList Rows.wireCutSpec.vars false (#[.agg #[.int .i64 0, .int .i64 0, .int .i64 0, .int .i64 0, .string ByteArray.empty, .int .i64 0, .string ByteArray.empty, .string ByteArray.empty, .string ByteArray.empty, .string ByteArray.empty, .int .i64 0], .agg #[.int .i64 0, .int .i64 0, .int .i64 0, .int .i64 0, .string ByteArray.empty, .bool false, .slice none 0 0, .bool false], .int .i64 0] : Array Value).toList 8 = some ([.agg [.lit (.int .i64 0), .lit (.int .i64 0), .lit (.int .i64 0), .lit (.int .i64 0), .lit (.string []), .agg [.lit (.int .i64 0), .lit (.string []), .lit (.string []), .lit (.string []), .lit (.string []), .lit (.int .i64 0)]], .agg [.lit (.int .i64 0), .lit (.int .i64 0), .lit (.int .i64 0), .lit (.int .i64 0), .lit (.string []), .lit (.bool false), .nil, .lit (.bool false)], .lit (.int .i64 0)], [], places) :=
  ⟨[], by kernel_rfl⟩
set_option maxRecDepth 100000 in
theorem lifted (os : Os) (started : os.Started) (H : Type) (enc : TypeId × Value → H) (F : Stop.Interp) :
    ReturnsInHanded {} Tryd.checked os 6 .any ((OpenSpec.ofChange Rows.wireCutSpec).preRow enc Tryd.prog Tryd.f6 Rows.wireCutRow.domain false Rows.wireCutRow.laid) (((OpenSpec.ofChange Rows.wireCutSpec).at F).post enc Tryd.prog Tryd.f6 false true false false) := by
  obtain ⟨places, hx⟩ := reads os enc
  refine returnsInHanded_of_row (C := Tryd.checked) (s := OpenSpec.ofChange Rows.wireCutSpec) own started (by kernel_rfl) Tryd.func6
    (witness_row_at (enc := enc) (C := Tryd.checked) false (Laid.world os) #[.agg #[.int .i64 0, .int .i64 0, .int .i64 0, .int .i64 0, .string ByteArray.empty, .int .i64 0, .string ByteArray.empty, .string ByteArray.empty, .string ByteArray.empty, .string ByteArray.empty, .int .i64 0], .agg #[.int .i64 0, .int .i64 0, .int .i64 0, .int .i64 0, .string ByteArray.empty, .bool false, .slice none 0 0, .bool false], .int .i64 0] rfl (by kernel_rfl) (by kernel_rfl) (by kernel_rfl)
      (OpenSpec.preRow_of_cond 8 hx (by kernel_rfl) (fun k hk => by cases hk) (by kernel_rfl) (Laid.world_met os _))) ?_
  intro W base args ds gs before hval hW _ _ _ hL _ _
  exact contract H enc W base args ds gs before hval hW hL
theorem said : Rows.WireCutSaid :=
  OpenClaim.holds_of_cond 6 Tryd.f6 rfl rfl rfl rfl rfl rfl rfl ⟨rfl, rfl, rfl, rfl, rfl⟩ rfl rfl rfl rfl rfl (by kernel_rfl) Tryd.func6 (by kernel_rfl)
    (of_decide_eq_true (by kernel_rfl)) (by unfold Func.isWrapper; first | (rw [if_pos (by decide +kernel)]; kernel_rfl) | (rw [if_neg (by decide +kernel)]; exact ⟨rfl, rfl⟩))
    (fun os started H enc _ F => by rw [OpenClaim.pre_eq_preRow]; exact lifted os started H enc F)
theorem plain (f : FuncId) (fn : Func) (hf : Tryd.pinned.checked.prog.funcNamed "stanchion/stanchionlaw16.WireCut" = some f) (hfn : Tryd.pinned.checked.prog.funcs[f]? = some fn) :
    true = Tryd.pinned.checked.prog.looks [] ∧ ∀ (j : Nat) t, fn.params[j]? = some t → Tryd.pinned.checked.prog.wantsStandIn t = false := by
  obtain rfl : f = 6 := Option.some.inj ((show Tryd.prog.funcNamed "stanchion/stanchionlaw16.WireCut" = some 6 by kernel_rfl).symm.trans hf) |>.symm
  obtain rfl : fn = Tryd.f6 := (Option.some.inj (Tryd.func6.symm.trans hfn)).symm
  refine ⟨by kernel_rfl, fun j t ht => ?_⟩
  rw [Tryd.params6] at ht
  have hm := Array.mem_of_getElem? ht
  simp only [List.mem_toArray, List.mem_cons, List.not_mem_nil, or_false] at hm
  rcases hm with rfl | rfl | rfl
  · exact (show Tryd.prog.wantsStandIn 25 = false by kernel_rfl)
  · exact (show Tryd.prog.wantsStandIn 41 = false by kernel_rfl)
  · exact (show Tryd.prog.wantsStandIn 3 = false by kernel_rfl)
/-- The card. -/
theorem proved : Rows.WireCutCardSaid :=
  Claim7.holds_tied_plain_at .later [] _ _ _ _ said (fun _ h => by cases h) (by kernel_rfl) (fun _ h => by cases h) wireCut_row_tie rfl ⟨rfl, rfl⟩ (by kernel_rfl) rfl plain (by kernel_rfl)
#print axioms proved
end Go.Proofs.YtlpcidjmaeicoaaDoor.wireCut
namespace Go.Proofs.YtlpcidjmaeicoaaDoor
/-- The card, under a short name, for the claim. -/
theorem wireCut_card : Rows.WireCutCardSaid := wireCut.proved
end Go.Proofs.YtlpcidjmaeicoaaDoor
