/- Part of the proof of the statement WireReplies, as a card; what is proved, and on which condition, stands at the head of YtlpcidjmaeicoaaDoorPP6 (texts Err, QTx0, QTx1, QTx, Told, Take, Num, Refs, Giv, QDecx0, QDecx1, QDecx, TextLaws, Reader, State, Next, Build, Shelf, Nums, GivWire, GivDoor, QWix0, RepState, RepOut, QWix1) -/
import Derived.Test.YtlpcidjmaeicoaaDoorProg
import Derived.WalkKit
import Derived.LaidEql
import Derived.Stop.Asserts
import Derived.RowKitTokens
import Derived.Below
import Derived.Deep.Draws
import Derived.Deep.AppendLies
import Derived.Maps.AppendAt
import Derived.OwnWalk
import Derived.Laws.BytesArg
import Derived.Laws.MakeOwn
import Derived.Laws.OwnMore
import Derived.Deep.OwnRows
import Derived.Tactics
import Derived.Lib.ConvBytes
import Derived.Laws.Slices
import Derived.KernelRfl
import Derived.RowKit3
import Derived.Deep.LoopGhost
import Derived.Deep.QuietTactic
import Derived.BigQuiet
import Derived.WideLaws
import Derived.Deep.DeepCutAuto
import Derived.Deep.CutBlock
import Derived.Deep.RegionHeld3
import Derived.Laws.Rows
import Derived.Lib.AppendStr
import Derived.ArgAppend
import Derived.Laws.IdiomCopy
import Derived.OrdersHeld
import Derived.Laws.BitsLemmas
import Derived.RowKit
import Derived.Lib.Strings
import Derived.LoopTactic
import Derived.Outline
import Derived.IntWalk
import Derived.Lib.Hide
import Derived.OpenShut
import Derived.Laws.Closers25
import Derived.Handy
import Derived.Shelf.Strings.Builder1
import Derived.Lib.Slices
import Derived.Lib.Walk
import Derived.Lib.Builder
import Derived.Lib.UnsafeStr
import Derived.Lib.MakeNoZero
import Derived.Laws.Externs
import Derived.Shelf.Strings.BuilderF
import Derived.Shelf.Strings.BuilderK
import Derived.Lib.SmallJoins
import Derived.Test.YtlpcidjmaeicoaaDoorPP0
namespace Go.Proofs.YtlpcidjmaeicoaaDoor.Err
open Go Go.RowKit Go.Extern.Stop Go.Stop Go.Extern
theorem as_nil (t : Value) (w : World) :
    Calls Tryd.prog 47 #[.nilIface, t] w fun e w' => e = .returned (.bool false) ∧ w' = w := by
  go_enter Tryd.func47, Tryd.ntmps47
  go_wp2
  go_ret
  exact ⟨rfl, rfl⟩
theorem E.valueOf27 (t : Addr) (w : World) : (ReflectliteValue.unpack (.iface 94 (.pointer (some t)))).run Tryd.prog w
    = .ok (.agg #[.pointer (some ⟨1, 94, none⟩), .pointer (some ⟨w.heap.size, 0, none⟩), .int .u64 150]) (w.alloc (.cells #[.pointer (some t)] 94)) := by kernel_rfl
theorem E.type27 (a : Addr) (w : World) : (ReflectliteValue.methodAny (ReflectliteValue.valueError "reflectlite.Value.Type" 0) (fun t _ _ _ => ReflectliteType.toType t) #[.agg #[.pointer (some ⟨1, 94, none⟩), .pointer (some a), .int .u64 150]]).run Tryd.prog w
    = .ok (.iface 129 (.agg #[.pointer (some ⟨1, 94, none⟩)])) w := by kernel_rfl
theorem E.methodKind (h : Value) (w : World) : (Go.method 272 129 (.agg #[h]) "Kind").run Tryd.prog w = .ok (82, h) w := by kernel_rfl
theorem E.kind27 (w : World) : ((ReflectliteType.abiMethod fun t => (fun a : Nat => Value.int IntKind.u8 (a : Int)) <$> Rtype.kind t) #[.pointer (some ⟨1, 94, none⟩)]).run Tryd.prog w = .ok (.int .u8 22) w := by kernel_rfl
theorem E.kind25 (w : World) : ((ReflectliteType.abiMethod fun t => (fun a : Nat => Value.int IntKind.u8 (a : Int)) <$> Rtype.kind t) #[.pointer (some ⟨1, 92, none⟩)]).run Tryd.prog w = .ok (.int .u8 22) w := by kernel_rfl
theorem rlm (z : Sem Value) (f : TypeId → Addr → Nat → Nat → Sem Value) (v : Value) :
    ReflectliteValue.method z f #[v] = (do match ← ReflectliteValue.parts v with | none => z | some (t, a, fl) => f t a fl (fl % 32)) := rfl
theorem E.parts27 (a : Addr) (w : World) : (ReflectliteValue.parts (.agg #[.pointer (some ⟨1, 94, none⟩), .pointer (some a), .int .u64 150])).run Tryd.prog w = .ok (some (94, a, 150)) w := by kernel_rfl
theorem E.isNil27 (a p : Addr) (W : World) (ha : W.cell? a = some (.pointer (some p))) :
    (ReflectliteValue.method (ReflectliteValue.valueError "reflectlite.Value.IsNil" 0) ReflectliteValue.isNil #[.agg #[.pointer (some ⟨1, 94, none⟩), .pointer (some a), .int .u64 150]]).run Tryd.prog W = .ok (.bool false) W := by
  rw [rlm]
  simp only [Sem.run_bind, E.parts27, Result.andThen]
  simp [ReflectliteValue.isNil, loadVar, isAgg, underlying, Tryd.underlying94, ha, Result.andThen]
theorem E.methodElem (h : Value) (w : World) : (Go.method 272 129 (.agg #[h]) "Elem").run Tryd.prog w = .ok (95, .agg #[h]) w := by kernel_rfl
theorem E.methodImplements (h : Value) (w : World) : (Go.method 272 129 (.agg #[h]) "Implements").run Tryd.prog w = .ok (96, .agg #[h]) w := by kernel_rfl
theorem E.methodAssignableTo (h : Value) (w : World) : (Go.method 272 129 (.agg #[h]) "AssignableTo").run Tryd.prog w = .ok (93, .agg #[h]) w := by kernel_rfl
theorem E.elem27 (w : World) : (ReflectliteType.method ReflectliteType.elem #[.agg #[.pointer (some ⟨1, 94, none⟩)]]).run Tryd.prog w = .ok (.iface 129 (.agg #[.pointer (some ⟨1, 92, none⟩)])) w := by kernel_rfl
theorem E.implements25 (w : World) : (ReflectliteType.relation "Implements" ReflectliteType.implements_ #[.agg #[.pointer (some ⟨1, 92, none⟩)], .iface 129 (.agg #[.pointer (some ⟨1, 58, none⟩)])]).run Tryd.prog w = .ok (.bool true) w := by kernel_rfl
theorem E.typeOf25 (v : Value) (w : World) : (ReflectliteType.typeOf #[.iface 92 v]).run Tryd.prog w = .ok (.iface 129 (.agg #[.pointer (some ⟨1, 92, none⟩)])) w := by kernel_rfl
theorem E.assignable25 (w : World) : (ReflectliteType.relation "AssignableTo" ReflectliteType.assignableTo #[.agg #[.pointer (some ⟨1, 92, none⟩)], .iface 129 (.agg #[.pointer (some ⟨1, 92, none⟩)])]).run Tryd.prog w = .ok (.bool true) w := by kernel_rfl
theorem E.valueOf25 (e : Addr) (w : World) : (ReflectliteValue.unpack (.iface 92 (.pointer (some e)))).run Tryd.prog w
    = .ok (.agg #[.pointer (some ⟨1, 92, none⟩), .pointer (some ⟨w.heap.size, 0, none⟩), .int .u64 150]) (w.alloc (.cells #[.pointer (some e)] 92)) := by kernel_rfl
theorem E.elemOf27 (w : World) : (Rtype.elem? 94).run Tryd.prog w = .ok (some 92) w := by kernel_rfl
theorem E.mk25 (p : Addr) (w : World) : (ReflectliteValue.mk 92 p ReflectliteValue.flagAddr).run Tryd.prog w = .ok (.agg #[.pointer (some ⟨1, 92, none⟩), .pointer (some p), .int .u64 406]) w := by kernel_rfl
theorem E.elemV27 (a p : Addr) (W : World) (ha : W.cell? a = some (.pointer (some p))) :
    (ReflectliteValue.method (ReflectliteValue.valueError "reflectlite.Value.Elem" 0) ReflectliteValue.elem #[.agg #[.pointer (some ⟨1, 94, none⟩), .pointer (some a), .int .u64 150]]).run Tryd.prog W
      = .ok (.agg #[.pointer (some ⟨1, 92, none⟩), .pointer (some p), .int .u64 406]) W := by
  rw [rlm]
  simp only [Sem.run_bind, E.parts27, Result.andThen]
  simp [ReflectliteValue.elem, loadVar, isAgg, underlying, Tryd.underlying94, ha, Result.andThen, E.elemOf27, E.mk25]
theorem rls (v x : Value) : ReflectliteValue.set #[v, x] = (do
    let (some (dst, a, fl), some (src, b, _)) := (← ReflectliteValue.parts v, ← ReflectliteValue.parts x)
      | unsupported (.noEntry "extern/(internal/reflectlite.Value).Set.zeroValue")
    if fl / ReflectliteValue.flagAddr % 2 == 0 then unsupported (.noEntry "extern/(internal/reflectlite.Value).Set.unaddressable")
    let val ← loadVar src b
    if ← Rtype.directlyAssignable dst src then storeVar dst a val
    else if ← Rtype.implements dst src then
      if (← Rtype.kind src) == 20 then
        match val with
        | .nilIface => unsupported (.noEntry "extern/reflectlite: a nil value of one interface type handed on as a value of another")
        | _ => storeVar dst a val
      else storeVar dst a (.iface src val)
    else panicString ("reflectlite.Set: value of type " ++ (← Rtype.spelt src) ++ " is not assignable to type " ++ (← Rtype.spelt dst))
    pure (.tuple #[])) := rfl
theorem E.parts25a (a : Addr) (w : World) : (ReflectliteValue.parts (.agg #[.pointer (some ⟨1, 92, none⟩), .pointer (some a), .int .u64 406])).run Tryd.prog w = .ok (some (92, a, 406)) w := by kernel_rfl
theorem E.parts25 (a : Addr) (w : World) : (ReflectliteValue.parts (.agg #[.pointer (some ⟨1, 92, none⟩), .pointer (some a), .int .u64 150])).run Tryd.prog w = .ok (some (92, a, 150)) w := by kernel_rfl
theorem E.direct25 (w : World) : (Rtype.directlyAssignable 92 92).run Tryd.prog w = .ok true w := by kernel_rfl
theorem E.set25 (ta b e : Addr) (old : Value) (W : World) (hb : W.cell? b = some (.pointer (some e))) (ht : W.cell? ta = some old) (hf : W.frozen? ta = false) :
    (ReflectliteValue.set #[.agg #[.pointer (some ⟨1, 92, none⟩), .pointer (some ta), .int .u64 406], .agg #[.pointer (some ⟨1, 92, none⟩), .pointer (some b), .int .u64 150]]).run Tryd.prog W
      = .ok (.tuple #[]) (W.setCell ta (.pointer (some e))) := by
  rw [rls]
  simp only [Sem.run_bind, E.parts25a, E.parts25, Result.andThen]
  simp [ReflectliteValue.flagAddr, loadVar, isAgg, underlying, Tryd.underlying92, hb, Result.andThen, E.direct25, storeVar, Value.cells, storeCells, Addr.add]
  rw [run_store Tryd.prog W ta _ _ (by rfl)]
  simp [ht, hf]
set_option maxHeartbeats 4000000 in
theorem as_hit (e t : Addr) (old : Value) (w : World) (hg : w.cell? ⟨0, 0, none⟩ = some (.iface 129 (.agg #[.pointer (some ⟨1, 58, none⟩)]))) (ht0 : w.cell? t = some old) (hf0 : w.frozen? t = false) :
    Calls Tryd.prog 47 #[.iface 92 (.pointer (some e)), .iface 94 (.pointer (some t))] w fun ev w' => ev = .returned (.bool true) ∧ w' = ((((w.alloc (.cells #[.pointer (some t)] 94)).alloc (.cells #[.pointer (some ⟨1, 94, none⟩), .pointer (some ⟨w.heap.size, 0, none⟩), .int .u64 150] 114)).alloc (.cells #[.pointer (some ⟨1, 94, none⟩), .pointer (some ⟨w.heap.size, 0, none⟩), .int .u64 150] 114)).alloc (.cells #[.pointer (some e)] 92)).setCell t (.pointer (some e)) := by
  have h6 := @run_callFunc_extern Tryd.prog 57 _ (fun args => ReflectliteValue.unpack (args.getD 0 (.tuple #[]))) Tryd.func57 (by kernel_rfl) (by kernel_rfl) (by kernel_rfl) (by kernel_rfl)
  have h7 := @run_callFunc_extern Tryd.prog 58 _ (ReflectliteValue.methodAny (ReflectliteValue.valueError "reflectlite.Value.Type" 0) (fun t _ _ _ => ReflectliteType.toType t)) Tryd.func58 (by kernel_rfl) (by kernel_rfl) (by kernel_rfl) (by kernel_rfl)
  have h8 := @run_callFunc_extern Tryd.prog 59 _ (ReflectliteValue.method (ReflectliteValue.valueError "reflectlite.Value.IsNil" 0) ReflectliteValue.isNil) Tryd.func59 (by kernel_rfl) (by kernel_rfl) (by kernel_rfl) (by kernel_rfl)
  have h27 := @run_callFunc_extern Tryd.prog 82 _ (ReflectliteType.abiMethod fun t => do pure (.int .u8 (← Rtype.kind t))) Tryd.func82 (by kernel_rfl) (by kernel_rfl) (by kernel_rfl) (by kernel_rfl)
  have h37 := @run_callFunc_extern Tryd.prog 95 _ (ReflectliteType.method ReflectliteType.elem) Tryd.func95 (by kernel_rfl) (by kernel_rfl) (by kernel_rfl) (by kernel_rfl)
  have h38 := @run_callFunc_extern Tryd.prog 96 _ (ReflectliteType.relation "Implements" ReflectliteType.implements_) Tryd.func96 (by kernel_rfl) (by kernel_rfl) (by kernel_rfl) (by kernel_rfl)
  have h10 := @run_callFunc_extern Tryd.prog 61 _ ReflectliteType.typeOf Tryd.func61 (by kernel_rfl) (by kernel_rfl) (by kernel_rfl) (by kernel_rfl)
  have h35 := @run_callFunc_extern Tryd.prog 93 _ (ReflectliteType.relation "AssignableTo" ReflectliteType.assignableTo) Tryd.func93 (by kernel_rfl) (by kernel_rfl) (by kernel_rfl) (by kernel_rfl)
  have h11 := @run_callFunc_extern Tryd.prog 66 _ (ReflectliteValue.method (ReflectliteValue.valueError "reflectlite.Value.Elem" 0) ReflectliteValue.elem) Tryd.func66 (by kernel_rfl) (by kernel_rfl) (by kernel_rfl) (by kernel_rfl)
  have h12 := @run_callFunc_extern Tryd.prog 67 _ ReflectliteValue.set Tryd.func67 (by kernel_rfl) (by kernel_rfl) (by kernel_rfl) (by kernel_rfl)
  have tO := E.typeOf25
  have mA := E.methodAssignableTo
  have a25 := E.assignable25
  have v25 := E.valueOf25
  have f6 := E.valueOf27
  have f7 := E.type27
  have mK := E.methodKind
  have mE := E.methodElem
  have mI := E.methodImplements
  have k27 := E.kind27
  have k25 := E.kind25
  have e27 := E.elem27
  have i25 := E.implements25
  have n8 := E.isNil27 ⟨w.heap.size, 0, none⟩ t ((w.alloc (.cells #[.pointer (some t)] 94)).alloc (.cells #[.pointer (some ⟨1, 94, none⟩), .pointer (some ⟨w.heap.size, 0, none⟩), .int .u64 150] 114)) (by simp)
  have hlt : 0 < w.heap.size := by
    rcases Nat.eq_zero_or_pos w.heap.size with h0 | h
    · simp [World.cell?, h0] at hg
    · exact h
  have hg2 : ((w.alloc (.cells #[.pointer (some t)] 94)).alloc (.cells #[.pointer (some ⟨1, 94, none⟩), .pointer (some ⟨w.heap.size, 0, none⟩), .int .u64 150] 114)).cell? ⟨0, 0, none⟩ = some (.iface 129 (.agg #[.pointer (some ⟨1, 58, none⟩)])) := by
    rw [World.cell?_alloc_lt _ _ ⟨0, 0, none⟩ (by simp), World.cell?_alloc_lt _ _ ⟨0, 0, none⟩ hlt]; exact hg
  have htl : t.block < w.heap.size := by
    rcases Nat.lt_or_ge t.block w.heap.size with h | h
    · exact h
    · simp [World.cell?, Array.getElem?_eq_none h] at ht0
  have el := E.elemV27 ⟨w.heap.size, 0, none⟩ t (((w.alloc (.cells #[.pointer (some t)] 94)).alloc (.cells #[.pointer (some ⟨1, 94, none⟩), .pointer (some ⟨w.heap.size, 0, none⟩), .int .u64 150] 114)).alloc (.cells #[.pointer (some ⟨1, 94, none⟩), .pointer (some ⟨w.heap.size, 0, none⟩), .int .u64 150] 114)) (by rw [World.cell?_alloc_lt _ _ ⟨w.heap.size, 0, none⟩ (by simp; omega)]; simp)
  have st := E.set25 t ⟨w.heap.size + 1 + 1 + 1, 0, none⟩ e old ((((w.alloc (.cells #[.pointer (some t)] 94)).alloc (.cells #[.pointer (some ⟨1, 94, none⟩), .pointer (some ⟨w.heap.size, 0, none⟩), .int .u64 150] 114)).alloc (.cells #[.pointer (some ⟨1, 94, none⟩), .pointer (some ⟨w.heap.size, 0, none⟩), .int .u64 150] 114)).alloc (.cells #[.pointer (some e)] 92))
    (by rw [World.cell?_alloc_at _ _ _ _ (by simp)]; rfl)
    (by rw [World.cell?_alloc_lt _ _ t (by simp; omega), World.cell?_alloc_lt _ _ t (by simp; omega), World.cell?_alloc_lt _ _ t (by simp; omega), World.cell?_alloc_lt _ _ t htl]; exact ht0)
    (by rw [World.frozen?_alloc_old _ _ t (by simp; omega), World.frozen?_alloc_old _ _ t (by simp; omega), World.frozen?_alloc_old _ _ t (by simp; omega), World.frozen?_alloc_old _ _ t (Nat.ne_of_lt htl)]; exact hf0)
  go_enter Tryd.func47, Tryd.ntmps47
  go_wp2
  refine wp_loop_rounds 1 ?_
  rw [rounds_succ]
  go_wp2
  go_ret
  exact ⟨rfl, rfl⟩
theorem E.isTypeOf (v : Value) (w : World) : (Extern.ReflectliteType.typeOf #[.iface 99 v]).run Tryd.prog w = .ok (.iface 129 (.agg #[.pointer (some ⟨1, 99, none⟩)])) w := by kernel_rfl
theorem E.isComparable (w : World) : ((Extern.ReflectliteType.method fun t => do Rtype.noPackHeld "Comparable" t; (fun a => Value.bool a.comparable) <$> typeInfo t) #[.agg #[.pointer (some ⟨1, 99, none⟩)]]).run Tryd.prog w = .ok (.bool true) w := by kernel_rfl
theorem E.isMethodComparable (v : Value) (w : World) : (Go.method 272 129 v "Comparable").run Tryd.prog w = .ok (94, v) w := by kernel_rfl
theorem E.noIsF (v : Value) (xT : TypeId) (w : World) : (Instr.typeAssert (.iface 92 v) xT 141 true).run Tryd.prog w = .ok (.tuple #[.nilIface, .bool false]) w := run_typeAssert_lacksB Tryd.underlying141 (by kernel_rfl) (by kernel_rfl) v xT w
theorem E.hasUnwrapF (v : Value) (xT : TypeId) (w : World) : (Instr.typeAssert (.iface 92 v) xT 136 true).run Tryd.prog w = .ok (.tuple #[.iface 92 v, .bool true]) w := run_typeAssert_hasB Tryd.underlying136 (by kernel_rfl) v xT w
theorem E.methodUnwrap (v : Value) (w : World) : (Go.method 272 92 v "Unwrap").run Tryd.prog w = .ok (87, v) w := by kernel_rfl
theorem E.oddEq (w : World) : (binOp .eql 58 (.iface 99 (.agg #[])) (.iface 99 (.agg #[]))).run Tryd.prog w = .ok (.bool true) w := by kernel_rfl
set_option maxHeartbeats 4000000 in
theorem is_hit (pb : Nat) (w : World) (h1 : w.cell? ⟨pb, 0 + 1, none⟩ = some (.iface 99 (.agg #[]))) :
    Calls Tryd.prog 48 #[.iface 92 (.pointer (some ⟨pb, 0, none⟩)), .iface 99 (.agg #[])] w fun e w' => e = .returned (.bool true) ∧ w' = w := by
  have h8 := @run_callFunc_extern Tryd.prog 61 _ Extern.ReflectliteType.typeOf Tryd.func61 (by kernel_rfl) (by kernel_rfl) (by kernel_rfl) (by kernel_rfl)
  have h32 := @run_callFunc_extern Tryd.prog 94 _ (Extern.ReflectliteType.method fun t => do Rtype.noPackHeld "Comparable" t; pure (.bool (← typeInfo t).comparable)) Tryd.func94 (by kernel_rfl) (by kernel_rfl) (by kernel_rfl) (by kernel_rfl)
  have tT := E.isTypeOf
  have cT := E.isComparable
  have mR := E.isMethodComparable
  have nW := E.noIsF
  have uW := E.hasUnwrapF
  have mU := E.methodUnwrap
  have heq := E.oddEq
  have hty := run_eql_iface_types (P := Tryd.prog) 92 99 (.pointer (some ⟨pb, 0, none⟩)) (.agg #[]) Tryd.underlying58 (by decide) w
  go_enter Tryd.func48, Tryd.ntmps48
  go_wp2
  refine wp_loop_rounds 2 ?_
  rw [rounds_succ]
  go_wp2
  rw [rounds_succ]
  go_wp2
  go_ret
  exact ⟨rfl, rfl⟩
end Go.Proofs.YtlpcidjmaeicoaaDoor.Err
namespace Go.Proofs.YtlpcidjmaeicoaaDoor.QT
open Go.RowKit Go.Proofs.YtlpcidjmaeicoaaDoorW.PrintWords Go.Proofs.YtlpcidjmaeicoaaDoorW.PrintLast Go.Proofs.YtlpcidjmaeicoaaDoorW.PrintMore
attribute [local go_sem] max2_int min2_int max_two min_two max_three min_three max_four min_four
set_option linter.unusedVariables false
set_option linter.unusedSimpArgs false
end Go.Proofs.YtlpcidjmaeicoaaDoor.QT
namespace Go.Proofs.YtlpcidjmaeicoaaDoor.QT
open Go.RowKit Go.Proofs.YtlpcidjmaeicoaaDoorW.PrintWords Go.Proofs.YtlpcidjmaeicoaaDoorW.PrintLast Go.Proofs.YtlpcidjmaeicoaaDoorW.PrintMore
attribute [local go_sem] max2_int min2_int max_two min_two max_three min_three max_four min_four
set_option linter.unusedVariables false
set_option linter.unusedSimpArgs false
def dec_told.l0 : Nat → ByteArray → Int → Int → Int → Option (Int × Bool)
  | 0, _, _, _, _ => none
  | k + 1, x0, x4, x8, x9 => if x9 < x8 then (if 0 ≤ x9 then (if x9 < (x0.size : Int) then (if x4 > ((18446744073709551615 - (((bt x0 x9) - 48) % 256)) / 10) then (some (0, false)) else (dec_told.l0 k x0 (IntKind.u64.wrap ((IntKind.u64.wrap (10 * x4)) + (((bt x0 x9) - 48) % 256))) x8 (wrap64 (x9 + 1)))) else (none)) else (none)) else (some (x4, true))
def dec_told.f (k : Nat) (a0 : ByteArray) : Option (Int × Bool) := dec_told.l0 k a0 0 (a0.size : Int) 0
set_option maxHeartbeats 8000000 in
set_option maxRecDepth 100000 in
theorem dec_told.calls (k : Nat) (a0 : ByteArray) (r1 : Int) (r2 : Bool) (w : World) (h : dec_told.f k a0 = some (r1, r2)) :
    Calls Tryd.prog 56 #[.string a0] w fun e w' => e = .returned (.tuple #[.int .u64 r1, .bool r2]) ∧ Drawn0 w w' := by
  have H : (dec_told.l0 k a0 0 (a0.size : Int) 0) = some (r1, r2) := h
  clear h
  have H' := Aside0.mk H
  clear H
  go_enter Tryd.func56, Tryd.ntmps56
  go_wp2
  go_loopg [4, 9] k (fun kq v4 v9 w' => ∃ (x4_1 : Int) (x9_1 : Int), v4 = .int .u64 x4_1 ∧ v9 = .int .i64 x9_1 ∧ Aside0 (dec_told.l0 kq a0 x4_1 (a0.size : Int) x9_1 = some (r1, r2)) ∧ Aside0 (kq ≤ k) ∧ Drawn0 w w')
  case atStart => exact ⟨(0), (0), (by first | rfl | (simp; done) | (simp [*]; done)), (by first | rfl | (simp; done) | (simp [*]; done)), H', ⟨Nat.le_refl _⟩, by repeat (first | exact Drawn0.refl _ | apply Drawn0.step)⟩
  case round =>
    clear H'
    obtain ⟨x4_1, x9_1, rfl, rfl, HA, HK1, ⟨m1, rfl⟩⟩ := hrel
    cases gk with
    | zero => exact absurd HA.out (by simp [dec_told.l0])
    | succ k1 =>
      have H := HA.out
      clear HA
      simp only [dec_told.l0] at H
      by_cases c2 : x9_1 < (a0.size : Int)
      · rw [if_pos c2] at H
        have c2b0 : decide (x9_1 < (a0.size : Int)) = true := decide_eq_true c2
        clear c2
        by_cases c3 : 0 ≤ x9_1
        · rw [if_pos c3] at H
          have c3b0 : decide (0 ≤ x9_1) = true := decide_eq_true c3
          clear c3
          by_cases c4 : x9_1 < (a0.size : Int)
          · rw [if_pos c4] at H
            have c4b0 : decide (x9_1 < (a0.size : Int)) = true := decide_eq_true c4
            clear c4
            by_cases c6 : x4_1 > ((18446744073709551615 - (((bt a0 x9_1) - 48) % 256)) / 10)
            · rw [if_pos c6] at H
              have c6b0 : decide (((18446744073709551615 - (((bt a0 x9_1) - 48) % 256)) / 10) < x4_1) = true := decide_eq_true c6
              clear c6
              simp only [Option.some.injEq, Prod.mk.injEq] at H
              obtain ⟨rfl, rfl⟩ := H
              have p5 : 0 ≤ (x9_1 : Int) := of_decide_eq_true (by first | (with_reducible assumption) | assumption)
              have q5 : x9_1 < (a0.size : Int) := of_decide_eq_true (by first | (with_reducible assumption) | assumption)
              have hx5 := bt_at a0 x9_1
              replace p5 := eq_true p5
              replace q5 := eq_true q5
              go_wp2
              go_ret2
              exact ⟨by first | rfl | (simp; done) | (simp [*]; done), by repeat (first | exact Drawn0.refl _ | apply Drawn0.step)⟩
            · rw [if_neg c6] at H
              have c6b0 : decide (((18446744073709551615 - (((bt a0 x9_1) - 48) % 256)) / 10) < x4_1) = false := decide_eq_false c6
              clear c6
              have H' := Aside0.mk H
              clear H
              have p5 : 0 ≤ (x9_1 : Int) := of_decide_eq_true (by first | (with_reducible assumption) | assumption)
              have q5 : x9_1 < (a0.size : Int) := of_decide_eq_true (by first | (with_reducible assumption) | assumption)
              have hx5 := bt_at a0 x9_1
              replace p5 := eq_true p5
              replace q5 := eq_true q5
              go_wp2
              go_roundg k1
              case measure => have := HK1.out; omega
              case rel => exact ⟨(IntKind.u64.wrap ((IntKind.u64.wrap (10 * x4_1)) + (((bt a0 x9_1) - 48) % 256))), (wrap64 (x9_1 + 1)), (by first | rfl | (simp; done) | (simp [*]; done)), (by first | rfl | (simp; done) | (simp [*]; done)), H', ⟨by have := HK1.out; omega⟩, by repeat (first | exact Drawn0.refl _ | apply Drawn0.step)⟩
          · rw [if_neg c4] at H
            exact absurd H (by simp)
        · rw [if_neg c3] at H
          exact absurd H (by simp)
      · rw [if_neg c2] at H
        have c2b0 : decide (x9_1 < (a0.size : Int)) = false := decide_eq_false c2
        clear c2
        simp only [Option.some.injEq, Prod.mk.injEq] at H
        obtain ⟨rfl, rfl⟩ := H
        go_wp2
        go_ret2
        exact ⟨by first | rfl | (simp; done) | (simp [*]; done), by repeat (first | exact Drawn0.refl _ | apply Drawn0.step)⟩
def stanchionref01_Num.l0 : Nat → Int → ByteArray → Option (ByteArray)
  | 0, _, _ => none
  | k + 1, x0, x3 => if x0 > 0 then ((some (([(48 + ((Int.tmod x0 10) % 256)) % 256] : List Int) : List Int)).bind fun y104 => (if (strOfNums y104).size + x3.size ≤ 9223372036854775807 then (stanchionref01_Num.l0 k (IntKind.u64.wrap (Int.tdiv x0 10)) ((strOfNums y104) ++ x3)) else (none))) else (some x3)
def stanchionref01_Num.f (k : Nat) (a0 : Int) : Option (ByteArray) := (some (([(48 + ((Int.tmod a0 10) % 256)) % 256] : List Int) : List Int)).bind fun y101 => (if (strOfNums y101).size + 1 ≤ 9223372036854775807 then (stanchionref01_Num.l0 k (IntKind.u64.wrap (Int.tdiv a0 10)) ((strOfNums y101) ++ (⟨#[59]⟩ : ByteArray))) else (none))
set_option maxHeartbeats 8000000 in
set_option maxRecDepth 100000 in
theorem stanchionref01_Num.calls (k : Nat) (a0 : Int) (r : ByteArray) (w : World) (h : stanchionref01_Num.f k a0 = some r) :
    Calls Tryd.prog 42 #[.int .u64 a0] w fun e w' => e = .returned (.string r) ∧ Below w.heap.size w w' := by
  have HB := Aside0.mk (Below.refl w.heap.size w)
  have H : ((some (([(48 + ((Int.tmod a0 10) % 256)) % 256] : List Int) : List Int)).bind fun y101 => (if (strOfNums y101).size + 1 ≤ 9223372036854775807 then (stanchionref01_Num.l0 k (IntKind.u64.wrap (Int.tdiv a0 10)) ((strOfNums y101) ++ (⟨#[59]⟩ : ByteArray))) else (none))) = some r := h
  clear h
  obtain ⟨y101, hy101⟩ : ∃ y_ : List Int, y_ = (([(48 + ((Int.tmod a0 10) % 256)) % 256] : List Int)) := ⟨_, rfl⟩
  replace H : (if (strOfNums y101).size + 1 ≤ 9223372036854775807 then (stanchionref01_Num.l0 k (IntKind.u64.wrap (Int.tdiv a0 10)) ((strOfNums y101) ++ (⟨#[59]⟩ : ByteArray))) else (none)) = some r := by first | (rw [hy101]; with_reducible exact H) | (have H2_ := (Option.bind_some _ _).symm.trans H; rw [hy101]; with_reducible exact H2_) | (have H2_ := (Option.bind_some _ _).symm.trans H; with_reducible exact H2_) | with_reducible exact H | (rw [hy101]; exact H) | exact H
  have Ny101 := Aside0.mk hy101
  clear hy101
  by_cases c2 : (strOfNums y101).size + 1 ≤ 9223372036854775807
  · rw [if_pos c2] at H
    have c2b0 := eq_true c2
    have c2b1 : decide ((strOfNums y101).size + 1 ≤ 9223372036854775807) = true := decide_eq_true c2
    try have c2b2 : (9223372036854775807 < (strOfNums y101).size + 1) = False := eq_false (Nat.not_lt.2 c2)
    have H' := Aside0.mk H
    clear H
    go_enter Tryd.func42, Tryd.ntmps42
    go_wp2_with (first | ((with_reducible refine gate_dst (N := 8) rfl ?_); refine Kd.R_lit (Kd.int .u8) _ 5 ?hg (N := 8) ?hd (xs := ([(48 + ((Int.tmod a0 10) % 256)) % 256] : List Int)) (inner := [.int .u8 ((48 + ((Int.tmod a0 10) % 256)) % 256)]) (ok := fun _ => True) (okp := fun _ => True) ?hr ?hp (fun _ hk => hk) trivial (Below.refl _ _) (Nat.le_refl _) (by simp) ?_; (case hd => rfl); (case hg => rfl); (case hr => first | (go_simp; done) | (go_simp; rfl)); (case hp => exact (Reps.one (show Kd.M (Kd.int .u8) _ _ _ ((48 + ((Int.tmod a0 10) % 256)) % 256) [.int .u8 ((48 + ((Int.tmod a0 10) % 256)) % 256)] from rfl) (Reps.none _ _))); intro v102 w3 ho4 hb hg_ hnew_; clear hg_ hnew_; (first | rw [← Ny101.out] at ho4 | (simp only [Int.reduceToNat] at ho4; rw [← Ny101.out] at ho4)); have n0_ := Aside0.mk (Kd.R_lower ho4 (below_size (by repeat (first | (with_reducible first | exact HB.out | apply below_alloc | apply pw_below_drewN | apply below_drew1) | exact HB.out)))); have n1_ := Aside0.mk (below_step (by repeat (first | (with_reducible first | exact HB.out | apply below_alloc | apply pw_below_drewN | apply below_drew1) | exact HB.out)) hb); clear HB; have HO103 := n0_; have HB := n1_; clear n0_ n1_; clear hb ho4; have hcv5 := own_string (P := Tryd.prog) Tryd.underlying79 Tryd.underlying5 Tryd.underlying9 (Kd.own_of_R HO103.out)))
    go_loopg [0, 3] k (fun kq v0 v3 w' => ∃ (x0_1 : Int) (x3_1 : ByteArray), v0 = .int .u64 x0_1 ∧ v3 = .string x3_1 ∧ Aside0 (stanchionref01_Num.l0 kq x0_1 x3_1 = some r) ∧ Aside0 (kq ≤ k) ∧ Aside0 (Below w.heap.size w w'))
    case atStart => exact ⟨(IntKind.u64.wrap (Int.tdiv a0 10)), ((strOfNums y101) ++ (⟨#[59]⟩ : ByteArray)), (by first | rfl | (simp; done) | (simp [*]; done)), (by first | rfl | (simp; done) | (simp [*]; done)), H', ⟨Nat.le_refl _⟩, ⟨by repeat (first | (with_reducible first | exact HB.out | apply below_alloc | apply pw_below_drewN | apply below_drew1) | exact HB.out)⟩⟩
    case round =>
      clear H'
      try clear c2
      try clear c2b0
      try clear c2b1
      try clear c2b2
      try clear p2
      try clear c4
      try clear hcv5
      obtain ⟨x0_1, x3_1, rfl, rfl, HA, HK1, HB⟩ := hrel
      cases gk with
      | zero => exact absurd HA.out (by simp [stanchionref01_Num.l0])
      | succ k1 =>
        have H := HA.out
        clear HA
        simp only [stanchionref01_Num.l0] at H
        by_cases c6 : x0_1 > 0
        · rw [if_pos c6] at H
          have c6b0 : decide (0 < x0_1) = true := decide_eq_true c6
          clear c6
          obtain ⟨y104, hy104⟩ : ∃ y_ : List Int, y_ = (([(48 + ((Int.tmod x0_1 10) % 256)) % 256] : List Int)) := ⟨_, rfl⟩
          replace H : (if (strOfNums y104).size + x3_1.size ≤ 9223372036854775807 then (stanchionref01_Num.l0 k1 (IntKind.u64.wrap (Int.tdiv x0_1 10)) ((strOfNums y104) ++ x3_1)) else (none)) = some r := by first | (rw [hy104]; with_reducible exact H) | (have H2_ := (Option.bind_some _ _).symm.trans H; rw [hy104]; with_reducible exact H2_) | (have H2_ := (Option.bind_some _ _).symm.trans H; with_reducible exact H2_) | with_reducible exact H | (rw [hy104]; exact H) | exact H
          have Ny104 := Aside0.mk hy104
          clear hy104
          by_cases c7 : (strOfNums y104).size + x3_1.size ≤ 9223372036854775807
          · rw [if_pos c7] at H
            have c7b0 := eq_true c7
            have c7b1 : decide ((strOfNums y104).size + x3_1.size ≤ 9223372036854775807) = true := decide_eq_true c7
            try have c7b2 : (9223372036854775807 < (strOfNums y104).size + x3_1.size) = False := eq_false (Nat.not_lt.2 c7)
            have H' := Aside0.mk H
            clear H
            go_wp2_with (first | ((with_reducible refine gate_dst (N := 19) rfl ?_); refine Kd.R_lit (Kd.int .u8) _ 5 ?hg (N := 19) ?hd (xs := ([(48 + ((Int.tmod x0_1 10) % 256)) % 256] : List Int)) (inner := [.int .u8 ((48 + ((Int.tmod x0_1 10) % 256)) % 256)]) (ok := fun _ => True) (okp := fun _ => True) ?hr ?hp (fun _ hk => hk) trivial (Below.refl _ _) (Nat.le_refl _) (by simp) ?_; (case hd => rfl); (case hg => rfl); (case hr => first | (go_simp; done) | (go_simp; rfl)); (case hp => exact (Reps.one (show Kd.M (Kd.int .u8) _ _ _ ((48 + ((Int.tmod x0_1 10) % 256)) % 256) [.int .u8 ((48 + ((Int.tmod x0_1 10) % 256)) % 256)] from rfl) (Reps.none _ _))); intro v105 w8 ho9 hb hg_ hnew_; clear hg_ hnew_; (first | rw [← Ny104.out] at ho9 | (simp only [Int.reduceToNat] at ho9; rw [← Ny104.out] at ho9)); have n0_ := Aside0.mk (Kd.R_lower ho9 (below_size (by repeat (first | (with_reducible first | exact HB.out | apply below_alloc | apply pw_below_drewN | apply below_drew1) | exact HB.out)))); have n1_ := Aside0.mk (below_step (by repeat (first | (with_reducible first | exact HB.out | apply below_alloc | apply pw_below_drewN | apply below_drew1) | exact HB.out)) hb); clear HB; have HO106 := n0_; have HB := n1_; clear n0_ n1_; clear hb ho9; have hcv10 := own_string (P := Tryd.prog) Tryd.underlying79 Tryd.underlying5 Tryd.underlying9 (Kd.own_of_R HO106.out)))
            go_roundg k1
            case measure => have := HK1.out; omega
            case rel => exact ⟨(IntKind.u64.wrap (Int.tdiv x0_1 10)), ((strOfNums y104) ++ x3_1), (by first | rfl | (simp; done) | (simp [*]; done)), (by first | rfl | (simp; done) | (simp [*]; done)), H', ⟨by have := HK1.out; omega⟩, ⟨by repeat (first | (with_reducible first | exact HB.out | apply below_alloc | apply pw_below_drewN | apply below_drew1) | exact HB.out)⟩⟩
          · rw [if_neg c7] at H
            exact absurd H (by simp)
        · rw [if_neg c6] at H
          have c6b0 : decide (0 < x0_1) = false := decide_eq_false c6
          clear c6
          obtain rfl := Option.some.inj H
          go_wp2
          go_ret
          exact ⟨by first | rfl | (simp [errW_none, errW_some] <;> rfl) | (simp [*, errW_none, errW_some] <;> rfl), by repeat (first | (with_reducible first | exact HB.out | apply below_alloc | apply pw_below_drewN | apply below_drew1) | exact HB.out)⟩
  · rw [if_neg c2] at H
    exact absurd H (by simp)
mutual
def stanchionref01_TakeNum.j1 : Nat → ByteArray → Int → Option (Int × ByteArray × Int)
  | 0, _, _ => none
  | k + 1, x0, x5 => if x5 > 20 then (stanchionref01_TakeNum.j2 k x0 x5 true) else (if x5 > 1 then (if 0 < (x0.size : Int) then (stanchionref01_TakeNum.j2 k x0 x5 ((bt x0 0) == 48)) else (none)) else (stanchionref01_TakeNum.j2 k x0 x5 false))
def stanchionref01_TakeNum.j2 : Nat → ByteArray → Int → Bool → Option (Int × ByteArray × Int)
  | 0, _, _, _ => none
  | k + 1, x0, x5, x37 => if x37 = true then (some (0, (⟨#[]⟩ : ByteArray), 3)) else (stanchionref01_TakeNum.l1 k x0 x5 0 0)
def stanchionref01_TakeNum.l1 : Nat → ByteArray → Int → Int → Int → Option (Int × ByteArray × Int)
  | 0, _, _, _, _ => none
  | k + 1, x0, x5, x6, x7 => if x7 < x5 then (if 0 ≤ x7 then (if x7 < (x0.size : Int) then (if x6 > 1844674407370955161 then (some (0, (⟨#[]⟩ : ByteArray), 3)) else (if x6 = 1844674407370955161 then (if (((bt x0 x7) - 48) % 256) > 5 then (some (0, (⟨#[]⟩ : ByteArray), 3)) else (stanchionref01_TakeNum.l1 k x0 x5 (IntKind.u64.wrap ((IntKind.u64.wrap (10 * x6)) + (((bt x0 x7) - 48) % 256))) (wrap64 (x7 + 1)))) else (stanchionref01_TakeNum.l1 k x0 x5 (IntKind.u64.wrap ((IntKind.u64.wrap (10 * x6)) + (((bt x0 x7) - 48) % 256))) (wrap64 (x7 + 1))))) else (none)) else (none)) else (if x5 = (x0.size : Int) then (some (0, (⟨#[]⟩ : ByteArray), 2)) else (if 0 ≤ x5 then (if x5 < (x0.size : Int) then (if (bt x0 x5) = 59 then (if x5 = 0 then (some (0, (⟨#[]⟩ : ByteArray), 3)) else (if 0 ≤ (wrap64 (x5 + 1)) then (if (wrap64 (x5 + 1)) ≤ (x0.size : Int) then (some (x6, x0.extract ((wrap64 (x5 + 1)) : Int).toNat x0.size, 0)) else (none)) else (none))) else (some (0, (⟨#[]⟩ : ByteArray), 3))) else (none)) else (none)))
def stanchionref01_TakeNum.l0 : Nat → ByteArray → Int → Option (Int × ByteArray × Int)
  | 0, _, _ => none
  | k + 1, x0, x5 => if x5 < (x0.size : Int) then (if 0 ≤ x5 then (if (bt x0 x5) ≥ 48 then (if (bt x0 x5) ≤ 57 then (stanchionref01_TakeNum.l0 k x0 (wrap64 (x5 + 1))) else (stanchionref01_TakeNum.j1 k x0 x5)) else (stanchionref01_TakeNum.j1 k x0 x5)) else (none)) else (stanchionref01_TakeNum.j1 k x0 x5)
end
def stanchionref01_TakeNum.f (k : Nat) (a0 : ByteArray) : Option (Int × ByteArray × Int) := stanchionref01_TakeNum.l0 k a0 0
set_option maxHeartbeats 8000000 in
set_option maxRecDepth 100000 in
theorem stanchionref01_TakeNum.calls (k : Nat) (a0 : ByteArray) (r1 : Int) (r2 : ByteArray) (r3 : Int) (w : World) (h : stanchionref01_TakeNum.f k a0 = some (r1, r2, r3)) :
    Calls Tryd.prog 49 #[.string a0] w fun e w' => e = .returned (.tuple #[.int .u64 r1, .string r2, .int .i64 r3]) ∧ Drawn0 w w' := by
  have H : (stanchionref01_TakeNum.l0 k a0 0) = some (r1, r2, r3) := h
  clear h
  have HC2 := Aside0.mk H
  clear H
  go_enter Tryd.func49, Tryd.ntmps49
  go_upto_block 0 with (fail)
  repeat (go_quiet (fail); go_upto_block 0 with (fail))
  go_cut [5] (fun v5 wc => ∃ (kq : Nat) (x5_1 : Int), v5 = .int .i64 x5_1 ∧ Aside0 (stanchionref01_TakeNum.j1 kq a0 x5_1 = some (r1, r2, r3)) ∧ Aside0 (kq ≤ k) ∧ Drawn0 w wc)
  case first =>
    have H := HC2.out
    clear HC2
    have H' := Aside0.mk H
    clear H
    go_wp2
    repeat (go_quiet (fail); try go_wp2)
    go_loopg [5] k (fun kq v5 w' => ∃ (x5_1 : Int), v5 = .int .i64 x5_1 ∧ Aside0 (stanchionref01_TakeNum.l0 kq a0 x5_1 = some (r1, r2, r3)) ∧ Aside0 (kq ≤ k) ∧ Drawn0 w w')
    case atStart => exact ⟨(0), (by first | rfl | (simp; done) | (simp [*]; done)), H', ⟨Nat.le_refl _⟩, by repeat (first | exact Drawn0.refl _ | apply Drawn0.step)⟩
    case round =>
      clear H'
      try clear p2
      obtain ⟨x5_1, rfl, HA, HK1, ⟨m1, rfl⟩⟩ := hrel
      cases gk with
      | zero => exact absurd HA.out (by simp [stanchionref01_TakeNum.l0])
      | succ k1 =>
        have H := HA.out
        clear HA
        simp only [stanchionref01_TakeNum.l0] at H
        by_cases c3 : x5_1 < (a0.size : Int)
        · rw [if_pos c3] at H
          have c3b0 : decide (x5_1 < (a0.size : Int)) = true := decide_eq_true c3
          clear c3
          (first | rw [c3b0] | (simp only [i64_w, i32_w]; rw [c3b0]) | skip)
          by_cases c4 : 0 ≤ x5_1
          · rw [if_pos c4] at H
            have c4b0 : decide (0 ≤ x5_1) = true := decide_eq_true c4
            clear c4
            by_cases c6 : (bt a0 x5_1) ≥ 48
            · rw [if_pos c6] at H
              have c6b0 : decide (48 ≤ (bt a0 x5_1)) = true := decide_eq_true c6
              clear c6
              by_cases c8 : (bt a0 x5_1) ≤ 57
              · rw [if_pos c8] at H
                have c8b0 : decide ((bt a0 x5_1) ≤ 57) = true := decide_eq_true c8
                clear c8
                have H' := Aside0.mk H
                clear H
                have p5 : 0 ≤ (x5_1 : Int) := of_decide_eq_true (by first | (with_reducible assumption) | assumption)
                have q5 : x5_1 < (a0.size : Int) := of_decide_eq_true (by first | (with_reducible assumption) | assumption)
                have hx5 := bt_at a0 x5_1
                replace p5 := eq_true p5
                replace q5 := eq_true q5
                have p7 : 0 ≤ (x5_1 : Int) := of_decide_eq_true (by first | (with_reducible assumption) | assumption)
                have q7 : x5_1 < (a0.size : Int) := of_decide_eq_true (by first | (with_reducible assumption) | assumption)
                have hx7 := bt_at a0 x5_1
                replace p7 := eq_true p7
                replace q7 := eq_true q7
                go_wp2
                repeat (go_quiet (fail); try go_wp2)
                go_roundg k1
                case measure => have := HK1.out; omega
                case rel => exact ⟨(wrap64 (x5_1 + 1)), (by first | rfl | (simp; done) | (simp [*]; done)), H', ⟨by have := HK1.out; omega⟩, by repeat (first | exact Drawn0.refl _ | apply Drawn0.step)⟩
              · rw [if_neg c8] at H
                have c8b0 : decide ((bt a0 x5_1) ≤ 57) = false := decide_eq_false c8
                clear c8
                have H' := Aside0.mk H
                clear H
                have p5 : 0 ≤ (x5_1 : Int) := of_decide_eq_true (by first | (with_reducible assumption) | assumption)
                have q5 : x5_1 < (a0.size : Int) := of_decide_eq_true (by first | (with_reducible assumption) | assumption)
                have hx5 := bt_at a0 x5_1
                replace p5 := eq_true p5
                replace q5 := eq_true q5
                have p7 : 0 ≤ (x5_1 : Int) := of_decide_eq_true (by first | (with_reducible assumption) | assumption)
                have q7 : x5_1 < (a0.size : Int) := of_decide_eq_true (by first | (with_reducible assumption) | assumption)
                have hx7 := bt_at a0 x5_1
                replace p7 := eq_true p7
                replace q7 := eq_true q7
                go_wp2
                repeat (go_quiet (fail); try go_wp2)
                go_meet
                case rel => exact ⟨_, (x5_1), (by first | rfl | (simp; done) | (simp [*]; done)), H', ⟨by have := HK1.out; first | omega | exact Nat.le_refl _⟩, by repeat (first | exact Drawn0.refl _ | apply Drawn0.step)⟩
            · rw [if_neg c6] at H
              have c6b0 : decide (48 ≤ (bt a0 x5_1)) = false := decide_eq_false c6
              clear c6
              have H' := Aside0.mk H
              clear H
              have p5 : 0 ≤ (x5_1 : Int) := of_decide_eq_true (by first | (with_reducible assumption) | assumption)
              have q5 : x5_1 < (a0.size : Int) := of_decide_eq_true (by first | (with_reducible assumption) | assumption)
              have hx5 := bt_at a0 x5_1
              replace p5 := eq_true p5
              replace q5 := eq_true q5
              go_wp2
              repeat (go_quiet (fail); try go_wp2)
              go_meet
              case rel => exact ⟨_, (x5_1), (by first | rfl | (simp; done) | (simp [*]; done)), H', ⟨by have := HK1.out; first | omega | exact Nat.le_refl _⟩, by repeat (first | exact Drawn0.refl _ | apply Drawn0.step)⟩
          · rw [if_neg c4] at H
            exact absurd H (by simp)
        · rw [if_neg c3] at H
          have c3b0 : decide (x5_1 < (a0.size : Int)) = false := decide_eq_false c3
          clear c3
          (first | rw [c3b0] | (simp only [i64_w, i32_w]; rw [c3b0]) | skip)
          have H' := Aside0.mk H
          clear H
          go_wp2
          repeat (go_quiet (fail); try go_wp2)
          go_meet
          case rel => exact ⟨_, (x5_1), (by first | rfl | (simp; done) | (simp [*]; done)), H', ⟨by have := HK1.out; first | omega | exact Nat.le_refl _⟩, by repeat (first | exact Drawn0.refl _ | apply Drawn0.step)⟩
  case rest =>
    clear HC2
    try clear p2
    try clear c3
    try clear c3b0
    try clear c4
    try clear c4b0
    try clear p5
    try clear q5
    try clear hx5
    try clear c6
    try clear c6b0
    try clear p6
    try clear p7
    try clear q7
    try clear hx7
    try clear c8
    try clear c8b0
    try clear p2
    try clear p5
    try clear p7
    try clear q5
    try clear q7
    obtain ⟨kq, x5_1, rfl, HA, HJ1, ⟨mc1, rfl⟩⟩ := hcut
    cases kq with
    | zero => exact absurd HA.out (by simp [stanchionref01_TakeNum.j1])
    | succ kj1 =>
      have H := HA.out
      clear HA
      simp only [stanchionref01_TakeNum.j1] at H
      have HC9 := Aside0.mk H
      clear H
      go_upto_region 4 with (fail)
      repeat (go_quiet (fail); go_upto_region 4 with (fail))
      go_cut [37] (fun v37 wc => ∃ (kq : Nat) (x37_8 : Bool), v37 = .bool x37_8 ∧ Aside0 (stanchionref01_TakeNum.j2 kq a0 x5_1 x37_8 = some (r1, r2, r3)) ∧ Aside0 (kq ≤ kj1) ∧ Drawn0 w wc)
      case first =>
        have H := HC9.out
        clear HC9
        by_cases c10 : x5_1 > 20
        · rw [if_pos c10] at H
          have c10b0 : decide (20 < x5_1) = true := decide_eq_true c10
          clear c10
          (first | rw [c10b0] | (simp only [i64_w, i32_w]; rw [c10b0]) | skip)
          have H' := Aside0.mk H
          clear H
          go_wp2
          repeat (go_quiet (fail); try go_wp2)
          go_meet
          case rel => exact ⟨_, (true), (by first | rfl | (simp; done) | (simp [*]; done)), H', ⟨by have := HJ1.out; first | omega | exact Nat.le_refl _⟩, by repeat (first | exact Drawn0.refl _ | apply Drawn0.step)⟩
        · rw [if_neg c10] at H
          have c10b0 : decide (20 < x5_1) = false := decide_eq_false c10
          clear c10
          (first | rw [c10b0] | (simp only [i64_w, i32_w]; rw [c10b0]) | skip)
          by_cases c11 : x5_1 > 1
          · rw [if_pos c11] at H
            have c11b0 : decide (1 < x5_1) = true := decide_eq_true c11
            clear c11
            by_cases c12 : 0 < (a0.size : Int)
            · rw [if_pos c12] at H
              have c12b0 : decide (0 < (a0.size : Int)) = true := decide_eq_true c12
              have c12b1 : decide (0 < a0.size) = true := decide_eq_true (by omega)
              clear c12
              have H' := Aside0.mk H
              clear H
              have p13 : 0 ≤ (0 : Int) := (by omega)
              have q13 : 0 < a0.size := (by have : (0 : Int) < (a0.size : Int) := of_decide_eq_true (by first | (with_reducible assumption) | assumption); omega)
              have hx13 : ∀ h : 0 < a0.size, ((a0[0]'h).toNat : Int) = bt a0 0 := bt_at a0 0
              clear p13
              have qi13 : (0 < (a0.size : Int)) = True := eq_true (of_decide_eq_true (by first | (with_reducible assumption) | assumption))
              replace q13 := eq_true q13
              go_wp2
              repeat (go_quiet (fail); try go_wp2)
              go_meet
              case rel => exact ⟨_, (((bt a0 0) == 48)), (by first | rfl | (simp; done) | (simp [*]; done)), H', ⟨by have := HJ1.out; first | omega | exact Nat.le_refl _⟩, by repeat (first | exact Drawn0.refl _ | apply Drawn0.step)⟩
            · rw [if_neg c12] at H
              exact absurd H (by simp)
          · rw [if_neg c11] at H
            have c11b0 : decide (1 < x5_1) = false := decide_eq_false c11
            clear c11
            have H' := Aside0.mk H
            clear H
            go_wp2
            repeat (go_quiet (fail); try go_wp2)
            go_meet
            case rel => exact ⟨_, (false), (by first | rfl | (simp; done) | (simp [*]; done)), H', ⟨by have := HJ1.out; first | omega | exact Nat.le_refl _⟩, by repeat (first | exact Drawn0.refl _ | apply Drawn0.step)⟩
      case rest =>
        clear HC9
        try clear c1
        try clear p1
        try clear q1
        try clear hx1
        try clear qi1
        try clear p2
        try clear c3
        try clear c3b0
        try clear c4
        try clear c4b0
        try clear p5
        try clear q5
        try clear hx5
        try clear c6
        try clear c6b0
        try clear p6
        try clear p7
        try clear q7
        try clear hx7
        try clear c8
        try clear c8b0
        try clear c10
        try clear c10b0
        try clear c11
        try clear c11b0
        try clear c12
        try clear c12b0
        try clear c12b1
        try clear p13
        try clear q13
        try clear hx13
        try clear qi13
        try clear p13
        try clear p2
        try clear p5
        try clear p6
        try clear p7
        try clear q13
        try clear q5
        try clear q7
        obtain ⟨kq, x37_8, rfl, HA, HJ8, ⟨mc8, rfl⟩⟩ := hcut
        cases kq with
        | zero => exact absurd HA.out (by simp [stanchionref01_TakeNum.j2])
        | succ kj8 =>
          have H := HA.out
          clear HA
          simp only [stanchionref01_TakeNum.j2] at H
          by_cases c14 : x37_8 = true
          · subst c14
            have H1 : (some (0, (⟨#[]⟩ : ByteArray), 3)) = some (r1, r2, r3) := by rw [if_pos rfl] at H; exact H
            clear H
            have H := H1
            clear H1
            simp only [Option.some.injEq, Prod.mk.injEq] at H
            obtain ⟨rfl, rfl, rfl⟩ := H
            go_wp2
            repeat (go_quiet (fail); try go_wp2)
            go_ret3
            exact ⟨by first | rfl | (simp; done) | (simp [*]; done), by repeat (first | exact Drawn0.refl _ | apply Drawn0.step)⟩
          · replace c14 := Bool.eq_false_iff.mpr c14
            subst c14
            have H1 : (stanchionref01_TakeNum.l1 kj8 a0 x5_1 0 0) = some (r1, r2, r3) := by rw [if_neg (show ¬ (false = true) by decide)] at H; exact H
            clear H
            have H := H1
            clear H1
            have H' := Aside0.mk H
            clear H
            go_wp2
            repeat (go_quiet (fail); try go_wp2)
            go_loopg [6, 7] kj8 (fun kq v6 v7 w' => ∃ (x6_3 : Int) (x7_3 : Int), v6 = .int .u64 x6_3 ∧ v7 = .int .i64 x7_3 ∧ Aside0 (stanchionref01_TakeNum.l1 kq a0 x5_1 x6_3 x7_3 = some (r1, r2, r3)) ∧ Aside0 (kq ≤ kj8) ∧ Drawn0 w w')
            case atStart => exact ⟨(0), (0), (by first | rfl | (simp; done) | (simp [*]; done)), (by first | rfl | (simp; done) | (simp [*]; done)), H', ⟨Nat.le_refl _⟩, by repeat (first | exact Drawn0.refl _ | apply Drawn0.step)⟩
            case round =>
              clear H'
              try clear c1
              try clear p1
              try clear q1
              try clear hx1
              try clear qi1
              try clear p2
              try clear c3
              try clear c3b0
              try clear c4
              try clear c4b0
              try clear p5
              try clear q5
              try clear hx5
              try clear c6
              try clear c6b0
              try clear p6
              try clear p7
              try clear q7
              try clear hx7
              try clear c8
              try clear c8b0
              try clear c10
              try clear c10b0
              try clear c11
              try clear c11b0
              try clear c12
              try clear c12b0
              try clear c12b1
              try clear p13
              try clear q13
              try clear hx13
              try clear qi13
              try clear c14
              try clear p1
              try clear p13
              try clear p2
              try clear p5
              try clear p6
              try clear p7
              try clear q1
              try clear q13
              try clear q5
              try clear q7
              obtain ⟨x6_3, x7_3, rfl, rfl, HA, HK3, ⟨m3, rfl⟩⟩ := hrel
              cases gk with
              | zero => exact absurd HA.out (by simp [stanchionref01_TakeNum.l1])
              | succ k3 =>
                have H := HA.out
                clear HA
                simp only [stanchionref01_TakeNum.l1] at H
                by_cases c15 : x7_3 < x5_1
                · rw [if_pos c15] at H
                  have c15b0 : decide (x7_3 < x5_1) = true := decide_eq_true c15
                  clear c15
                  by_cases c16 : 0 ≤ x7_3
                  · rw [if_pos c16] at H
                    have c16b0 : decide (0 ≤ x7_3) = true := decide_eq_true c16
                    clear c16
                    by_cases c17 : x7_3 < (a0.size : Int)
                    · rw [if_pos c17] at H
                      have c17b0 : decide (x7_3 < (a0.size : Int)) = true := decide_eq_true c17
                      clear c17
                      by_cases c19 : x6_3 > 1844674407370955161
                      · rw [if_pos c19] at H
                        have c19b0 : decide (1844674407370955161 < x6_3) = true := decide_eq_true c19
                        clear c19
                        simp only [Option.some.injEq, Prod.mk.injEq] at H
                        obtain ⟨rfl, rfl, rfl⟩ := H
                        have p18 : 0 ≤ (x7_3 : Int) := of_decide_eq_true (by first | (with_reducible assumption) | assumption)
                        have q18 : x7_3 < (a0.size : Int) := of_decide_eq_true (by first | (with_reducible assumption) | assumption)
                        have hx18 := bt_at a0 x7_3
                        replace p18 := eq_true p18
                        replace q18 := eq_true q18
                        go_wp2
                        repeat (go_quiet (fail); try go_wp2)
                        go_ret3
                        exact ⟨by first | rfl | (simp; done) | (simp [*]; done), by repeat (first | exact Drawn0.refl _ | apply Drawn0.step)⟩
                      · rw [if_neg c19] at H
                        have c19b0 : decide (1844674407370955161 < x6_3) = false := decide_eq_false c19
                        clear c19
                        by_cases c20 : x6_3 = 1844674407370955161
                        · rw [if_pos c20] at H
                          have c20b0 : (x6_3 == 1844674407370955161) = true := beq_iff_eq.mpr c20
                          have c20b1 : (x6_3 != 1844674407370955161) = false := bne_eq_false_iff_eq.mpr c20
                          clear c20
                          by_cases c21 : (((bt a0 x7_3) - 48) % 256) > 5
                          · rw [if_pos c21] at H
                            have c21b0 : decide (5 < (((bt a0 x7_3) - 48) % 256)) = true := decide_eq_true c21
                            clear c21
                            simp only [Option.some.injEq, Prod.mk.injEq] at H
                            obtain ⟨rfl, rfl, rfl⟩ := H
                            have p18 : 0 ≤ (x7_3 : Int) := of_decide_eq_true (by first | (with_reducible assumption) | assumption)
                            have q18 : x7_3 < (a0.size : Int) := of_decide_eq_true (by first | (with_reducible assumption) | assumption)
                            have hx18 := bt_at a0 x7_3
                            replace p18 := eq_true p18
                            replace q18 := eq_true q18
                            go_wp2
                            repeat (go_quiet (fail); try go_wp2)
                            go_ret3
                            exact ⟨by first | rfl | (simp; done) | (simp [*]; done), by repeat (first | exact Drawn0.refl _ | apply Drawn0.step)⟩
                          · rw [if_neg c21] at H
                            have c21b0 : decide (5 < (((bt a0 x7_3) - 48) % 256)) = false := decide_eq_false c21
                            clear c21
                            have H' := Aside0.mk H
                            clear H
                            have p18 : 0 ≤ (x7_3 : Int) := of_decide_eq_true (by first | (with_reducible assumption) | assumption)
                            have q18 : x7_3 < (a0.size : Int) := of_decide_eq_true (by first | (with_reducible assumption) | assumption)
                            have hx18 := bt_at a0 x7_3
                            replace p18 := eq_true p18
                            replace q18 := eq_true q18
                            go_wp2
                            repeat (go_quiet (fail); try go_wp2)
                            go_roundg k3
                            case measure => have := HJ1.out; have := HJ8.out; have := HK3.out; omega
                            case rel => exact ⟨(IntKind.u64.wrap ((IntKind.u64.wrap (10 * x6_3)) + (((bt a0 x7_3) - 48) % 256))), (wrap64 (x7_3 + 1)), (by first | rfl | (simp; done) | (simp [*]; done)), (by first | rfl | (simp; done) | (simp [*]; done)), H', ⟨by have := HJ1.out; have := HJ8.out; have := HK3.out; omega⟩, by repeat (first | exact Drawn0.refl _ | apply Drawn0.step)⟩
                        · rw [if_neg c20] at H
                          have c20b0 : (x6_3 == 1844674407370955161) = false := beq_eq_false_iff_ne.mpr c20
                          have c20b1 : (x6_3 != 1844674407370955161) = true := bne_iff_ne.mpr c20
                          have H' := Aside0.mk H
                          clear H
                          have p18 : 0 ≤ (x7_3 : Int) := of_decide_eq_true (by first | (with_reducible assumption) | assumption)
                          have q18 : x7_3 < (a0.size : Int) := of_decide_eq_true (by first | (with_reducible assumption) | assumption)
                          have hx18 := bt_at a0 x7_3
                          replace p18 := eq_true p18
                          replace q18 := eq_true q18
                          go_wp2
                          repeat (go_quiet (fail); try go_wp2)
                          go_roundg k3
                          case measure => have := HJ1.out; have := HJ8.out; have := HK3.out; omega
                          case rel => exact ⟨(IntKind.u64.wrap ((IntKind.u64.wrap (10 * x6_3)) + (((bt a0 x7_3) - 48) % 256))), (wrap64 (x7_3 + 1)), (by first | rfl | (simp; done) | (simp [*]; done)), (by first | rfl | (simp; done) | (simp [*]; done)), H', ⟨by have := HJ1.out; have := HJ8.out; have := HK3.out; omega⟩, by repeat (first | exact Drawn0.refl _ | apply Drawn0.step)⟩
                    · rw [if_neg c17] at H
                      exact absurd H (by simp)
                  · rw [if_neg c16] at H
                    exact absurd H (by simp)
                · rw [if_neg c15] at H
                  have c15b0 : decide (x7_3 < x5_1) = false := decide_eq_false c15
                  clear c15
                  by_cases c22 : x5_1 = (a0.size : Int)
                  · rw [if_pos c22] at H
                    have c22b0 : (x5_1 == (a0.size : Int)) = true := beq_iff_eq.mpr c22
                    have c22b1 : (x5_1 != (a0.size : Int)) = false := bne_eq_false_iff_eq.mpr c22
                    clear c22
                    simp only [Option.some.injEq, Prod.mk.injEq] at H
                    obtain ⟨rfl, rfl, rfl⟩ := H
                    go_wp2
                    repeat (go_quiet (fail); try go_wp2)
                    go_ret3
                    exact ⟨by first | rfl | (simp; done) | (simp [*]; done), by repeat (first | exact Drawn0.refl _ | apply Drawn0.step)⟩
                  · rw [if_neg c22] at H
                    have c22b0 : (x5_1 == (a0.size : Int)) = false := beq_eq_false_iff_ne.mpr c22
                    have c22b1 : (x5_1 != (a0.size : Int)) = true := bne_iff_ne.mpr c22
                    by_cases c23 : 0 ≤ x5_1
                    · rw [if_pos c23] at H
                      have c23b0 : decide (0 ≤ x5_1) = true := decide_eq_true c23
                      clear c23
                      by_cases c24 : x5_1 < (a0.size : Int)
                      · rw [if_pos c24] at H
                        have c24b0 : decide (x5_1 < (a0.size : Int)) = true := decide_eq_true c24
                        clear c24
                        by_cases c26 : (bt a0 x5_1) = 59
                        · rw [if_pos c26] at H
                          have c26b0 : ((bt a0 x5_1) == 59) = true := beq_iff_eq.mpr c26
                          have c26b1 : ((bt a0 x5_1) != 59) = false := bne_eq_false_iff_eq.mpr c26
                          clear c26
                          by_cases c27 : x5_1 = 0
                          · rw [if_pos c27] at H
                            have c27b0 : (x5_1 == 0) = true := beq_iff_eq.mpr c27
                            have c27b1 : (x5_1 != 0) = false := bne_eq_false_iff_eq.mpr c27
                            clear c27
                            simp only [Option.some.injEq, Prod.mk.injEq] at H
                            obtain ⟨rfl, rfl, rfl⟩ := H
                            have p25 : 0 ≤ (x5_1 : Int) := of_decide_eq_true (by first | (with_reducible assumption) | assumption)
                            have q25 : x5_1 < (a0.size : Int) := of_decide_eq_true (by first | (with_reducible assumption) | assumption)
                            have hx25 := bt_at a0 x5_1
                            replace p25 := eq_true p25
                            replace q25 := eq_true q25
                            go_wp2
                            repeat (go_quiet (fail); try go_wp2)
                            go_ret3
                            exact ⟨by first | rfl | (simp; done) | (simp [*]; done), by repeat (first | exact Drawn0.refl _ | apply Drawn0.step)⟩
                          · rw [if_neg c27] at H
                            have c27b0 : (x5_1 == 0) = false := beq_eq_false_iff_ne.mpr c27
                            have c27b1 : (x5_1 != 0) = true := bne_iff_ne.mpr c27
                            obtain ⟨ji28, hji28⟩ : ∃ j_ : Int, (wrap64 (x5_1 + 1)) = j_ := ⟨_, rfl⟩
                            replace H : (if 0 ≤ (ji28) then (if (ji28) ≤ (a0.size : Int) then (some (x6_3, a0.extract ((ji28) : Int).toNat a0.size, 0)) else (none)) else (none)) = some (r1, r2, r3) := by first | (rw [hji28] at H; exact H) | (simp only [hji28] at H ⊢; exact H)
                            have hji28w : (IntKind.i64.wrap (x5_1 + 1)) = ji28 := (i64_w _).trans hji28
                            by_cases c29 : 0 ≤ (ji28)
                            · rw [if_pos c29] at H
                              have c29b0 := eq_true c29
                              have c29b1 : decide (0 ≤ (ji28)) = true := decide_eq_true c29
                              clear c29
                              by_cases c30 : (ji28) ≤ (a0.size : Int)
                              · rw [if_pos c30] at H
                                have c30b0 := eq_true c30
                                have c30b1 : decide ((ji28) ≤ (a0.size : Int)) = true := decide_eq_true c30
                                clear c30
                                simp only [Option.some.injEq, Prod.mk.injEq] at H
                                obtain ⟨rfl, rfl, rfl⟩ := H
                                have p25 : 0 ≤ (x5_1 : Int) := of_decide_eq_true (by first | (with_reducible assumption) | assumption)
                                have q25 : x5_1 < (a0.size : Int) := of_decide_eq_true (by first | (with_reducible assumption) | assumption)
                                have hx25 := bt_at a0 x5_1
                                replace p25 := eq_true p25
                                replace q25 := eq_true q25
                                go_wp2
                                repeat (go_quiet (fail); try go_wp2)
                                go_ret3
                                exact ⟨by first | rfl | (simp; done) | (simp only [← hji28] <;> (first | rfl | simp)) | (simp [*]; done), by repeat (first | exact Drawn0.refl _ | apply Drawn0.step)⟩
                              · rw [if_neg c30] at H
                                exact absurd H (by simp)
                            · rw [if_neg c29] at H
                              exact absurd H (by simp)
                        · rw [if_neg c26] at H
                          have c26b0 : ((bt a0 x5_1) == 59) = false := beq_eq_false_iff_ne.mpr c26
                          have c26b1 : ((bt a0 x5_1) != 59) = true := bne_iff_ne.mpr c26
                          simp only [Option.some.injEq, Prod.mk.injEq] at H
                          obtain ⟨rfl, rfl, rfl⟩ := H
                          have p25 : 0 ≤ (x5_1 : Int) := of_decide_eq_true (by first | (with_reducible assumption) | assumption)
                          have q25 : x5_1 < (a0.size : Int) := of_decide_eq_true (by first | (with_reducible assumption) | assumption)
                          have hx25 := bt_at a0 x5_1
                          replace p25 := eq_true p25
                          replace q25 := eq_true q25
                          go_wp2
                          repeat (go_quiet (fail); try go_wp2)
                          go_ret3
                          exact ⟨by first | rfl | (simp; done) | (simp [*]; done), by repeat (first | exact Drawn0.refl _ | apply Drawn0.step)⟩
                      · rw [if_neg c24] at H
                        exact absurd H (by simp)
                    · rw [if_neg c23] at H
                      exact absurd H (by simp)
end Go.Proofs.YtlpcidjmaeicoaaDoor.QT
namespace Go.Proofs.YtlpcidjmaeicoaaDoor.QT
open Go.RowKit Go.Proofs.YtlpcidjmaeicoaaDoorW.PrintWords Go.Proofs.YtlpcidjmaeicoaaDoorW.PrintLast Go.Proofs.YtlpcidjmaeicoaaDoorW.PrintMore
attribute [local go_sem] max2_int min2_int max_two min_two max_three min_three max_four min_four
set_option linter.unusedVariables false
set_option linter.unusedSimpArgs false
end Go.Proofs.YtlpcidjmaeicoaaDoor.QT
namespace Go.Proofs.YtlpcidjmaeicoaaDoor.Giv
open Go Go.RowKit Go.Proofs.YtlpcidjmaeicoaaDoor.DecM Go.Proofs.YtlpcidjmaeicoaaDoor.QT Go.Proofs.YtlpcidjmaeicoaaDoorW.PrintWords Go.Proofs.YtlpcidjmaeicoaaDoorW.PrintLast
theorem data_drop (s : ByteArray) (i : Nat) (h : i < s.size) : ∃ u : UInt8, s.data.toList.drop i = u :: s.data.toList.drop (i + 1) ∧ bt s (i : Int) = (u.toNat : Int) := by
  have hl : i < s.data.toList.length := by rw [data_length]; exact h
  refine ⟨s.data.toList[i], List.drop_eq_getElem_cons hl, ?_⟩
  have h2 : ((i : Int)).toNat < s.size := by simpa using h
  rw [← bt_at s (i : Int) h2]
  simp only [Int.toNat_natCast, Array.getElem_toList]
  rfl
theorem data_none (s : ByteArray) (i : Nat) (h : s.size ≤ i) : s.data.toList.drop i = [] := by
  apply List.drop_eq_nil_of_le
  rw [data_length]
  exact h
def toldR (n : Nat) : Int × Bool := if n < two64 then ((n : Int), true) else (0, false)
theorem told_from (t : ByteArray) (hs : t.size ≤ 9223372036854775807) (hd : ∀ c ∈ t.data.toList, isD c = true) (d : Nat) : ∀ (k i v : Nat), t.size - i = d → i ≤ t.size → v < two64 → d < k →
    dec_told.l0 k t (v : Int) (t.size : Int) (i : Int) = some (toldR (vfrom v (t.data.toList.drop i))) := by
  have e64 := two64_eq
  induction d with
  | zero =>
    intro k i v hdi hi hv hk
    obtain ⟨k, rfl⟩ : ∃ m, k = m + 1 := ⟨k - 1, by omega⟩
    simp only [dec_told.l0]
    rw [if_neg (by omega), data_none t i (by omega), vfrom_nil]
    unfold toldR
    rw [if_pos hv]
  | succ d ih =>
    intro k i v hdi hi hv hk
    obtain ⟨k, rfl⟩ : ∃ m, k = m + 1 := ⟨k - 1, by omega⟩
    have hlt : i < t.size := by omega
    obtain ⟨u, hu, hbu⟩ := data_drop t i hlt
    have hdu : isD u = true := hd u (by
      have : u ∈ t.data.toList.drop i := by rw [hu]; exact List.mem_cons_self
      exact List.mem_of_mem_drop this)
    obtain ⟨h48, h57⟩ := (isD_iff u).mp hdu
    simp only [dec_told.l0]
    rw [if_pos (by omega), if_pos (by omega), if_pos (by omega), hbu, hu, vfrom_cons]
    have f1 : t.size - (i + 1) = d := by omega
    have f2 : i + 1 ≤ t.size := by omega
    have f3 : d < k := by omega
    have e1 : ((u.toNat : Int) - 48) % 256 = ((u.toNat - 48 : Nat) : Int) := by omega
    rw [e1]
    by_cases ho : 10 * v + (u.toNat - 48) < two64
    · rw [if_neg (by omega)]
      have e2 : IntKind.u64.wrap ((IntKind.u64.wrap (10 * (v : Int))) + ((u.toNat - 48 : Nat) : Int)) = ((10 * v + (u.toNat - 48) : Nat) : Int) := by
        rw [IntKind.wrap_u64, IntKind.wrap_u64]
        omega
      have e3 : wrap64 ((i : Int) + 1) = ((i + 1 : Nat) : Int) := by
        unfold wrap64
        omega
      rw [e2, e3]
      exact ih k (i + 1) (10 * v + (u.toNat - 48)) f1 f2 ho f3
    · rw [if_pos (by omega)]
      have := vfrom_le (t.data.toList.drop (i + 1)) (10 * v + (u.toNat - 48))
      unfold toldR
      rw [if_neg (by omega)]
theorem told_eq (t : ByteArray) (hs : t.size ≤ 9223372036854775807) (hd : ∀ c ∈ t.data.toList, isD c = true) : dec_told.f (t.size + 1) t = some (toldR (val t.data.toList)) := by
  unfold dec_told.f
  have h0 : 0 < two64 := by rw [two64_eq]; omega
  have := told_from t hs hd t.size (t.size + 1) 0 0 (by omega) (by omega) h0 (by omega)
  unfold val
  simpa using this
theorem told_yes (t : ByteArray) (v : Nat) (w : World) (hs : t.size ≤ 9223372036854775807) (hd : ∀ c ∈ t.data.toList, isD c = true) (hv : val t.data.toList = v) (h : v < two64) :
    Calls Tryd.prog 56 #[.string t] w fun e w' => e = .returned (.tuple #[.int .u64 (v : Int), .bool true]) ∧ Drawn0 w w' := by
  refine dec_told.calls (t.size + 1) t _ _ w ?_
  rw [told_eq t hs hd, hv]
  unfold toldR
  rw [if_pos h]
theorem told_no (t : ByteArray) (w : World) (hs : t.size ≤ 9223372036854775807) (hd : ∀ c ∈ t.data.toList, isD c = true) (h : ¬ val t.data.toList < two64) :
    Calls Tryd.prog 56 #[.string t] w fun e w' => e = .returned (.tuple #[.int .u64 0, .bool false]) ∧ Drawn0 w w' := by
  refine dec_told.calls (t.size + 1) t _ _ w ?_
  rw [told_eq t hs hd]
  unfold toldR
  rw [if_neg h]
end Go.Proofs.YtlpcidjmaeicoaaDoor.Giv
namespace Go.Proofs.YtlpcidjmaeicoaaDoor.Giv
open Go Go.RowKit Go.Proofs.YtlpcidjmaeicoaaDoor.DecM Go.Proofs.YtlpcidjmaeicoaaDoorW.PrintWords Go.Proofs.YtlpcidjmaeicoaaDoorW.PrintLast
def Ends (w : World) (r : Int × ByteArray × Int) (e : Ending) (w' : World) : Prop := e = .returned (.tuple #[.int .u64 r.1, .string r.2.1, .int .i64 r.2.2]) ∧ Below w.heap.size w w'
theorem get_data (s : ByteArray) (i : Nat) (h : i < s.size) : s.data.toList[i]? = some s[i] := by
  rw [List.getElem?_eq_getElem (by rw [data_length]; exact h)]
  simp only [Array.getElem_toList]
  rfl
theorem at_eq {s : ByteArray} {i : Nat} {h : i < s.size} {c : Nat} (hc : c < 256) : s.data.toList[i]? = some (UInt8.ofNat c) ↔ ((s[i]'h).toNat : Int) = c := by
  rw [get_data s i h]
  constructor
  · intro e
    have := Option.some.inj e
    rw [this]
    simp
    omega
  · intro e
    have : s[i].toNat = c := by omega
    rw [← this]
    simp
section
variable {s : ByteArray} {k : Nat} (hk : nd s.data.toList = k)
include hk
theorem c_big (h : 20 < k) : takeNum s = (0, ByteArray.empty, 3) := by
  unfold takeNum
  simp only [hk]
  rw [if_pos h]
theorem c_three (h : (1 < k ∧ s.data.toList[0]? = some 48) ∨ ¬ val (s.data.toList.take k) < two64 ∨ (k < s.data.toList.length ∧ (k = 0 ∨ ¬ s.data.toList[k]? = some 59))) : takeNum s = (0, ByteArray.empty, 3) := by
  unfold takeNum
  simp only [hk]
  by_cases h20 : 20 < k
  · rw [if_pos h20]
  · rw [if_neg h20, if_pos h]
theorem c_zero (h1 : (1 : Int) < (k : Int)) (h0 : 0 < s.size) (h : (((s[0]'h0).toNat : Int) == 48) = true) : takeNum s = (0, ByteArray.empty, 3) :=
  c_three hk (.inl ⟨by omega, (at_eq (c := 48) (by omega)).mpr (by simpa using h)⟩)
theorem c_told (h : ¬ val (s.data.toList.take k) < two64) : takeNum s = (0, ByteArray.empty, 3) := c_three hk (.inr (.inl h))
theorem c_sep (hn : k < s.size) (h : ((k : Int) == 0) = true ∨ (((s[k]'hn).toNat : Int) != 59) = true) : takeNum s = (0, ByteArray.empty, 3) := by
  refine c_three hk (.inr (.inr ⟨by rw [data_length]; exact hn, ?_⟩))
  rcases h with h | h
  · exact .inl (by simpa using h)
  · refine .inr fun e => ?_
    have := (at_eq (s := s) (i := k) (h := hn) (c := 59) (by omega)).mp e
    simp [this] at h
theorem c_none (hn : k < s.size) (h : k = 0) : takeNum s = (0, ByteArray.empty, 3) := c_three hk (.inr (.inr ⟨by rw [data_length]; exact hn, .inl h⟩))
theorem c_ok (h20 : ¬ 20 < k) (hn : k < s.size) (hv : val (s.data.toList.take k) < two64) (h1 : (k : Int) ≤ 1 ∨ ∃ h0 : 0 < s.size, (((s[0]'h0).toNat : Int) == 48) = false) (h : ((k : Int) == 0) = false ∧ (((s[k]'hn).toNat : Int) != 59) = false) :
    takeNum s = ((val (s.data.toList.take k) : Int), s.extract (k + 1) s.size, 0) := by
  unfold takeNum
  simp only [hk]
  have e59 : s.data.toList[k]? = some 59 := (at_eq (s := s) (i := k) (h := hn) (c := 59) (by omega)).mpr (by simpa using h.2)
  have k0 : ¬ k = 0 := by
    have := h.1
    intro e
    simp [e] at this
  have hl : s.data.toList.length = s.size := data_length s
  rw [if_neg h20, if_neg, if_neg (by omega)]
  rintro (⟨ha, hb⟩ | hb | ⟨_, hb | hb⟩)
  · rcases h1 with h1 | ⟨h0, h1⟩
    · omega
    · have := (at_eq (s := s) (i := 0) (h := h0) (c := 48) (by omega)).mp hb
      simp [this] at h1
  · exact hb hv
  · exact k0 hb
  · exact hb e59
theorem c_more (h20 : ¬ 20 < k) (hn : k = s.size) (hv : val (s.data.toList.take k) < two64) (h1 : (k : Int) ≤ 1 ∨ ∃ h0 : 0 < s.size, (((s[0]'h0).toNat : Int) == 48) = false) : takeNum s = (0, ByteArray.empty, 2) := by
  unfold takeNum
  simp only [hk]
  have hl : s.data.toList.length = s.size := data_length s
  rw [if_neg h20, if_neg, if_pos (by omega)]
  rintro (⟨ha, hb⟩ | hb | ⟨hb, _⟩)
  · rcases h1 with h1 | ⟨h0, h1⟩
    · omega
    · have := (at_eq (s := s) (i := 0) (h := h0) (c := 48) (by omega)).mp hb
      simp [this] at h1
  · exact hb hv
  · omega
end
theorem ext_take (s : ByteArray) (k : Nat) : (s.extract 0 k).data.toList = s.data.toList.take k := by
  rw [Lib.extract_data]
  simp
theorem ends_of {w W : World} {s : ByteArray} {a : Int} {b : ByteArray} {c : Int} (h : Hid (takeNum s = (a, b, c))) (hb : Below w.heap.size w W) : Ends w (takeNum s) (.returned (.tuple #[.int .u64 a, .string b, .int .i64 c])) W := by
  rw [h.out]
  exact ⟨rfl, hb⟩
set_option maxHeartbeats 1000000 in
theorem take_lt (s : ByteArray) (n : Nat) (w : World) (hs : s.size ≤ 9223372036854775807) (hn : n < s.size)
    (hd : ∀ (i : Nat) (h : i < n), (48 : Int) ≤ ((s[i]'(by omega)).toNat : Int) ∧ ((s[i]'(by omega)).toNat : Int) ≤ 57) (hx : ¬ ((48 : Int) ≤ ((s[n]'hn).toNat : Int) ∧ ((s[n]'hn).toNat : Int) ≤ 57))
    (ht : ∀ c ∈ (s.extract 0 n).data.toList, isD c = true) (hN : nd s.data.toList = n) :
    Calls Tryd.prog 44 #[.string s] w (Ends w (takeNum s)) := by
  have HD := Lib.hid hd
  have HX := Lib.hid hx
  have HT := Lib.hid ht
  have HZ : Hid ((s.extract 0 n).size ≤ 9223372036854775807) := Lib.hid (by rw [ByteArray.size_extract]; omega)
  have HN := Lib.hid hN
  clear hd hx ht hN
  go_enter Tryd.func44, Tryd.ntmps44
  go_wp2
  go_step3
  go_wp2
  go_step3
  go_wp2
  go_loop [5] (fun x => ∃ k : Nat, k ≤ n ∧ x = .int .i64 k) (fun x => n - (intOf x).toNat)
  case atStart => exact ⟨0, by omega, rfl⟩
  case round =>
    obtain ⟨k, hk, rfl⟩ := hrel
    by_cases hkn : k < n
    · obtain ⟨h1, h2⟩ := HD.out k hkn
      go_wp2
      go_round
      case rel => exact ⟨k + 1, by omega, by go_num⟩
      case measure => simp [intOf]; omega
    · obtain rfl : k = n := by omega
      have hpart : ((s[k]'hn).toNat : Int) < 48 ∨ (48 ≤ ((s[k]'hn).toNat : Int) ∧ (57 : Int) < ((s[k]'hn).toNat : Int)) := by have := HX.out; omega
      by_cases h20 : 20 < k
      · have HE := Lib.hid (c_big HN.out h20)
        rcases hpart with h3 | ⟨h3, h4⟩
        all_goals
          go_wp2
          (try rw [Exit.noGoto_ret])
          go_ret3
          exact ends_of HE (Below.refl _ _)
      · by_cases hv : val (s.extract 0 k).data.toList < two64
        · have HV : Hid (val (s.data.toList.take k) < two64) := Lib.hid (by rw [← ext_take]; exact hv)
          have HW : Hid (val (s.extract 0 k).data.toList = val (s.data.toList.take k)) := Lib.hid (by rw [ext_take])
          rcases hpart with h3 | ⟨h3, h4⟩
          all_goals
            go_wp2_with (go_at_call 56; refine (told_yes _ _ _ HZ.out HT.out HW.out HV.out).mono ?_; rintro e w' ⟨rfl, hw⟩)
            all_goals
              have HB := hw.below
              first
                | (have HE := Lib.hid (c_zero HN.out ‹_› ‹_› ‹_›); (try rw [Exit.noGoto_ret]); go_ret3; exact ends_of HE HB)
                | (have HE := Lib.hid (c_none HN.out hn ‹_›); (try rw [Exit.noGoto_ret]); go_ret3; exact ends_of HE HB)
                | (have HE := Lib.hid (c_sep HN.out hn ‹_›); (try rw [Exit.noGoto_ret]); go_ret3; exact ends_of HE HB)
                | (have HE := Lib.hid (c_ok HN.out h20 hn HV.out (by first | exact .inl ‹_› | exact .inr ⟨‹_›, ‹_›⟩) ‹_›); clear hw; go_quiet (fail); go_wp2; (try rw [Exit.noGoto_ret]); go_ret3; exact ends_of HE (pw_below_drewN HB _))
        · have HV : Hid (¬ val (s.data.toList.take k) < two64) := Lib.hid (by rw [← ext_take]; exact hv)
          have HE := Lib.hid (c_told HN.out HV.out)
          rcases hpart with h3 | ⟨h3, h4⟩
          all_goals
            go_wp2_with (go_at_call 56; refine (told_no _ _ HZ.out HT.out hv).mono ?_; rintro e w' ⟨rfl, hw⟩)
            all_goals
              have HB := hw.below
              (try rw [Exit.noGoto_ret])
              go_ret3
              exact ends_of HE HB
end Go.Proofs.YtlpcidjmaeicoaaDoor.Giv
namespace Go.Proofs.YtlpcidjmaeicoaaDoor.Giv
open Go Go.RowKit Go.Proofs.YtlpcidjmaeicoaaDoor.DecM Go.Proofs.YtlpcidjmaeicoaaDoorW.PrintWords Go.Proofs.YtlpcidjmaeicoaaDoorW.PrintLast
def arr (zs : List Int) : Array Value := (zs.map (.int .u8)).toArray
theorem arr_get (zs : List Int) (i : Nat) (h : i < zs.length) : (arr zs)[i]? = some (.int .u8 (zs.getD i 0)) := by
  simp [arr, h]
theorem arr_set (zs : List Int) (i : Nat) (c : Int) : (arr zs).setIfInBounds i (.int .u8 c) = arr (zs.set i c) := by
  simp [arr, List.map_set]
def NumInv (v : Nat) (i u : Nat) (zs : List Int) : Prop := 1 ≤ i ∧ i ≤ 20 ∧ u < 10 ^ i ∧ zs.length = 21 ∧ numL v ++ [59] = numL u ++ zs.drop i
theorem slice_arr (a : Nat) (j : Nat) (h : j ≤ 20) (W : World) : (Instr.sliceAt 107 (.pointer (some ⟨a, 0, none⟩)) (some (.int .i64 (j : Int))) none none).run Tryd.prog W = .ok (.slice (some ⟨a, j, none⟩) (21 - j) (21 - j)) W := by
  have hl : Tryd.prog.arrayLen 107 = 21 := by kernel_rfl
  have hs : ((sizeOf (Tryd.prog.elem 107)).run Tryd.prog W) = .ok 1 W := by kernel_rfl
  rw [run_sliceAt_array_l W 107 ⟨a, 0, none⟩ (by kernel_rfl) .i64 (j : Int) (by omega) (by rw [hl]; omega), hs, hl]
  simp only [Result.andThen, slicedAt, Int.toNat_natCast, Nat.mul_one]
  rw [if_neg (by omega)]
  simp [Addr.add]
  omega
theorem str_arr {W : World} {B : Nat} {zs : List Int} (hb : W.heap[B]? = some (.cells (arr zs) 107 (0, 0))) (hl : zs.length = 21) (j : Nat) (h : j ≤ 20) :
    (convert 79 9 (.slice (some ⟨B, j, none⟩) (21 - j) (21 - j))).run Tryd.prog W = .ok (.string (strOfNums (zs.drop j))) W := by
  refine run_convert_bytes_arg W 79 5 Tryd.underlying79 Tryd.underlying5 B j (21 - j) (21 - j) (zs.drop j) (by simp [hl]) ?_ 9 Tryd.underlying9
  intro i hi
  rw [blk_cell hb (j + i), arr_get zs (j + i) (by omega)]
  simp [List.getD, List.getElem?_drop]
set_option maxHeartbeats 400000 in
theorem num_calls (v : Nat) (w : World) (hv : v < 18446744073709551616) :
    Calls Tryd.prog 39 #[.int .u64 v] w fun e w' => e = .returned (.string (numS v)) ∧ Below w.heap.size w w' := by
  go_enter Tryd.func39, Tryd.ntmps39
  go_wp2
  go_loopw [0, 4] (fun x y wr => ∃ (i u : Nat) (zs : List Int), x = .int .u64 u ∧ y = .int .i64 i ∧ Hid (NumInv v i u zs) ∧ wr.heap[w.heap.size]? = some (.cells (arr zs) 107 (0, 0)) ∧ Below w.heap.size w wr) (fun _ y _ => (intOf y).toNat)
  case atStart =>
    refine ⟨20, v, [0, 0, 0, 0, 0, 0, 0, 0, 0, 0, 0, 0, 0, 0, 0, 0, 0, 0, 0, 0, 59], rfl, rfl, Lib.hid ⟨by omega, by omega, by omega, rfl, rfl⟩, ?_, (Below.refl _ _).alloc (Nat.le_refl _) _⟩
    exact blk_new w _
  case round =>
    obtain ⟨i, u, zs, rfl, rfl, HI, hblk, hB⟩ := hrel
    obtain ⟨h1, h20, hu, hlen, hsum⟩ := HI.out
    obtain ⟨j, rfl⟩ : ∃ j, i = j + 1 := ⟨i - 1, by omega⟩
    have hu64 : u < 100000000000000000000 := by
      have : 10 ^ (j + 1) ≤ 10 ^ 20 := Nat.pow_le_pow_right (by omega) h20
      omega
    have hsets : (wr.setCell ⟨w.heap.size, j, none⟩ (.int .u8 (48 + (u : Int) % 10))).heap[w.heap.size]? = some (.cells (arr (zs.set j (48 + (u : Int) % 10))) 107 (0, 0)) := by
      rw [← arr_set]
      exact blk_set hblk j _
    have hB' : Below w.heap.size w (wr.setCell ⟨w.heap.size, j, none⟩ (.int .u8 (48 + (u : Int) % 10))) := hB.setCell (Nat.le_refl _) _
    have hd := set_drop zs j (48 + (u : Int) % 10) (by omega)
    have hc : wr.cell? ⟨w.heap.size, j, none⟩ = some (.int .u8 (zs.getD j 0)) := by rw [blk_cell hblk j]; exact arr_get zs j (by omega)
    have hf := blk_frozen hblk j
    have hsl := slice_arr w.heap.size j (by omega)
    have hcv := str_arr hsets (by simpa using hlen) j (by omega)
    have HS := Lib.hid hsets
    have HD := Lib.hid hd
    have HB := Lib.hid hB'
    clear hu hlen hsum h1 hsets hd hB' hB hblk
    by_cases h10 : u < 10
    · have HE : Hid (strOfNums ((zs.set j (48 + (u : Int) % 10)).drop j) = numS v) := by
        refine Lib.hid ?_
        obtain ⟨_, _, _, _, hsum⟩ := HI.out
        rw [HD.out]
        unfold numS
        rw [hsum, numL_small h10]
        have : (u : Int) % 10 = u := by omega
        rw [this]
        rfl
      have hq : ((u : Int) / 10 == 0) = true := by
        have : (u : Int) / 10 = 0 := by omega
        rw [this]; rfl
      go_wp2
      go_ret
      exact ⟨by rw [HE.out]; rfl, HB.out⟩
    · have HN : Hid (NumInv v j (u / 10) (zs.set j (48 + (u : Int) % 10))) := by
        refine Lib.hid ?_
        obtain ⟨_, _, hu, hlen, hsum⟩ := HI.out
        obtain ⟨h2, h3⟩ := pow_step hu h10
        refine ⟨by omega, by omega, h3, by simpa using hlen, ?_⟩
        rw [HD.out, hsum, numL_big h10, List.append_assoc]
        rfl
      have hq : ((u : Int) / 10 == 0) = false := by
        have : ¬ (u : Int) / 10 = 0 := by omega
        simpa using this
      go_wp2
      go_roundw
      case rel => exact ⟨j, u / 10, _, by go_num, rfl, HN, HS.out, HB.out⟩
      case measure => simp [intOf]
end Go.Proofs.YtlpcidjmaeicoaaDoor.Giv
namespace Go.Proofs.YtlpcidjmaeicoaaDoor.Giv
open Go Go.RowKit Go.Proofs.YtlpcidjmaeicoaaDoor.DecM Go.Proofs.YtlpcidjmaeicoaaDoor.QT Go.Proofs.YtlpcidjmaeicoaaDoorW.PrintWords Go.Proofs.YtlpcidjmaeicoaaDoorW.PrintLast
theorem str_append (a b : List Int) : strOfNums (a ++ b) = strOfNums a ++ strOfNums b := by
  apply ByteArray.ext
  simp [strOfNums]
def numB (v : Nat) : ByteArray := if v = 0 then ByteArray.empty else strOfNums (numL v)
theorem numB_all (v : Nat) : numB (v / 10) ++ strOfNums [48 + ((v % 10 : Nat) : Int)] = strOfNums (numL v) := by
  unfold numB
  by_cases h : v < 10
  · have e : v / 10 = 0 := by omega
    have e2 : v % 10 = v := by omega
    rw [if_pos e, e2, numL_small h, ByteArray.empty_append]
  · rw [if_neg (by omega), numL_big h, str_append]
theorem numB_step {v : Nat} (h : ¬ v = 0) : numB (v / 10) ++ strOfNums [48 + ((v % 10 : Nat) : Int)] = numB v := by
  rw [numB_all]
  unfold numB
  rw [if_neg h]
theorem fig_eq (v : Nat) : (48 + ((Int.tmod (v : Int) 10) % 256)) % 256 = 48 + ((v % 10 : Nat) : Int) := by
  rw [Int.tmod_eq_emod_of_nonneg (by omega)]
  omega
theorem quo_eq (v : Nat) (h : v < 18446744073709551616) : IntKind.u64.wrap (Int.tdiv (v : Int) 10) = ((v / 10 : Nat) : Int) := by
  rw [IntKind.wrap_u64, Int.tdiv_eq_ediv_of_nonneg (by omega)]
  omega
theorem refNum_from (d : Nat) : ∀ (k v : Nat) (s : ByteArray), v < 10 ^ d → v < 18446744073709551616 → d < k → s.size + d ≤ 1000 → stanchionref01_Num.l0 k (v : Int) s = some (numB v ++ s) := by
  induction d with
  | zero =>
    intro k v s hv hv2 hk hs
    obtain ⟨k, rfl⟩ : ∃ m, k = m + 1 := ⟨k - 1, by omega⟩
    have e : v = 0 := by simpa using hv
    subst e
    simp only [stanchionref01_Num.l0]
    rw [if_neg (by omega)]
    simp [numB]
  | succ d ih =>
    intro k v s hv hv2 hk hs
    obtain ⟨k, rfl⟩ : ∃ m, k = m + 1 := ⟨k - 1, by omega⟩
    simp only [stanchionref01_Num.l0]
    by_cases h0 : v = 0
    · subst h0
      rw [if_neg (by omega)]
      simp [numB]
    · have hq : v / 10 < 10 ^ d := by
        rw [Nat.pow_succ] at hv
        omega
      have hsz : (strOfNums [48 + ((v % 10 : Nat) : Int)]).size = 1 := by simp [strOfNums_size]
      rw [if_pos (by omega), fig_eq, Option.bind_some, if_pos (by rw [hsz]; omega), quo_eq v hv2,
        ih k (v / 10) (strOfNums [48 + ((v % 10 : Nat) : Int)] ++ s) hq (by omega) (by omega) (by rw [ByteArray.size_append, hsz]; omega), ← ByteArray.append_assoc, numB_step h0]
theorem refNum_eq (v : Nat) (hv : v < 18446744073709551616) : stanchionref01_Num.f 21 (v : Int) = some (numS v) := by
  have hsz : (strOfNums [48 + ((v % 10 : Nat) : Int)]).size = 1 := by simp [strOfNums_size]
  have h59 : (⟨#[59]⟩ : ByteArray) = strOfNums [59] := rfl
  have hs1 : (strOfNums [59]).size = 1 := by simp [strOfNums_size]
  unfold stanchionref01_Num.f
  rw [fig_eq, Option.bind_some, if_pos (by rw [hsz]; omega), quo_eq v hv, h59,
    refNum_from 20 21 (v / 10) _ (by omega) (by omega) (by omega) (by rw [ByteArray.size_append, hsz, hs1]; omega), ← ByteArray.append_assoc, numB_all, ← str_append]
  rfl
theorem bt_data {s : ByteArray} {i : Nat} (h : i < s.size) : bt s (i : Int) = ((s.data.toList[i]'(by rw [data_length]; exact h)).toNat : Int) := by
  obtain ⟨u, hu, hb⟩ := data_drop s i h
  rw [hb]
  have := List.drop_eq_getElem_cons (l := s.data.toList) (i := i) (by rw [data_length]; exact h)
  rw [this] at hu
  rw [(List.cons.inj hu).1]
theorem next_eq {i n : Nat} (h : i < n) (hn : n ≤ 9223372036854775807) : wrap64 ((i : Int) + 1) = ((i + 1 : Nat) : Int) := by
  unfold wrap64
  omega
theorem l0_j1 (s : ByteArray) (hs : s.size ≤ 9223372036854775807) (d : Nat) : ∀ (k i : Nat), nd s.data.toList - i = d → i ≤ nd s.data.toList → stanchionref01_TakeNum.l0 (k + d + 1) s (i : Int) = stanchionref01_TakeNum.j1 k s (nd s.data.toList : Int) := by
  have hle := nd_le s.data.toList
  rw [data_length] at hle
  induction d with
  | zero =>
    intro k i hd hi
    obtain rfl : i = nd s.data.toList := by omega
    simp only [stanchionref01_TakeNum.l0]
    by_cases hlt : nd s.data.toList < s.size
    · have hst := nd_stop s.data.toList (by rw [data_length]; exact hlt)
      rw [if_pos (by omega), if_pos (by omega), bt_data hlt]
      by_cases h48 : 48 ≤ (s.data.toList[nd s.data.toList]'(by rw [data_length]; exact hlt)).toNat
      · by_cases h57 : (s.data.toList[nd s.data.toList]'(by rw [data_length]; exact hlt)).toNat ≤ 57
        · have := (isD_iff _).mpr ⟨h48, h57⟩
          rw [hst] at this
          cases this
        · rw [if_pos (by omega), if_neg (by omega)]
      · rw [if_neg (by omega)]
    · rw [if_neg (by omega)]
  | succ d ih =>
    intro k i hd hi
    have hin : i < nd s.data.toList := by omega
    obtain ⟨hl, hdig⟩ := nd_at s.data.toList i hin
    have := (isD_iff _).mp hdig
    have hlt : i < s.size := by omega
    have e : k + (d + 1) + 1 = (k + d + 1) + 1 := by omega
    rw [e]
    simp only [stanchionref01_TakeNum.l0]
    rw [if_pos (by omega), if_pos (by omega), bt_data hlt, if_pos (by omega), if_pos (by omega), next_eq hlt hs]
    exact ih k (i + 1) (by omega) (by omega)
def refEnd (s : ByteArray) (n v : Nat) : Int × ByteArray × Int :=
  if n = s.data.toList.length then (0, ByteArray.empty, 2)
  else if n = 0 ∨ ¬ s.data.toList[n]? = some 59 then (0, ByteArray.empty, 3)
  else ((v : Int), s.extract (n + 1) s.size, 0)
theorem l1_end (s : ByteArray) (hs : s.size ≤ 9223372036854775807) (d : Nat) : ∀ (k i v : Nat), nd s.data.toList - i = d → i ≤ nd s.data.toList → v < two64 →
    stanchionref01_TakeNum.l1 (k + d + 1) s (nd s.data.toList : Int) (v : Int) (i : Int) =
      some (if vfrom v ((s.data.toList.take (nd s.data.toList)).drop i) < two64 then refEnd s (nd s.data.toList) (vfrom v ((s.data.toList.take (nd s.data.toList)).drop i)) else (0, ByteArray.empty, 3)) := by
  have hle := nd_le s.data.toList
  have hlen : s.data.toList.length = s.size := data_length s
  have e64 := two64_eq
  induction d with
  | zero =>
    intro k i v hd hi hv
    obtain rfl : i = nd s.data.toList := by omega
    have e : (s.data.toList.take (nd s.data.toList)).drop (nd s.data.toList) = [] := List.drop_eq_nil_of_le (by rw [List.length_take]; omega)
    simp only [stanchionref01_TakeNum.l1]
    rw [e, vfrom_nil, if_pos hv, if_neg (by omega)]
    unfold refEnd
    by_cases hn : nd s.data.toList = s.data.toList.length
    · rw [if_pos (by omega), if_pos hn]
      rfl
    · have hlt : nd s.data.toList < s.size := by omega
      rw [if_neg (by omega), if_pos (by omega), if_pos (by omega), if_neg hn, bt_data hlt]
      have h59 : (s.data.toList[nd s.data.toList]? = some 59) ↔ (((s.data.toList[nd s.data.toList]'(by omega)).toNat : Int) = 59) := by
        rw [List.getElem?_eq_getElem (by omega)]
        constructor
        · intro e
          rw [Option.some.inj e]
          rfl
        · intro e
          congr 1
          exact UInt8.toNat_inj.mp (by have e5 : (59 : UInt8).toNat = 59 := rfl; omega)
      by_cases h : ((s.data.toList[nd s.data.toList]'(by omega)).toNat : Int) = 59
      · rw [if_pos h]
        by_cases h0 : nd s.data.toList = 0
        · rw [if_pos (by omega), if_pos (.inl h0)]
          rfl
        · rw [if_neg (by omega), next_eq hlt hs, if_pos (by omega), if_pos (by omega), if_neg (by simp only [not_or, Classical.not_not]; exact ⟨h0, h59.mpr h⟩), Int.toNat_natCast]
      · rw [if_neg h, if_pos (.inr (fun e => h (h59.mp e)))]
        rfl
  | succ d ih =>
    intro k i v hd hi hv
    have hin : i < nd s.data.toList := by omega
    obtain ⟨hl, hdig⟩ := nd_at s.data.toList i hin
    have hbd := (isD_iff _).mp hdig
    have hlt : i < s.size := by omega
    have ek : k + (d + 1) + 1 = (k + d + 1) + 1 := by omega
    have hdrop : (s.data.toList.take (nd s.data.toList)).drop i = s.data.toList[i] :: (s.data.toList.take (nd s.data.toList)).drop (i + 1) := by
      rw [List.drop_eq_getElem_cons (by rw [List.length_take]; omega), List.getElem_take]
    rw [ek, hdrop, vfrom_cons]
    simp only [stanchionref01_TakeNum.l1]
    have e1 : (((s.data.toList[i]).toNat : Int) - 48) % 256 = (((s.data.toList[i]).toNat - 48 : Nat) : Int) := by omega
    rw [if_pos (by omega), if_pos (by omega), if_pos (by omega), bt_data hlt, e1]
    have f1 : nd s.data.toList - (i + 1) = d := by omega
    have f2 : i + 1 ≤ nd s.data.toList := by omega
    generalize hc : (s.data.toList[i]).toNat - 48 = c
    have hc9 : c ≤ 9 := by omega
    clear e1 hbd hdig hdrop
    by_cases ho : 10 * v + c < two64
    · have e2 : IntKind.u64.wrap ((IntKind.u64.wrap (10 * (v : Int))) + (c : Int)) = ((10 * v + c : Nat) : Int) := by
        rw [IntKind.wrap_u64, IntKind.wrap_u64]
        omega
      have e3 := next_eq hlt hs
      have g1 : ¬ (v : Int) > 1844674407370955161 := by omega
      have g2 : (v : Int) = 1844674407370955161 → ¬ (c : Int) > 5 := by omega
      rw [if_neg g1, e2, e3]
      have := ih k (i + 1) (10 * v + c) f1 f2 ho
      by_cases h5 : (v : Int) = 1844674407370955161
      · rw [if_pos h5, if_neg (g2 h5)]
        exact this
      · rw [if_neg h5]
        exact this
    · have hmono := vfrom_le ((s.data.toList.take (nd s.data.toList)).drop (i + 1)) (10 * v + c)
      have g3 : ¬ vfrom (10 * v + c) ((s.data.toList.take (nd s.data.toList)).drop (i + 1)) < two64 := by omega
      rw [if_neg g3]
      by_cases h4 : (v : Int) > 1844674407370955161
      · rw [if_pos h4]
        rfl
      · rw [if_neg h4, if_pos (by omega), if_pos (by omega)]
        rfl
theorem refTake_eq (s : ByteArray) (hs : s.size ≤ 9223372036854775807) : ∃ k, stanchionref01_TakeNum.f k s = some (takeNum s) := by
  have hle := nd_le s.data.toList
  have hlen : s.data.toList.length = s.size := data_length s
  have h0 : 0 < two64 := by rw [two64_eq]; omega
  refine ⟨((0 + nd s.data.toList + 1) + 1 + 1) + nd s.data.toList + 1, ?_⟩
  unfold stanchionref01_TakeNum.f
  have hj := l0_j1 s hs (nd s.data.toList) ((0 + nd s.data.toList + 1) + 1 + 1) 0 (by omega) (by omega)
  rw [show ((0 : Nat) : Int) = 0 from rfl] at hj
  rw [hj]
  simp only [stanchionref01_TakeNum.j1, stanchionref01_TakeNum.j2]
  have hl1 := l1_end s hs (nd s.data.toList) 0 0 0 (by omega) (by omega) h0
  rw [show ((0 : Nat) : Int) = 0 from rfl, List.drop_zero] at hl1
  rw [hl1]
  have hval : vfrom 0 (s.data.toList.take (nd s.data.toList)) = val (s.data.toList.take (nd s.data.toList)) := rfl
  rw [hval]
  unfold takeNum
  simp only []
  generalize hn : nd s.data.toList = n at *
  by_cases h20 : 20 < n
  · rw [if_pos h20, if_pos (by omega)]
    rfl
  rw [if_neg h20, if_neg (by omega)]
  have hz : (1 < n ∧ s.data.toList[0]? = some 48) ↔ ((n : Int) > 1 ∧ (bt s 0 == 48) = true) := by
    constructor
    · rintro ⟨h1, h2⟩
      refine ⟨by omega, ?_⟩
      have := bt_data (s := s) (i := 0) (by omega)
      rw [show ((0 : Nat) : Int) = 0 from rfl] at this
      rw [List.getElem?_eq_getElem (by omega)] at h2
      rw [this, Option.some.inj h2]
      rfl
    · rintro ⟨h1, h2⟩
      refine ⟨by omega, ?_⟩
      have := bt_data (s := s) (i := 0) (by omega)
      rw [show ((0 : Nat) : Int) = 0 from rfl] at this
      rw [this] at h2
      rw [List.getElem?_eq_getElem (by omega)]
      congr 1
      exact UInt8.toNat_inj.mp (by simp at h2 ⊢; omega)
  by_cases hzz : 1 < n ∧ s.data.toList[0]? = some 48
  · obtain ⟨h1, h2⟩ := hz.mp hzz
    rw [if_pos h1, if_pos (by omega), if_pos h2, if_pos (.inl hzz)]
    rfl
  · have hz2 : ¬ ((n : Int) > 1 ∧ (bt s 0 == 48) = true) := fun h => hzz (hz.mpr h)
    have key : (if val (s.data.toList.take n) < two64 then refEnd s n (val (s.data.toList.take n)) else (0, ByteArray.empty, 3)) =
        (if (1 < n ∧ s.data.toList[0]? = some 48) ∨ ¬ val (s.data.toList.take n) < two64 ∨ (n < s.data.toList.length ∧ (n = 0 ∨ ¬ s.data.toList[n]? = some 59)) then ((0 : Int), ByteArray.empty, (3 : Int))
         else if n = s.data.toList.length then (0, ByteArray.empty, 2) else ((val (s.data.toList.take n) : Int), s.extract (n + 1) s.size, 0)) := by
      by_cases hv : val (s.data.toList.take n) < two64
      · rw [if_pos hv]
        unfold refEnd
        by_cases hnl : n = s.data.toList.length
        · rw [if_pos hnl, if_neg, if_pos hnl]
          rintro (h | h | ⟨h, _⟩)
          · exact hzz h
          · exact h hv
          · omega
        · rw [if_neg hnl]
          by_cases h3 : n = 0 ∨ ¬ s.data.toList[n]? = some 59
          · rw [if_pos h3, if_pos (.inr (.inr ⟨by omega, h3⟩))]
          · rw [if_neg h3, if_neg, if_neg hnl]
            rintro (h | h | ⟨_, h⟩)
            · exact hzz h
            · exact h hv
            · exact h3 h
      · rw [if_neg hv, if_pos (.inr (.inl hv))]
    rw [← key]
    by_cases h1 : (n : Int) > 1
    · have h2 : (bt s 0 == 48) = false := by
        cases hb : (bt s 0 == 48) with
        | false => rfl
        | true => exact absurd ⟨h1, hb⟩ hz2
      rw [if_pos h1, if_pos (by omega), h2, if_neg (by decide)]
    · rw [if_neg h1, if_neg (by decide)]
end Go.Proofs.YtlpcidjmaeicoaaDoor.Giv
namespace Go.Proofs.YtlpcidjmaeicoaaDoor.Giv
open Go Go.RowKit Go.Proofs.YtlpcidjmaeicoaaDoor.DecM Go.Proofs.YtlpcidjmaeicoaaDoorW.PrintWords Go.Proofs.YtlpcidjmaeicoaaDoorW.PrintLast
set_option maxHeartbeats 1000000 in
theorem take_eq (s : ByteArray) (n : Nat) (w : World) (hs : s.size ≤ 9223372036854775807) (hn : n = s.size)
    (hd : ∀ (i : Nat) (h : i < s.size), (48 : Int) ≤ ((s[i]'h).toNat : Int) ∧ ((s[i]'h).toNat : Int) ≤ 57)
    (ht : ∀ c ∈ (s.extract 0 n).data.toList, isD c = true) (hN : nd s.data.toList = n) :
    Calls Tryd.prog 44 #[.string s] w (Ends w (takeNum s)) := by
  have HD := Lib.hid hd
  have HT := Lib.hid ht
  have HN := Lib.hid hN
  have HM := Lib.hid hn
  have hm1 : n ≤ s.size := by omega
  have hm2 : s.size ≤ n := by omega
  have HZ : Hid ((s.extract 0 n).size ≤ 9223372036854775807) := Lib.hid (by rw [ByteArray.size_extract]; omega)
  clear hd ht hN hn
  go_enter Tryd.func44, Tryd.ntmps44
  go_wp2
  go_step3
  go_wp2
  go_step3
  go_wp2
  go_loop [5] (fun x => ∃ k : Nat, k ≤ n ∧ x = .int .i64 k) (fun x => n - (intOf x).toNat)
  case atStart => exact ⟨0, by omega, rfl⟩
  case round =>
    obtain ⟨k, hk, rfl⟩ := hrel
    by_cases hkn : k < s.size
    · obtain ⟨h1, h2⟩ := HD.out k hkn
      go_wp2
      go_round
      case rel => exact ⟨k + 1, by omega, by go_num⟩
      case measure => simp [intOf]; omega
    · obtain rfl : k = n := by omega
      by_cases h20 : 20 < k
      · have HE := Lib.hid (c_big HN.out h20)
        go_wp2
        (try rw [Exit.noGoto_ret])
        go_ret3
        exact ends_of HE (Below.refl _ _)
      · have hks : ((k : Int) == (s.size : Int)) = true := by simp; omega
        by_cases hv : val (s.extract 0 k).data.toList < two64
        · have HV : Hid (val (s.data.toList.take k) < two64) := Lib.hid (by rw [← ext_take]; exact hv)
          have HW : Hid (val (s.extract 0 k).data.toList = val (s.data.toList.take k)) := Lib.hid (by rw [ext_take])
          go_wp2_with (go_at_call 56; refine (told_yes _ _ _ HZ.out HT.out HW.out HV.out).mono ?_; rintro e w' ⟨rfl, hw⟩)
          all_goals
            have HB := hw.below
            first
              | (have HE := Lib.hid (c_zero HN.out ‹_› ‹_› ‹_›); (try rw [Exit.noGoto_ret]); go_ret3; exact ends_of HE HB)
              | (have HE := Lib.hid (c_more HN.out h20 HM.out HV.out (by first | exact .inl ‹_› | exact .inr ⟨‹_›, ‹_›⟩)); (try rw [Exit.noGoto_ret]); go_ret3; exact ends_of HE HB)
        · have HV : Hid (¬ val (s.data.toList.take k) < two64) := Lib.hid (by rw [← ext_take]; exact hv)
          have HE := Lib.hid (c_told HN.out HV.out)
          go_wp2_with (go_at_call 56; refine (told_no _ _ HZ.out HT.out hv).mono ?_; rintro e w' ⟨rfl, hw⟩)
          all_goals
            have HB := hw.below
            (try rw [Exit.noGoto_ret])
            go_ret3
            exact ends_of HE HB
theorem byte_fig {s : ByteArray} {i : Nat} (h : i < s.size) (hd : isD (s.data.toList[i]'(by rw [data_length]; exact h)) = true) : (48 : Int) ≤ ((s[i]'h).toNat : Int) ∧ ((s[i]'h).toNat : Int) ≤ 57 := by
  have e : s.data.toList[i]'(by rw [data_length]; exact h) = s[i] := by
    simp only [Array.getElem_toList]
    rfl
  rw [e] at hd
  have := (isD_iff _).mp hd
  omega
theorem take_calls (s : ByteArray) (w : World) (hs : s.size ≤ 9223372036854775807) : Calls Tryd.prog 44 #[.string s] w (Ends w (takeNum s)) := by
  have hl : s.data.toList.length = s.size := data_length s
  have hle := nd_le s.data.toList
  have ht : ∀ c ∈ (s.extract 0 (nd s.data.toList)).data.toList, isD c = true := by
    intro c hc
    rw [ext_take] at hc
    exact nd_digits _ c hc
  by_cases hn : nd s.data.toList < s.size
  · refine take_lt s _ w hs hn (fun i hi => ?_) ?_ ht rfl
    · obtain ⟨_, h⟩ := nd_at s.data.toList i hi
      exact byte_fig (by omega) h
    · have h := nd_stop s.data.toList (by omega)
      intro ⟨h1, h2⟩
      have e : s.data.toList[nd s.data.toList]'(by omega) = s[nd s.data.toList] := by
        simp only [Array.getElem_toList]
        rfl
      rw [e] at h
      have := (isD_iff s[nd s.data.toList]).mpr (by omega)
      rw [this] at h
      cases h
  · refine take_eq s _ w hs (by omega) (fun i hi => ?_) ht rfl
    obtain ⟨_, h⟩ := nd_at s.data.toList i (by omega)
    exact byte_fig hi h
theorem refNum_calls (v : Nat) (w : World) (hv : v < 18446744073709551616) :
    Calls Tryd.prog 42 #[.int .u64 v] w fun e w' => e = .returned (.string (numS v)) ∧ Below w.heap.size w w' :=
  QT.stanchionref01_Num.calls 21 (v : Int) (numS v) w (refNum_eq v hv)
theorem refTake_calls (s : ByteArray) (w : World) (hs : s.size ≤ 9223372036854775807) : Calls Tryd.prog 49 #[.string s] w (Ends w (takeNum s)) := by
  obtain ⟨k, hk⟩ := refTake_eq s hs
  refine (QT.stanchionref01_TakeNum.calls k s (takeNum s).1 (takeNum s).2.1 (takeNum s).2.2 w hk).mono ?_
  intro e w' ⟨he, hw⟩
  exact ⟨he, hw.below⟩
def textS (t : ByteArray) : ByteArray := numS t.size ++ t
set_option maxHeartbeats 400000 in
theorem text_calls (t : ByteArray) (w : World) (ht : t.size ≤ 4611686018427387904) :
    Calls Tryd.prog 41 #[.string t] w fun e w' => e = .returned (.string (textS t)) ∧ Below w.heap.size w w' := by
  have hz := numS_size t.size (by omega)
  have HC := Lib.hid (num_calls t.size)
  have HE : Hid (textS t = numS t.size ++ t) := Lib.hid rfl
  go_enter Tryd.func41, Tryd.ntmps41
  go_wp2_with (go_at_call 39; refine (HC.out _ (by omega)).mono ?_; rintro e w1 ⟨rfl, hb⟩)
  go_ret
  exact ⟨by rw [HE.out]; rfl, hb⟩
set_option maxHeartbeats 400000 in
theorem refText_calls (t : ByteArray) (w : World) (ht : t.size ≤ 4611686018427387904) :
    Calls Tryd.prog 43 #[.string t] w fun e w' => e = .returned (.string (textS t)) ∧ Below w.heap.size w w' := by
  have hz := numS_size t.size (by omega)
  have HC := Lib.hid (refNum_calls t.size)
  have HE : Hid (textS t = numS t.size ++ t) := Lib.hid rfl
  go_enter Tryd.func43, Tryd.ntmps43
  go_wp2_with (go_at_call 42; refine (HC.out _ (by omega)).mono ?_; rintro e w1 ⟨rfl, hb⟩)
  go_ret
  exact ⟨by rw [HE.out]; rfl, hb⟩
end Go.Proofs.YtlpcidjmaeicoaaDoor.Giv
namespace Go.Proofs.YtlpcidjmaeicoaaDoor.QDec
open Go Go.RowKit Go.Proofs.YtlpcidjmaeicoaaDoor.DecM Go.Proofs.YtlpcidjmaeicoaaDoor.Giv
def dec_TakeNum.f (a0 : ByteArray) : Option (Int × ByteArray × Int) := if a0.size ≤ 9223372036854775807 then some (takeNum a0) else none
theorem dec_TakeNum.calls (a0 : ByteArray) (r1 : Int) (r2 : ByteArray) (r3 : Int) (w : World) (h : dec_TakeNum.f a0 = some (r1, r2, r3)) :
    Calls Tryd.prog 44 #[.string a0] w fun e w' => e = .returned (.tuple #[.int .u64 r1, .string r2, .int .i64 r3]) ∧ Below w.heap.size w w' := by
  unfold dec_TakeNum.f at h
  by_cases hs : a0.size ≤ 9223372036854775807
  · rw [if_pos hs] at h
    have e := Option.some.inj h
    refine (take_calls a0 w hs).mono ?_
    intro e1 w1 hE
    unfold Ends at hE
    rw [e] at hE
    exact hE
  · rw [if_neg hs] at h
    cases h
def stanchionref01_TakeNum.f (a0 : ByteArray) : Option (Int × ByteArray × Int) := if a0.size ≤ 9223372036854775807 then some (takeNum a0) else none
theorem stanchionref01_TakeNum.calls (a0 : ByteArray) (r1 : Int) (r2 : ByteArray) (r3 : Int) (w : World) (h : stanchionref01_TakeNum.f a0 = some (r1, r2, r3)) :
    Calls Tryd.prog 49 #[.string a0] w fun e w' => e = .returned (.tuple #[.int .u64 r1, .string r2, .int .i64 r3]) ∧ Below w.heap.size w w' := by
  unfold stanchionref01_TakeNum.f at h
  by_cases hs : a0.size ≤ 9223372036854775807
  · rw [if_pos hs] at h
    have e := Option.some.inj h
    refine (refTake_calls a0 w hs).mono ?_
    intro e1 w1 hE
    unfold Ends at hE
    rw [e] at hE
    exact hE
  · rw [if_neg hs] at h
    cases h
def dec_Num.f (a0 : Int) : Option (ByteArray) := if 0 ≤ a0 ∧ a0 < 18446744073709551616 then some (numS a0.toNat) else none
theorem dec_Num.calls (a0 : Int) (r : ByteArray) (w : World) (h : dec_Num.f a0 = some r) :
    Calls Tryd.prog 39 #[.int .u64 a0] w fun e w' => e = .returned (.string r) ∧ Below w.heap.size w w' := by
  unfold dec_Num.f at h
  by_cases hs : 0 ≤ a0 ∧ a0 < 18446744073709551616
  · rw [if_pos hs] at h
    have e := Option.some.inj h
    have hv := num_calls a0.toNat w (by omega)
    rw [Int.toNat_of_nonneg hs.1, e] at hv
    exact hv
  · rw [if_neg hs] at h
    cases h
def stanchionref01_Num.f (a0 : Int) : Option (ByteArray) := if 0 ≤ a0 ∧ a0 < 18446744073709551616 then some (numS a0.toNat) else none
theorem stanchionref01_Num.calls (a0 : Int) (r : ByteArray) (w : World) (h : stanchionref01_Num.f a0 = some r) :
    Calls Tryd.prog 42 #[.int .u64 a0] w fun e w' => e = .returned (.string r) ∧ Below w.heap.size w w' := by
  unfold stanchionref01_Num.f at h
  by_cases hs : 0 ≤ a0 ∧ a0 < 18446744073709551616
  · rw [if_pos hs] at h
    have e := Option.some.inj h
    have hv := refNum_calls a0.toNat w (by omega)
    rw [Int.toNat_of_nonneg hs.1, e] at hv
    exact hv
  · rw [if_neg hs] at h
    cases h
def stanchionref01_Text.f (a0 : ByteArray) : Option (ByteArray) := if a0.size ≤ 4611686018427387904 then some (textS a0) else none
theorem stanchionref01_Text.calls (a0 : ByteArray) (r : ByteArray) (w : World) (h : stanchionref01_Text.f a0 = some r) :
    Calls Tryd.prog 43 #[.string a0] w fun e w' => e = .returned (.string r) ∧ Below w.heap.size w w' := by
  unfold stanchionref01_Text.f at h
  by_cases hs : a0.size ≤ 4611686018427387904
  · rw [if_pos hs] at h
    have e := Option.some.inj h
    have hv := refText_calls a0 w hs
    rw [e] at hv
    exact hv
  · rw [if_neg hs] at h
    cases h
end Go.Proofs.YtlpcidjmaeicoaaDoor.QDec
namespace Go.Proofs.YtlpcidjmaeicoaaDoor.QDec
open Go.RowKit Go.Proofs.YtlpcidjmaeicoaaDoorW.PrintWords Go.Proofs.YtlpcidjmaeicoaaDoorW.PrintLast Go.Proofs.YtlpcidjmaeicoaaDoorW.PrintMore
attribute [local go_sem] max2_int min2_int max_two min_two max_three min_three max_four min_four
set_option linter.unusedVariables false
set_option linter.unusedSimpArgs false
end Go.Proofs.YtlpcidjmaeicoaaDoor.QDec
namespace Go.Proofs.YtlpcidjmaeicoaaDoor.QDec
open Go.RowKit Go.Proofs.YtlpcidjmaeicoaaDoorW.PrintWords Go.Proofs.YtlpcidjmaeicoaaDoorW.PrintLast Go.Proofs.YtlpcidjmaeicoaaDoorW.PrintMore
attribute [local go_sem] max2_int min2_int max_two min_two max_three min_three max_four min_four
set_option linter.unusedVariables false
set_option linter.unusedSimpArgs false
def dec_TakeText.j0 : Nat → Int → ByteArray → Bool → Option (ByteArray × ByteArray × Int)
  | 0, _, _, _ => none
  | k + 1, x7, x8, x20 => if x20 = true then (some ((⟨#[]⟩ : ByteArray), (⟨#[]⟩ : ByteArray), 4)) else (if x7 > (IntKind.u64.wrap ((x8.size : Int))) then (some ((⟨#[]⟩ : ByteArray), (⟨#[]⟩ : ByteArray), 2)) else (if 0 ≤ x7 then (if x7 ≤ (x8.size : Int) then (some (x8.extract 0 (x7 : Int).toNat, x8.extract (x7 : Int).toNat x8.size, 0)) else (none)) else (none)))
def dec_TakeText.f (k : Nat) (a0 : ByteArray) (a1 : Int) : Option (ByteArray × ByteArray × Int) := (dec_TakeNum.f a0).bind fun bt101 => (if bt101.2.2 = 0 then (if a1 < 0 then (dec_TakeText.j0 k bt101.1 bt101.2.1 true) else (dec_TakeText.j0 k bt101.1 bt101.2.1 (decide (bt101.1 > (IntKind.u64.wrap (a1)))))) else (some ((⟨#[]⟩ : ByteArray), (⟨#[]⟩ : ByteArray), bt101.2.2)))
set_option maxHeartbeats 8000000 in
set_option maxRecDepth 100000 in
theorem dec_TakeText.calls (k : Nat) (a0 : ByteArray) (a1 : Int) (r1 : ByteArray) (r2 : ByteArray) (r3 : Int) (w : World) (h : dec_TakeText.f k a0 a1 = some (r1, r2, r3)) :
    Calls Tryd.prog 46 #[.string a0, .int .i64 a1] w fun e w' => e = .returned (.tuple #[.string r1, .string r2, .int .i64 r3]) ∧ Below w.heap.size w w' := by
  have HB := Aside0.mk (Below.refl w.heap.size w)
  have H : ((dec_TakeNum.f a0).bind fun bt101 => (if bt101.2.2 = 0 then (if a1 < 0 then (dec_TakeText.j0 k bt101.1 bt101.2.1 true) else (dec_TakeText.j0 k bt101.1 bt101.2.1 (decide (bt101.1 > (IntKind.u64.wrap (a1)))))) else (some ((⟨#[]⟩ : ByteArray), (⟨#[]⟩ : ByteArray), bt101.2.2)))) = some (r1, r2, r3) := h
  clear h
  replace H := Option.bind_eq_some_iff.mp H
  obtain ⟨⟨t101, t102, t103⟩, A30, H⟩ := H
  replace H : (if t103 = 0 then (if a1 < 0 then (dec_TakeText.j0 k t101 t102 true) else (dec_TakeText.j0 k t101 t102 (decide (t101 > (IntKind.u64.wrap (a1)))))) else (some ((⟨#[]⟩ : ByteArray), (⟨#[]⟩ : ByteArray), t103))) = some (r1, r2, r3) := H
  have A3 := Aside0.mk A30
  clear A30
  by_cases c4 : t103 = 0
  · rw [if_pos c4] at H
    have c4b0 : (t103 == 0) = true := beq_iff_eq.mpr c4
    have c4b1 : (t103 != 0) = false := bne_eq_false_iff_eq.mpr c4
    clear c4
    have HC5 := Aside0.mk H
    clear H
    go_enter Tryd.func46, Tryd.ntmps46
    go_upto_region 4 with (first | (go_at_call 44; (with_reducible refine (dec_TakeNum.calls a0 t101 t102 t103 _ A3.out).mono ?_); rintro e w6 ⟨rfl, hb⟩; have n0_ := Aside0.mk (below_step (by repeat (first | (with_reducible first | exact HB.out | apply below_alloc | apply pw_below_drewN | apply below_drew1) | exact HB.out)) hb); clear HB; have HB := n0_; clear n0_; (try clear hb); (try clear hb2); (try clear hk); (try clear hi)))
    repeat (go_quiet (first | (go_at_call 44; (with_reducible refine (dec_TakeNum.calls a0 t101 t102 t103 _ A3.out).mono ?_); rintro e w6 ⟨rfl, hb⟩; have n0_ := Aside0.mk (below_step (by repeat (first | (with_reducible first | exact HB.out | apply below_alloc | apply pw_below_drewN | apply below_drew1) | exact HB.out)) hb); clear HB; have HB := n0_; clear n0_; (try clear hb); (try clear hb2); (try clear hk); (try clear hi))); go_upto_region 4 with (first | (go_at_call 44; (with_reducible refine (dec_TakeNum.calls a0 t101 t102 t103 _ A3.out).mono ?_); rintro e w6 ⟨rfl, hb⟩; have n0_ := Aside0.mk (below_step (by repeat (first | (with_reducible first | exact HB.out | apply below_alloc | apply pw_below_drewN | apply below_drew1) | exact HB.out)) hb); clear HB; have HB := n0_; clear n0_; (try clear hb); (try clear hb2); (try clear hk); (try clear hi))))
    (try simp only [Act.put, List.setIfInBounds_toArray, List.set_cons_zero, List.set_cons_succ])
    go_cut [20] (fun v20 wc => ∃ (kq : Nat) (x20_4 : Bool), v20 = .bool x20_4 ∧ Aside0 (dec_TakeText.j0 kq t101 t102 x20_4 = some (r1, r2, r3)) ∧ Aside0 (kq ≤ k) ∧ Aside0 (Below w.heap.size w wc))
    case first =>
      have H := HC5.out
      clear HC5
      by_cases c7 : a1 < 0
      · rw [if_pos c7] at H
        have c7b0 : decide (a1 < 0) = true := decide_eq_true c7
        clear c7
        (first | rw [c7b0] | (simp only [i64_w, i32_w]; rw [c7b0]) | skip)
        have H' := Aside0.mk H
        clear H
        go_wp2
        repeat (go_quiet (fail); try go_wp2)
        go_meet
        case rel => exact ⟨_, (true), (by first | rfl | (simp; done) | (simp [*]; done)), H', ⟨by first | omega | exact Nat.le_refl _⟩, ⟨by repeat (first | (with_reducible first | exact HB.out | apply below_alloc | apply pw_below_drewN | apply below_drew1) | exact HB.out)⟩⟩
      · rw [if_neg c7] at H
        have c7b0 : decide (a1 < 0) = false := decide_eq_false c7
        clear c7
        (first | rw [c7b0] | (simp only [i64_w, i32_w]; rw [c7b0]) | skip)
        have H' := Aside0.mk H
        clear H
        go_wp2
        repeat (go_quiet (fail); try go_wp2)
        go_meet
        case rel => exact ⟨_, (decide (t101 > (IntKind.u64.wrap (a1)))), (by first | rfl | (simp; done) | (simp [*]; done)), H', ⟨by first | omega | exact Nat.le_refl _⟩, ⟨by repeat (first | (with_reducible first | exact HB.out | apply below_alloc | apply pw_below_drewN | apply below_drew1) | exact HB.out)⟩⟩
    case rest =>
      clear HC5
      try clear p2
      try clear c4
      try clear c4b0
      try clear c4b1
      try clear c7
      try clear c7b0
      obtain ⟨kq, x20_4, rfl, HA, HJ4, HB⟩ := hcut
      cases kq with
      | zero => exact absurd HA.out (by simp [dec_TakeText.j0])
      | succ kj4 =>
        have H := HA.out
        clear HA
        simp only [dec_TakeText.j0] at H
        by_cases c8 : x20_4 = true
        · subst c8
          have H1 : (some ((⟨#[]⟩ : ByteArray), (⟨#[]⟩ : ByteArray), 4)) = some (r1, r2, r3) := by rw [if_pos rfl] at H; exact H
          clear H
          have H := H1
          clear H1
          simp only [Option.some.injEq, Prod.mk.injEq] at H
          obtain ⟨rfl, rfl, rfl⟩ := H
          go_wp2
          repeat (go_quiet (fail); try go_wp2)
          go_ret3
          exact ⟨by first | rfl | (simp [errW_none, errW_some] <;> rfl) | (simp [*, errW_none, errW_some] <;> rfl), by repeat (first | (with_reducible first | exact HB.out | apply below_alloc | apply pw_below_drewN | apply below_drew1) | exact HB.out)⟩
        · replace c8 := Bool.eq_false_iff.mpr c8
          subst c8
          have H1 : (if t101 > (IntKind.u64.wrap ((t102.size : Int))) then (some ((⟨#[]⟩ : ByteArray), (⟨#[]⟩ : ByteArray), 2)) else (if 0 ≤ t101 then (if t101 ≤ (t102.size : Int) then (some (t102.extract 0 (t101 : Int).toNat, t102.extract (t101 : Int).toNat t102.size, 0)) else (none)) else (none))) = some (r1, r2, r3) := by rw [if_neg (show ¬ (false = true) by decide)] at H; exact H
          clear H
          have H := H1
          clear H1
          by_cases c9 : t101 > (IntKind.u64.wrap ((t102.size : Int)))
          · rw [if_pos c9] at H
            have c9b0 : decide ((IntKind.u64.wrap ((t102.size : Int))) < t101) = true := decide_eq_true c9
            clear c9
            simp only [Option.some.injEq, Prod.mk.injEq] at H
            obtain ⟨rfl, rfl, rfl⟩ := H
            go_wp2
            repeat (go_quiet (fail); try go_wp2)
            go_ret3
            exact ⟨by first | rfl | (simp [errW_none, errW_some] <;> rfl) | (simp [*, errW_none, errW_some] <;> rfl), by repeat (first | (with_reducible first | exact HB.out | apply below_alloc | apply pw_below_drewN | apply below_drew1) | exact HB.out)⟩
          · rw [if_neg c9] at H
            have c9b0 : decide ((IntKind.u64.wrap ((t102.size : Int))) < t101) = false := decide_eq_false c9
            clear c9
            by_cases c10 : 0 ≤ t101
            · rw [if_pos c10] at H
              have c10b0 := eq_true c10
              have c10b1 : decide (0 ≤ t101) = true := decide_eq_true c10
              clear c10
              by_cases c11 : t101 ≤ (t102.size : Int)
              · rw [if_pos c11] at H
                have c11b0 := eq_true c11
                have c11b1 : decide (t101 ≤ (t102.size : Int)) = true := decide_eq_true c11
                clear c11
                have c12b0 := eq_true (of_decide_eq_true (by first | (with_reducible assumption) | assumption) : 0 ≤ t101)
                have c13b0 := eq_true (of_decide_eq_true (by first | (with_reducible assumption) | assumption) : t101 ≤ (t102.size : Int))
                simp only [Option.some.injEq, Prod.mk.injEq] at H
                obtain ⟨rfl, rfl, rfl⟩ := H
                go_wp2
                repeat (go_quiet (fail); try go_wp2)
                go_ret3
                exact ⟨by first | rfl | (simp [errW_none, errW_some] <;> rfl) | (simp [*, errW_none, errW_some] <;> rfl), by repeat (first | (with_reducible first | exact HB.out | apply below_alloc | apply pw_below_drewN | apply below_drew1) | exact HB.out)⟩
              · rw [if_neg c11] at H
                exact absurd H (by simp)
            · rw [if_neg c10] at H
              exact absurd H (by simp)
  · rw [if_neg c4] at H
    have c4b0 : (t103 == 0) = false := beq_eq_false_iff_ne.mpr c4
    have c4b1 : (t103 != 0) = true := bne_iff_ne.mpr c4
    simp only [Option.some.injEq, Prod.mk.injEq] at H
    obtain ⟨rfl, rfl, rfl⟩ := H
    go_enter Tryd.func46, Tryd.ntmps46
    go_wp2_with (first | (go_at_call 44; (with_reducible refine (dec_TakeNum.calls a0 t101 t102 t103 _ A3.out).mono ?_); rintro e w14 ⟨rfl, hb⟩; have n0_ := Aside0.mk (below_step (by repeat (first | (with_reducible first | exact HB.out | apply below_alloc | apply pw_below_drewN | apply below_drew1) | exact HB.out)) hb); clear HB; have HB := n0_; clear n0_; (try clear hb); (try clear hb2); (try clear hk); (try clear hi)))
    repeat (go_quiet (first | (go_at_call 44; (with_reducible refine (dec_TakeNum.calls a0 t101 t102 t103 _ A3.out).mono ?_); rintro e w14 ⟨rfl, hb⟩; have n0_ := Aside0.mk (below_step (by repeat (first | (with_reducible first | exact HB.out | apply below_alloc | apply pw_below_drewN | apply below_drew1) | exact HB.out)) hb); clear HB; have HB := n0_; clear n0_; (try clear hb); (try clear hb2); (try clear hk); (try clear hi))); try go_wp2_with (first | (go_at_call 44; (with_reducible refine (dec_TakeNum.calls a0 t101 t102 t103 _ A3.out).mono ?_); rintro e w14 ⟨rfl, hb⟩; have n0_ := Aside0.mk (below_step (by repeat (first | (with_reducible first | exact HB.out | apply below_alloc | apply pw_below_drewN | apply below_drew1) | exact HB.out)) hb); clear HB; have HB := n0_; clear n0_; (try clear hb); (try clear hb2); (try clear hk); (try clear hi))))
    go_ret3
    exact ⟨by first | rfl | (simp [errW_none, errW_some] <;> rfl) | (simp [*, errW_none, errW_some] <;> rfl), by repeat (first | (with_reducible first | exact HB.out | apply below_alloc | apply pw_below_drewN | apply below_drew1) | exact HB.out)⟩
def stanchionref01_TakeText.j0 : Nat → Int → ByteArray → Bool → Option (ByteArray × ByteArray × Int)
  | 0, _, _, _ => none
  | k + 1, x7, x8, x26 => if x26 = true then (some ((⟨#[]⟩ : ByteArray), (⟨#[]⟩ : ByteArray), 4)) else (if x7 > (IntKind.u64.wrap ((x8.size : Int))) then (some ((⟨#[]⟩ : ByteArray), (⟨#[]⟩ : ByteArray), 2)) else (if 0 ≤ x7 then (if x7 ≤ (x8.size : Int) then (some (x8.extract 0 (x7 : Int).toNat, x8.extract (x7 : Int).toNat x8.size, 0)) else (none)) else (none)))
def stanchionref01_TakeText.f (k : Nat) (a0 : ByteArray) (a1 : Int) : Option (ByteArray × ByteArray × Int) := (stanchionref01_TakeNum.f a0).bind fun bt104 => (if bt104.2.2 = 0 then (if a1 < 0 then (stanchionref01_TakeText.j0 k bt104.1 bt104.2.1 true) else (stanchionref01_TakeText.j0 k bt104.1 bt104.2.1 (decide (bt104.1 > (IntKind.u64.wrap (a1)))))) else (some ((⟨#[]⟩ : ByteArray), (⟨#[]⟩ : ByteArray), bt104.2.2)))
set_option maxHeartbeats 8000000 in
set_option maxRecDepth 100000 in
theorem stanchionref01_TakeText.calls (k : Nat) (a0 : ByteArray) (a1 : Int) (r1 : ByteArray) (r2 : ByteArray) (r3 : Int) (w : World) (h : stanchionref01_TakeText.f k a0 a1 = some (r1, r2, r3)) :
    Calls Tryd.prog 50 #[.string a0, .int .i64 a1] w fun e w' => e = .returned (.tuple #[.string r1, .string r2, .int .i64 r3]) ∧ Below w.heap.size w w' := by
  have HB := Aside0.mk (Below.refl w.heap.size w)
  have H : ((stanchionref01_TakeNum.f a0).bind fun bt104 => (if bt104.2.2 = 0 then (if a1 < 0 then (stanchionref01_TakeText.j0 k bt104.1 bt104.2.1 true) else (stanchionref01_TakeText.j0 k bt104.1 bt104.2.1 (decide (bt104.1 > (IntKind.u64.wrap (a1)))))) else (some ((⟨#[]⟩ : ByteArray), (⟨#[]⟩ : ByteArray), bt104.2.2)))) = some (r1, r2, r3) := h
  clear h
  replace H := Option.bind_eq_some_iff.mp H
  obtain ⟨⟨t104, t105, t106⟩, A30, H⟩ := H
  replace H : (if t106 = 0 then (if a1 < 0 then (stanchionref01_TakeText.j0 k t104 t105 true) else (stanchionref01_TakeText.j0 k t104 t105 (decide (t104 > (IntKind.u64.wrap (a1)))))) else (some ((⟨#[]⟩ : ByteArray), (⟨#[]⟩ : ByteArray), t106))) = some (r1, r2, r3) := H
  have A3 := Aside0.mk A30
  clear A30
  by_cases c4 : t106 = 0
  · rw [if_pos c4] at H
    have c4b0 : (t106 == 0) = true := beq_iff_eq.mpr c4
    have c4b1 : (t106 != 0) = false := bne_eq_false_iff_eq.mpr c4
    clear c4
    have HC5 := Aside0.mk H
    clear H
    go_enter Tryd.func50, Tryd.ntmps50
    go_upto_region 4 with (first | (go_at_call 49; (with_reducible refine (stanchionref01_TakeNum.calls a0 t104 t105 t106 _ A3.out).mono ?_); rintro e w6 ⟨rfl, hb⟩; have n0_ := Aside0.mk (below_step (by repeat (first | (with_reducible first | exact HB.out | apply below_alloc | apply pw_below_drewN | apply below_drew1) | exact HB.out)) hb); clear HB; have HB := n0_; clear n0_; (try clear hb); (try clear hb2); (try clear hk); (try clear hi)))
    repeat (go_quiet (first | (go_at_call 49; (with_reducible refine (stanchionref01_TakeNum.calls a0 t104 t105 t106 _ A3.out).mono ?_); rintro e w6 ⟨rfl, hb⟩; have n0_ := Aside0.mk (below_step (by repeat (first | (with_reducible first | exact HB.out | apply below_alloc | apply pw_below_drewN | apply below_drew1) | exact HB.out)) hb); clear HB; have HB := n0_; clear n0_; (try clear hb); (try clear hb2); (try clear hk); (try clear hi))); go_upto_region 4 with (first | (go_at_call 49; (with_reducible refine (stanchionref01_TakeNum.calls a0 t104 t105 t106 _ A3.out).mono ?_); rintro e w6 ⟨rfl, hb⟩; have n0_ := Aside0.mk (below_step (by repeat (first | (with_reducible first | exact HB.out | apply below_alloc | apply pw_below_drewN | apply below_drew1) | exact HB.out)) hb); clear HB; have HB := n0_; clear n0_; (try clear hb); (try clear hb2); (try clear hk); (try clear hi))))
    (try simp only [Act.put, List.setIfInBounds_toArray, List.set_cons_zero, List.set_cons_succ])
    go_cut [26] (fun v26 wc => ∃ (kq : Nat) (x26_4 : Bool), v26 = .bool x26_4 ∧ Aside0 (stanchionref01_TakeText.j0 kq t104 t105 x26_4 = some (r1, r2, r3)) ∧ Aside0 (kq ≤ k) ∧ Aside0 (Below w.heap.size w wc))
    case first =>
      have H := HC5.out
      clear HC5
      by_cases c7 : a1 < 0
      · rw [if_pos c7] at H
        have c7b0 : decide (a1 < 0) = true := decide_eq_true c7
        clear c7
        (first | rw [c7b0] | (simp only [i64_w, i32_w]; rw [c7b0]) | skip)
        have H' := Aside0.mk H
        clear H
        go_wp2
        repeat (go_quiet (fail); try go_wp2)
        go_meet
        case rel => exact ⟨_, (true), (by first | rfl | (simp; done) | (simp [*]; done)), H', ⟨by first | omega | exact Nat.le_refl _⟩, ⟨by repeat (first | (with_reducible first | exact HB.out | apply below_alloc | apply pw_below_drewN | apply below_drew1) | exact HB.out)⟩⟩
      · rw [if_neg c7] at H
        have c7b0 : decide (a1 < 0) = false := decide_eq_false c7
        clear c7
        (first | rw [c7b0] | (simp only [i64_w, i32_w]; rw [c7b0]) | skip)
        have H' := Aside0.mk H
        clear H
        go_wp2
        repeat (go_quiet (fail); try go_wp2)
        go_meet
        case rel => exact ⟨_, (decide (t104 > (IntKind.u64.wrap (a1)))), (by first | rfl | (simp; done) | (simp [*]; done)), H', ⟨by first | omega | exact Nat.le_refl _⟩, ⟨by repeat (first | (with_reducible first | exact HB.out | apply below_alloc | apply pw_below_drewN | apply below_drew1) | exact HB.out)⟩⟩
    case rest =>
      clear HC5
      try clear p2
      try clear c4
      try clear c4b0
      try clear c4b1
      try clear c5
      try clear c7
      try clear c7b0
      obtain ⟨kq, x26_4, rfl, HA, HJ4, HB⟩ := hcut
      cases kq with
      | zero => exact absurd HA.out (by simp [stanchionref01_TakeText.j0])
      | succ kj4 =>
        have H := HA.out
        clear HA
        simp only [stanchionref01_TakeText.j0] at H
        by_cases c8 : x26_4 = true
        · subst c8
          have H1 : (some ((⟨#[]⟩ : ByteArray), (⟨#[]⟩ : ByteArray), 4)) = some (r1, r2, r3) := by rw [if_pos rfl] at H; exact H
          clear H
          have H := H1
          clear H1
          simp only [Option.some.injEq, Prod.mk.injEq] at H
          obtain ⟨rfl, rfl, rfl⟩ := H
          go_wp2
          repeat (go_quiet (fail); try go_wp2)
          go_ret3
          exact ⟨by first | rfl | (simp [errW_none, errW_some] <;> rfl) | (simp [*, errW_none, errW_some] <;> rfl), by repeat (first | (with_reducible first | exact HB.out | apply below_alloc | apply pw_below_drewN | apply below_drew1) | exact HB.out)⟩
        · replace c8 := Bool.eq_false_iff.mpr c8
          subst c8
          have H1 : (if t104 > (IntKind.u64.wrap ((t105.size : Int))) then (some ((⟨#[]⟩ : ByteArray), (⟨#[]⟩ : ByteArray), 2)) else (if 0 ≤ t104 then (if t104 ≤ (t105.size : Int) then (some (t105.extract 0 (t104 : Int).toNat, t105.extract (t104 : Int).toNat t105.size, 0)) else (none)) else (none))) = some (r1, r2, r3) := by rw [if_neg (show ¬ (false = true) by decide)] at H; exact H
          clear H
          have H := H1
          clear H1
          by_cases c9 : t104 > (IntKind.u64.wrap ((t105.size : Int)))
          · rw [if_pos c9] at H
            have c9b0 : decide ((IntKind.u64.wrap ((t105.size : Int))) < t104) = true := decide_eq_true c9
            clear c9
            simp only [Option.some.injEq, Prod.mk.injEq] at H
            obtain ⟨rfl, rfl, rfl⟩ := H
            go_wp2
            repeat (go_quiet (fail); try go_wp2)
            go_ret3
            exact ⟨by first | rfl | (simp [errW_none, errW_some] <;> rfl) | (simp [*, errW_none, errW_some] <;> rfl), by repeat (first | (with_reducible first | exact HB.out | apply below_alloc | apply pw_below_drewN | apply below_drew1) | exact HB.out)⟩
          · rw [if_neg c9] at H
            have c9b0 : decide ((IntKind.u64.wrap ((t105.size : Int))) < t104) = false := decide_eq_false c9
            clear c9
            by_cases c10 : 0 ≤ t104
            · rw [if_pos c10] at H
              have c10b0 := eq_true c10
              have c10b1 : decide (0 ≤ t104) = true := decide_eq_true c10
              clear c10
              by_cases c11 : t104 ≤ (t105.size : Int)
              · rw [if_pos c11] at H
                have c11b0 := eq_true c11
                have c11b1 : decide (t104 ≤ (t105.size : Int)) = true := decide_eq_true c11
                clear c11
                have c12b0 := eq_true (of_decide_eq_true (by first | (with_reducible assumption) | assumption) : 0 ≤ t104)
                have c13b0 := eq_true (of_decide_eq_true (by first | (with_reducible assumption) | assumption) : t104 ≤ (t105.size : Int))
                simp only [Option.some.injEq, Prod.mk.injEq] at H
                obtain ⟨rfl, rfl, rfl⟩ := H
                go_wp2
                repeat (go_quiet (fail); try go_wp2)
                go_ret3
                exact ⟨by first | rfl | (simp [errW_none, errW_some] <;> rfl) | (simp [*, errW_none, errW_some] <;> rfl), by repeat (first | (with_reducible first | exact HB.out | apply below_alloc | apply pw_below_drewN | apply below_drew1) | exact HB.out)⟩
              · rw [if_neg c11] at H
                exact absurd H (by simp)
            · rw [if_neg c10] at H
              exact absurd H (by simp)
  · rw [if_neg c4] at H
    have c4b0 : (t106 == 0) = false := beq_eq_false_iff_ne.mpr c4
    have c4b1 : (t106 != 0) = true := bne_iff_ne.mpr c4
    simp only [Option.some.injEq, Prod.mk.injEq] at H
    obtain ⟨rfl, rfl, rfl⟩ := H
    go_enter Tryd.func50, Tryd.ntmps50
    go_wp2_with (first | (go_at_call 49; (with_reducible refine (stanchionref01_TakeNum.calls a0 t104 t105 t106 _ A3.out).mono ?_); rintro e w14 ⟨rfl, hb⟩; have n0_ := Aside0.mk (below_step (by repeat (first | (with_reducible first | exact HB.out | apply below_alloc | apply pw_below_drewN | apply below_drew1) | exact HB.out)) hb); clear HB; have HB := n0_; clear n0_; (try clear hb); (try clear hb2); (try clear hk); (try clear hi)))
    repeat (go_quiet (first | (go_at_call 49; (with_reducible refine (stanchionref01_TakeNum.calls a0 t104 t105 t106 _ A3.out).mono ?_); rintro e w14 ⟨rfl, hb⟩; have n0_ := Aside0.mk (below_step (by repeat (first | (with_reducible first | exact HB.out | apply below_alloc | apply pw_below_drewN | apply below_drew1) | exact HB.out)) hb); clear HB; have HB := n0_; clear n0_; (try clear hb); (try clear hb2); (try clear hk); (try clear hi))); try go_wp2_with (first | (go_at_call 49; (with_reducible refine (stanchionref01_TakeNum.calls a0 t104 t105 t106 _ A3.out).mono ?_); rintro e w14 ⟨rfl, hb⟩; have n0_ := Aside0.mk (below_step (by repeat (first | (with_reducible first | exact HB.out | apply below_alloc | apply pw_below_drewN | apply below_drew1) | exact HB.out)) hb); clear HB; have HB := n0_; clear n0_; (try clear hb); (try clear hb2); (try clear hk); (try clear hi))))
    go_ret3
    exact ⟨by first | rfl | (simp [errW_none, errW_some] <;> rfl) | (simp [*, errW_none, errW_some] <;> rfl), by repeat (first | (with_reducible first | exact HB.out | apply below_alloc | apply pw_below_drewN | apply below_drew1) | exact HB.out)⟩
end Go.Proofs.YtlpcidjmaeicoaaDoor.QDec
namespace Go.Proofs.YtlpcidjmaeicoaaDoor.QDec
open Go.RowKit Go.Proofs.YtlpcidjmaeicoaaDoorW.PrintWords Go.Proofs.YtlpcidjmaeicoaaDoorW.PrintLast Go.Proofs.YtlpcidjmaeicoaaDoorW.PrintMore
attribute [local go_sem] max2_int min2_int max_two min_two max_three min_three max_four min_four
set_option linter.unusedVariables false
set_option linter.unusedSimpArgs false
end Go.Proofs.YtlpcidjmaeicoaaDoor.QDec
namespace Go.Proofs.YtlpcidjmaeicoaaDoor.DecPure
open Go Go.RowKit Go.Proofs.YtlpcidjmaeicoaaDoor.DecM Go.Proofs.YtlpcidjmaeicoaaDoor.Giv Go.Proofs.YtlpcidjmaeicoaaDoor.QDec Go.Proofs.YtlpcidjmaeicoaaDoorW.PrintWords Go.Proofs.YtlpcidjmaeicoaaDoorW.PrintLast
theorem take_some {s : ByteArray} (h : s.size ≤ 9223372036854775807) : dec_TakeNum.f s = some (takeNum s) := by
  unfold dec_TakeNum.f
  rw [if_pos h]
theorem ref_some {s : ByteArray} (h : s.size ≤ 9223372036854775807) : stanchionref01_TakeNum.f s = some (takeNum s) := by
  unfold stanchionref01_TakeNum.f
  rw [if_pos h]
theorem refn_some {a : Int} (h : 0 ≤ a ∧ a < 18446744073709551616) : stanchionref01_Num.f a = some (numS a.toNat) := by
  unfold stanchionref01_Num.f
  rw [if_pos h]
theorem text_some (k : Nat) (s : ByteArray) (most : Int) (hs : s.size ≤ 9223372036854775807) (hm : most ≤ 9223372036854775807) : dec_TakeText.f (k + 1) s most = some (takeText s most) := by
  obtain ⟨h0, h1, h2⟩ := take_first s
  unfold dec_TakeText.f takeText
  rw [take_some hs]
  simp only [Option.bind_some]
  generalize takeNum s = r at *
  by_cases hz : r.2.2 = 0
  · rw [if_pos hz, if_neg (show ¬ ¬ r.2.2 = 0 from fun h => h hz)]
    have e1 : IntKind.u64.wrap (r.2.1.size : Int) = (r.2.1.size : Int) := by
      rw [IntKind.wrap_u64]
      omega
    by_cases hm0 : most < 0
    · rw [if_pos hm0, if_pos (.inl hm0)]
      simp only [dec_TakeText.j0]
      rw [if_pos trivial]
      rfl
    · have e2 : IntKind.u64.wrap most = most := by
        rw [IntKind.wrap_u64]
        omega
      rw [if_neg hm0]
      simp only [dec_TakeText.j0]
      rw [e1, e2]
      by_cases hb : r.1 > most
      · rw [decide_eq_true hb, if_pos rfl, if_pos (.inr hb)]
        rfl
      · rw [decide_eq_false hb, if_neg (show ¬ (false = true) by decide), if_neg (show ¬ (most < 0 ∨ r.1 > most) from fun h => h.elim hm0 hb)]
        by_cases hl : r.1 > (r.2.1.size : Int)
        · rw [if_pos hl, if_pos hl]
          rfl
        · rw [if_neg hl, if_neg hl, if_pos h0, if_pos (by omega)]
  · rw [if_neg hz, if_pos hz]
    rfl
theorem reft_some (k : Nat) (s : ByteArray) (most : Int) (hs : s.size ≤ 9223372036854775807) (hm : most ≤ 9223372036854775807) : stanchionref01_TakeText.f (k + 1) s most = some (takeText s most) := by
  rw [← text_some k s most hs hm]
  unfold stanchionref01_TakeText.f dec_TakeText.f
  rw [take_some hs, ref_some hs]
  rfl
theorem text_back (t m : ByteArray) (most : Int) (ht : t.size < 18446744073709551616) : takeText (textS t ++ m) most = if most < t.size then (ByteArray.empty, ByteArray.empty, 4) else (t, m, 0) := by
  have e64 := two64_eq
  have hb : takeNum (textS t ++ m) = ((t.size : Int), t ++ m, 0) := by
    unfold textS
    rw [ByteArray.append_assoc]
    exact take_back t.size (by omega) (t ++ m)
  unfold takeText
  rw [hb]
  simp only []
  by_cases h : most < t.size
  · rw [if_neg (by simp), if_pos (by omega), if_pos h]
  · have e1 : (t ++ m).extract 0 t.size = t := by
      apply bytes_ext
      rw [ext_upto, data_append, List.take_append_of_le_length (by rw [len_size]; omega), List.take_of_length_le (by rw [len_size]; omega)]
    have e2 : (t ++ m).extract t.size (t ++ m).size = m := by
      apply bytes_ext
      rw [ext_from, data_append, List.drop_append_of_le_length (by rw [len_size]; omega), List.drop_of_length_le (by rw [len_size]; omega)]
      rfl
    rw [if_neg (by simp), if_neg (by omega), if_neg (by rw [ByteArray.size_append]; omega), if_neg h, Int.toNat_natCast, e1, e2]
theorem takeText_size (s : ByteArray) (most : Int) : (takeText s most).1.size ≤ s.size ∧ (takeText s most).2.1.size ≤ s.size := by
  have hE : ByteArray.empty.size = 0 := rfl
  obtain ⟨_, _, h⟩ := take_first s
  unfold takeText
  by_cases h1 : ¬ (takeNum s).2.2 = 0
  · rw [if_pos h1]
    exact ⟨by rw [hE]; omega, by rw [hE]; omega⟩
  rw [if_neg h1]
  by_cases h2 : most < 0 ∨ (takeNum s).1 > most
  · rw [if_pos h2]
    exact ⟨by rw [hE]; omega, by rw [hE]; omega⟩
  rw [if_neg h2]
  by_cases h3 : (takeNum s).1 > (takeNum s).2.1.size
  · rw [if_pos h3]
    exact ⟨by rw [hE]; omega, by rw [hE]; omega⟩
  rw [if_neg h3]
  simp only [ByteArray.size_extract]
  omega
end Go.Proofs.YtlpcidjmaeicoaaDoor.DecPure
namespace Go.Proofs.YtlpcidjmaeicoaaDoor.Reader
open Go Go.RowKit Go.Proofs.YtlpcidjmaeicoaaDoor.DecM Go.Proofs.YtlpcidjmaeicoaaDoor.Giv Go.Proofs.YtlpcidjmaeicoaaDoor.Err Go.Proofs.YtlpcidjmaeicoaaDoorW.PrintWords Go.Proofs.YtlpcidjmaeicoaaDoorW.PrintLast
structure Only (b : Nat) (w w' : World) : Prop where
  os : w'.os = w.os
  tape : w'.tape = w.tape
  output : w'.output = w.output
  size : w.heap.size ≤ w'.heap.size
  block : ∀ k, k < w.heap.size → k ≠ b → w'.heap[k]? = w.heap[k]?
theorem Only.refl (b : Nat) (w : World) : Only b w w := ⟨rfl, rfl, rfl, Nat.le_refl _, fun _ _ _ => rfl⟩
theorem Only.trans {b : Nat} {w w1 w2 : World} (h : Only b w w1) (k : Only b w1 w2) : Only b w w2 :=
  ⟨k.os.trans h.os, k.tape.trans h.tape, k.output.trans h.output, Nat.le_trans h.size k.size, fun i hi hb => (k.block i (Nat.lt_of_lt_of_le hi h.size) hb).trans (h.block i hi hb)⟩
theorem Only.of_below {b : Nat} {w w' : World} (h : Below w.heap.size w w') : Only b w w' := ⟨h.os, h.tape, h.output, h.size, fun k hk _ => h.block k hk⟩
theorem Only.below {b B : Nat} {w w' : World} (h : Only b w w') (hb : B ≤ b) (hB : B ≤ w.heap.size) : Below B w w' := ⟨h.os, h.tape, h.output, h.size, fun k hk => h.block k (by omega) (by omega)⟩
theorem Only.set {b : Nat} {w w1 : World} (h : Only b w w1) (o : Nat) (u : Value) : Only b w (w1.setCell ⟨b, o, none⟩ u) :=
  ⟨h.os, h.tape, h.output, by simp [World.setCell]; exact h.size, fun k hk hb => (Below.heap_setCell w1 ⟨b, o, none⟩ u k hb).trans (h.block k hk hb)⟩
theorem Only.alloc {b : Nat} {w w1 : World} (h : Only b w w1) (o : Obj) : Only b w (w1.alloc o) :=
  ⟨h.os, h.tape, h.output, by have := h.size; simp; omega, fun k hk hb => (Below.heap_alloc w1 o k (Nat.lt_of_lt_of_le hk h.size)).trans (h.block k hk hb)⟩
theorem Only.cell {b : Nat} {w w' : World} (h : Only b w w') {p : Addr} (hp : p.block < w.heap.size) (hb : p.block ≠ b) : w'.cell? p = w.cell? p := World.cell?_of_block (w := w) (h.block p.block hp hb)
theorem Only.frozen {b : Nat} {w w' : World} (h : Only b w w') {p : Addr} (hp : p.block < w.heap.size) (hb : p.block ≠ b) : w'.frozen? p = w.frozen? p := World.frozen?_of_block (w := w) (h.block p.block hp hb)
theorem Only.fresh {b t : Nat} {w w1 w2 : World} (h : Only b w w1) (k : Only t w1 w2) (ht : w.heap.size ≤ t) : Only b w w2 :=
  ⟨k.os.trans h.os, k.tape.trans h.tape, k.output.trans h.output, Nat.le_trans h.size k.size, fun i hi hb => (k.block i (Nat.lt_of_lt_of_le hi h.size) (by omega)).trans (h.block i hi hb)⟩
theorem cell_lt {w : World} {p : Addr} {v : Value} (h : w.cell? p = some v) : p.block < w.heap.size := by
  rcases Nat.lt_or_ge p.block w.heap.size with h' | h'
  · exact h'
  · simp [World.cell?, Array.getElem?_eq_none h'] at h
theorem set_same {w : World} {a : Addr} {u v : Value} (h : w.cell? a = some u) : (w.setCell a v).cell? a = some v := by
  apply World.cell?_setCell_same
  exact h
theorem set_other {w : World} {b o o' : Nat} {v : Value} (h : o ≠ o') : (w.setCell ⟨b, o, none⟩ v).cell? ⟨b, o', none⟩ = w.cell? ⟨b, o', none⟩ := by
  apply World.cell?_setCell_other
  exact fun e => h (congrArg Addr.off e)
structure RdAt (w : World) (b : Nat) (s : ByteArray) (n : Int) (ev : Value) : Prop where
  c0 : w.cell? ⟨b, 0, none⟩ = some (.string s)
  c1 : w.cell? ⟨b, 1, none⟩ = some (.int .i64 n)
  c2 : w.cell? ⟨b, 2, none⟩ = some ev
  f : ∀ o, w.frozen? ⟨b, o, none⟩ = false
theorem RdAt.below {w w' : World} {b : Nat} {s : ByteArray} {n : Int} {ev : Value} (h : RdAt w b s n ev) (hb : Below w.heap.size w w') : RdAt w' b s n ev := by
  have hl : b < w.heap.size := cell_lt h.c0
  exact ⟨(hb.cell hl).trans h.c0, (hb.cell hl).trans h.c1, (hb.cell hl).trans h.c2, fun o => (hb.frozen (p := ⟨b, o, none⟩) hl).trans (h.f o)⟩
def ErrAt (w : World) (av : List Nat) (ev : Value) : Bool → Prop
  | false => ev = .nilIface
  | true => ∃ (c : Nat) (k : Int), ev = .iface 92 (.pointer (some ⟨c, 0, none⟩)) ∧ c ∉ av ∧ c < w.heap.size ∧ 1 ≤ k ∧ w.cell? ⟨c, 0, none⟩ = some (.int .i64 k) ∧ w.cell? ⟨c, 1, none⟩ = some (.iface 99 (.agg #[]))
theorem ErrAt.only {w w' : World} {b : Nat} {av : List Nat} {ev : Value} {bad : Bool} (h : ErrAt w av ev bad) (hm : b ∈ av) (hb : Only b w w') : ErrAt w' av ev bad := by
  cases bad with
  | false => exact h
  | true =>
    obtain ⟨c, k, e, h1, h2, h3, h4, h5⟩ := h
    have hne : c ≠ b := fun e => h1 (e ▸ hm)
    exact ⟨c, k, e, h1, Nat.lt_of_lt_of_le h2 hb.size, h3, (hb.cell (p := ⟨c, 0, none⟩) h2 hne).trans h4, (hb.cell (p := ⟨c, 1, none⟩) h2 hne).trans h5⟩
structure Rd (w : World) (b : Nat) (av : List Nat) (s : ByteArray) (n : Int) (bad : Bool) : Prop where
  at' : ∃ ev, RdAt w b s n ev ∧ ErrAt w av ev bad
  mem : b ∈ av
  lt : ∀ a ∈ av, a < w.heap.size
theorem Rd.below {w w' : World} {b : Nat} {av : List Nat} {s : ByteArray} {n : Int} {bad : Bool} (h : Rd w b av s n bad) (hb : Below w.heap.size w w') : Rd w' b av s n bad := by
  obtain ⟨⟨ev, h1, h2⟩, h3, h4⟩ := h
  exact ⟨⟨ev, h1.below hb, h2.only h3 (.of_below hb)⟩, h3, fun a ha => Nat.lt_of_lt_of_le (h4 a ha) hb.size⟩
theorem Rd.other {w w' : World} {b t : Nat} {av : List Nat} {s : ByteArray} {n : Int} {bad : Bool} (h : Rd w b av s n bad) (ht : t ∈ av) (hne : t ≠ b) (hb : Only t w w') : Rd w' b av s n bad := by
  obtain ⟨⟨ev, h1, h2⟩, h3, h4⟩ := h
  have hl : b < w.heap.size := cell_lt h1.c0
  exact ⟨⟨ev, ⟨(hb.cell (p := ⟨b, 0, none⟩) hl hne.symm).trans h1.c0, (hb.cell (p := ⟨b, 1, none⟩) hl hne.symm).trans h1.c1, (hb.cell (p := ⟨b, 2, none⟩) hl hne.symm).trans h1.c2, fun o => (hb.frozen (p := ⟨b, o, none⟩) hl hne.symm).trans (h1.f o)⟩, h2.only ht hb⟩, h3, fun a ha => Nat.lt_of_lt_of_le (h4 a ha) hb.size⟩
theorem Rd.push {w : World} {b : Nat} {av : List Nat} {s : ByteArray} {n : Int} {bad : Bool} (h : Rd w b av s n bad) (o : Obj) : Rd (w.alloc o) b (w.heap.size :: av) s n bad := by
  have hz : (w.alloc o).heap.size = w.heap.size + 1 := by simp
  obtain ⟨⟨ev, h1, h2⟩, h3, h4⟩ := h.below ((Below.refl w.heap.size w).alloc (Nat.le_refl _) o)
  obtain ⟨⟨ev0, g1, g2⟩, g3, g4⟩ := h
  have e : ev0 = ev := by
    have hl : b < w.heap.size := cell_lt g1.c0
    have := ((Below.refl w.heap.size w).alloc (Nat.le_refl _) o).cell (p := ⟨b, 2, none⟩) hl
    rw [h1.c2, g1.c2] at this
    exact (Option.some.inj this).symm
  subst e
  refine ⟨⟨ev0, h1, ?_⟩, List.mem_cons_of_mem _ h3, fun a ha => ?_⟩
  · cases bad with
    | false => exact h2
    | true =>
      obtain ⟨c, k, e, k1, k2, k3, k4, k5⟩ := g2
      subst e
      obtain ⟨c', k', e', j1, j2, j3, j4, j5⟩ := h2
      cases e'
      refine ⟨c, k', rfl, ?_, j2, j3, j4, j5⟩
      rw [List.mem_cons]
      rintro (h | h)
      · omega
      · exact j1 h
  · rcases List.mem_cons.mp ha with h | h
    · omega
    · exact h4 a h
theorem Rd.set {w : World} {b : Nat} {av : List Nat} {s : ByteArray} {n : Int} {bad : Bool} (h : Rd w b av s n bad) (s1 : ByteArray) : Rd (w.setCell ⟨b, 0, none⟩ (.string s1)) b av s1 n bad := by
  obtain ⟨⟨ev, h1, h2⟩, h3, h4⟩ := h
  refine ⟨⟨ev, ⟨set_same h1.c0, ?_, ?_, fun o => ?_⟩, h2.only h3 ((Only.refl b w).set 0 _)⟩, h3, fun a ha => ?_⟩
  · rw [set_other (by decide)]
    exact h1.c1
  · rw [set_other (by decide)]
    exact h1.c2
  · rw [World.frozen?_setCell]
    exact h1.f o
  · have := h4 a ha
    simpa [World.setCell] using this
set_option maxHeartbeats 2000000 in
theorem took_calls (b : Nat) (av : List Nat) (s : ByteArray) (n : Int) (bad is : Bool) (w : World) (h : Rd w b av s n bad) (hn : 0 ≤ n ∧ n ≤ 1000000) :
    Calls Tryd.prog 45 #[.pointer (some ⟨b, 0, none⟩), .bool is] w fun e w' => e = .returned (.tuple #[]) ∧ Rd w' b av s (n + 1) (bad || !is) ∧ Only b w w' := by
  obtain ⟨⟨ev, h1, h2⟩, hmem, hlt⟩ := h
  have hl : b < w.heap.size := cell_lt h1.c0
  have HM := Lib.hid hmem
  have HLT := Lib.hid hlt
  clear hmem hlt
  have c0 := h1.c0
  have c1 := h1.c1
  have c2 := h1.c2
  have f1 := h1.f 1
  have f2 := h1.f 2
  have hw : wrap64 (n + 1) = n + 1 := by
    unfold wrap64
    omega
  have HN := Lib.hid hn
  clear hn
  have R1 : RdAt (w.setCell ⟨b, 1, none⟩ (.int .i64 (n + 1))) b s (n + 1) ev := by
    refine ⟨?_, set_same c1, ?_, fun o => ?_⟩
    · rw [set_other (by decide)]
      exact c0
    · rw [set_other (by decide)]
      exact c2
    · rw [World.frozen?_setCell]
      exact h1.f o
  have O1 : Only b w (w.setCell ⟨b, 1, none⟩ (.int .i64 (n + 1))) := (Only.refl b w).set 1 _
  have HR := Lib.hid R1
  have HO := Lib.hid O1
  have HE := Lib.hid h2
  have HLT1 : Hid (∀ a ∈ av, a < (w.setCell ⟨b, 1, none⟩ (.int .i64 (n + 1))).heap.size) := Lib.hid fun a ha => by
    have := HLT.out a ha
    simpa [World.setCell] using this
  clear R1 O1 h1
  cases bad with
  | true =>
    obtain ⟨c, k, rfl, _⟩ := h2
    go_enter Tryd.func45, Tryd.ntmps45
    go_wp2
    go_end0
    exact ⟨rfl, ⟨⟨_, HR.out, HE.out.only HM.out HO.out⟩, HM.out, HLT1.out⟩, HO.out⟩
  | false =>
    cases h2
    cases is with
    | true =>
      go_enter Tryd.func45, Tryd.ntmps45
      go_wp2
      go_end0
      exact ⟨rfl, ⟨⟨_, HR.out, rfl⟩, HM.out, HLT1.out⟩, HO.out⟩
    | false =>
      go_enter Tryd.func45, Tryd.ntmps45
      go_wp2
      go_end0
      have R2 : RdAt ((w.setCell ⟨b, 1, none⟩ (.int .i64 (n + 1))).setCell ⟨b, 2, none⟩ (.iface 92 (.pointer (some ⟨w.heap.size, 0, none⟩)))) b s (n + 1) (.iface 92 (.pointer (some ⟨w.heap.size, 0, none⟩))) := by
        refine ⟨?_, ?_, set_same HR.out.c2, fun o => ?_⟩
        · rw [set_other (by decide)]
          exact HR.out.c0
        · rw [set_other (by decide)]
          exact HR.out.c1
        · rw [World.frozen?_setCell]
          exact HR.out.f o
      have O2 := HO.out.set 2 (.iface 92 (.pointer (some ⟨w.heap.size, 0, none⟩)))
      have hz : ((w.setCell ⟨b, 1, none⟩ (.int .i64 (n + 1))).setCell ⟨b, 2, none⟩ (.iface 92 (.pointer (some ⟨w.heap.size, 0, none⟩)))).heap.size = w.heap.size := by simp
      refine ⟨rfl, ⟨⟨_, R2.below ((Below.refl _ _).alloc (Nat.le_refl _) _), ⟨w.heap.size, n + 1, rfl, fun h => absurd (HLT.out _ h) (Nat.lt_irrefl _), by simp, by have := HN.out; omega, ?_, ?_⟩⟩, HM.out, fun a ha => by have := HLT.out a ha; simp; omega⟩, O2.alloc _⟩
      · rw [World.cell?_alloc_at _ _ _ _ (by simp)]
        rfl
      · rw [World.cell?_alloc_at _ _ _ _ (by simp)]
        rfl
def numR (s : ByteArray) (bad : Bool) (most : Int) : Int × ByteArray × Bool :=
  if bad = true ∨ ¬ (takeNum s).2.2 = 0 ∨ (takeNum s).1 > most then (0, s, true) else ((takeNum s).1, (takeNum s).2.1, false)
def textR (s : ByteArray) (bad : Bool) (most : Int) : ByteArray × ByteArray × Bool :=
  if bad = true ∨ ¬ (takeText s most).2.2 = 0 then (ByteArray.empty, s, true) else ((takeText s most).1, (takeText s most).2.1, false)
theorem takeNum_nonneg (s : ByteArray) : 0 ≤ (takeNum s).1 := by
  unfold takeNum
  simp only []
  repeat' split
  all_goals first | exact Int.le_refl _ | exact Int.natCast_nonneg _
set_option maxHeartbeats 2000000 in
theorem num_calls (b : Nat) (av : List Nat) (s : ByteArray) (n : Int) (bad : Bool) (most : Int) (w : World) (h : Rd w b av s n bad) (hn : 0 ≤ n ∧ n ≤ 1000000) (hs : s.size ≤ 9223372036854775807) (hm : 0 ≤ most ∧ most ≤ 4611686018427387904) :
    Calls Tryd.prog 25 #[.pointer (some ⟨b, 0, none⟩), .int .u64 most] w fun e w' => e = .returned (.int .i64 (numR s bad most).1) ∧ Rd w' b av (numR s bad most).2.1 (n + 1) (numR s bad most).2.2 ∧ Only b w w' := by
  have hv := takeNum_nonneg s
  have HT := Lib.hid fun w => take_calls s w hs
  unfold Ends at HT
  unfold numR
  generalize takeNum s = t at *
  obtain ⟨v, rest, er⟩ := t
  simp only [] at *
  have HH := Lib.hid h
  have HN := Lib.hid hn
  have hwr : wrap64 v = v ∨ most < v := by
    unfold wrap64
    omega
  obtain ⟨⟨ev, h1, h2⟩, hmem, hlt⟩ := h
  have c0 := h1.c0
  clear hmem hlt
  clear hn h1 h2 hs
  cases bad with
  | true =>
    by_cases he : er = 0
    · by_cases hle : v ≤ most
      · subst he
        have cv : decide (v ≤ most) = true := decide_eq_true (by omega)
        rw [if_pos (.inl rfl)]
        have HV := Lib.hid hv
        clear hwr hm hv hle
        go_enter Tryd.func25, Tryd.ntmps25
        go_wp2_with (go_at_call 44; refine (HT.out _).mono ?_)
        rintro e w1 ⟨rfl, hb⟩
        have h3 := HH.out.below hb
        go_wp2_with (go_at_call 45; refine (took_calls b av s n true true _ h3 HN.out).mono ?_)
        rintro e w2 ⟨rfl, h4, o4⟩
        have H4 := Lib.hid h4
        obtain ⟨⟨ev4, R4, E4⟩, hmem, hlt⟩ := h4
        clear hmem hlt
        obtain ⟨c, k, rfl, _⟩ := E4
        have d2 := R4.c2
        clear R4
        go_wp2
        go_ret
        exact ⟨rfl, H4.out, (Only.of_below hb).trans o4⟩
      · subst he
        have cv : decide (v ≤ most) = false := decide_eq_false (by omega)
        rw [if_pos (.inl rfl)]
        have HV := Lib.hid hv
        clear hwr hm hv hle
        go_enter Tryd.func25, Tryd.ntmps25
        go_wp2_with (go_at_call 44; refine (HT.out _).mono ?_)
        rintro e w1 ⟨rfl, hb⟩
        have h3 := HH.out.below hb
        go_wp2_with (go_at_call 45; refine (took_calls b av s n true false _ h3 HN.out).mono ?_)
        rintro e w2 ⟨rfl, h4, o4⟩
        have H4 := Lib.hid h4
        obtain ⟨⟨ev4, R4, E4⟩, hmem, hlt⟩ := h4
        clear hmem hlt
        obtain ⟨c, k, rfl, _⟩ := E4
        have d2 := R4.c2
        clear R4
        go_wp2
        go_ret
        exact ⟨rfl, H4.out, (Only.of_below hb).trans o4⟩
    · have cb : (er == 0) = false := beq_eq_false_iff_ne.mpr he
      have HX := Lib.hid he
      clear he
      rw [if_pos (.inl rfl)]
      have HV := Lib.hid hv
      clear hwr hm hv
      go_enter Tryd.func25, Tryd.ntmps25
      go_wp2_with (go_at_call 44; refine (HT.out _).mono ?_)
      rintro e w1 ⟨rfl, hb⟩
      have h3 := HH.out.below hb
      go_wp2_with (go_at_call 45; refine (took_calls b av s n true false _ h3 HN.out).mono ?_)
      rintro e w2 ⟨rfl, h4, o4⟩
      have H4 := Lib.hid h4
      obtain ⟨⟨ev4, R4, E4⟩, hmem, hlt⟩ := h4
      clear hmem hlt
      obtain ⟨c, k, rfl, _⟩ := E4
      have d2 := R4.c2
      clear R4
      go_wp2
      go_ret
      exact ⟨rfl, H4.out, (Only.of_below hb).trans o4⟩
  | false =>
    by_cases he : er = 0
    · by_cases hle : v ≤ most
      · subst he
        have cv : decide (v ≤ most) = true := decide_eq_true (by omega)
        have HWE : Hid (wrap64 v = v) := Lib.hid (by omega)
        rw [if_neg (by simp; omega)]
        have HV := Lib.hid hv
        clear hwr hm hv hle
        go_enter Tryd.func25, Tryd.ntmps25
        go_wp2_with (go_at_call 44; refine (HT.out _).mono ?_)
        rintro e w1 ⟨rfl, hb⟩
        have h3 := HH.out.below hb
        go_wp2_with (go_at_call 45; refine (took_calls b av s n false true _ h3 HN.out).mono ?_)
        rintro e w2 ⟨rfl, h4, o4⟩
        have H4 := Lib.hid h4
        obtain ⟨⟨ev4, R4, E4⟩, hmem, hlt⟩ := h4
        clear hmem hlt
        obtain rfl : ev4 = .nilIface := E4
        have d0 := R4.c0
        have d2 := R4.c2
        have g0 := R4.f 0
        clear R4
        go_wp2
        go_ret
        refine ⟨?_, H4.out.set rest, ((Only.of_below hb).trans o4).set 0 _⟩
        show Ending.returned (.int .i64 (wrap64 v)) = _
        rw [HWE.out]
      · subst he
        have cv : decide (v ≤ most) = false := decide_eq_false (by omega)
        rw [if_pos (.inr (.inr (by omega)))]
        have HV := Lib.hid hv
        clear hwr hm hv hle
        go_enter Tryd.func25, Tryd.ntmps25
        go_wp2_with (go_at_call 44; refine (HT.out _).mono ?_)
        rintro e w1 ⟨rfl, hb⟩
        have h3 := HH.out.below hb
        go_wp2_with (go_at_call 45; refine (took_calls b av s n false false _ h3 HN.out).mono ?_)
        rintro e w2 ⟨rfl, h4, o4⟩
        have H4 := Lib.hid h4
        obtain ⟨⟨ev4, R4, E4⟩, hmem, hlt⟩ := h4
        clear hmem hlt
        obtain ⟨c, k, rfl, _⟩ := E4
        have d2 := R4.c2
        clear R4
        go_wp2
        go_ret
        exact ⟨rfl, H4.out, (Only.of_below hb).trans o4⟩
    · have cb : (er == 0) = false := beq_eq_false_iff_ne.mpr he
      have HX := Lib.hid he
      clear he
      rw [if_pos (.inr (.inl HX.out))]
      have HV := Lib.hid hv
      clear hwr hm hv
      go_enter Tryd.func25, Tryd.ntmps25
      go_wp2_with (go_at_call 44; refine (HT.out _).mono ?_)
      rintro e w1 ⟨rfl, hb⟩
      have h3 := HH.out.below hb
      go_wp2_with (go_at_call 45; refine (took_calls b av s n false false _ h3 HN.out).mono ?_)
      rintro e w2 ⟨rfl, h4, o4⟩
      have H4 := Lib.hid h4
      obtain ⟨⟨ev4, R4, E4⟩, hmem, hlt⟩ := h4
      clear hmem hlt
      obtain ⟨c, k, rfl, _⟩ := E4
      have d2 := R4.c2
      clear R4
      go_wp2
      go_ret
      exact ⟨rfl, H4.out, (Only.of_below hb).trans o4⟩
set_option maxHeartbeats 2000000 in
theorem text_calls (b : Nat) (av : List Nat) (s : ByteArray) (n : Int) (bad : Bool) (most : Int) (w : World) (h : Rd w b av s n bad) (hn : 0 ≤ n ∧ n ≤ 1000000) (hs : s.size ≤ 9223372036854775807) (hm : 0 ≤ most ∧ most ≤ 4611686018427387904) :
    Calls Tryd.prog 26 #[.pointer (some ⟨b, 0, none⟩), .int .i64 most] w fun e w' => e = .returned (.string (textR s bad most).1) ∧ Rd w' b av (textR s bad most).2.1 (n + 1) (textR s bad most).2.2 ∧ Only b w w' := by
  have HT := Lib.hid fun w => QDec.dec_TakeText.calls 1 s most (takeText s most).1 (takeText s most).2.1 (takeText s most).2.2 w (DecPure.text_some 0 s most hs (by omega))
  unfold textR
  generalize takeText s most = t at *
  obtain ⟨v, rest, er⟩ := t
  simp only [] at *
  have HH := Lib.hid h
  have HN := Lib.hid hn
  obtain ⟨⟨ev, h1, h2⟩, hmem, hlt⟩ := h
  have c0 := h1.c0
  clear hmem hlt
  clear hn h1 h2 hs hm
  cases bad with
  | true =>
    by_cases he : er = 0
    · subst he
      rw [if_pos (.inl rfl)]
      go_enter Tryd.func26, Tryd.ntmps26
      go_wp2_with (go_at_call 46; refine (HT.out _).mono ?_)
      rintro e w1 ⟨rfl, hb⟩
      have h3 := HH.out.below hb
      go_wp2_with (go_at_call 45; refine (took_calls b av s n true true _ h3 HN.out).mono ?_)
      rintro e w2 ⟨rfl, h4, o4⟩
      have H4 := Lib.hid h4
      obtain ⟨⟨ev4, R4, E4⟩, hmem, hlt⟩ := h4
      clear hmem hlt
      obtain ⟨c, k, rfl, _⟩ := E4
      have d2 := R4.c2
      clear R4
      go_wp2
      go_ret
      exact ⟨rfl, H4.out, (Only.of_below hb).trans o4⟩
    · have cb : (er == 0) = false := beq_eq_false_iff_ne.mpr he
      have HX := Lib.hid he
      clear he
      rw [if_pos (.inl rfl)]
      go_enter Tryd.func26, Tryd.ntmps26
      go_wp2_with (go_at_call 46; refine (HT.out _).mono ?_)
      rintro e w1 ⟨rfl, hb⟩
      have h3 := HH.out.below hb
      go_wp2_with (go_at_call 45; refine (took_calls b av s n true false _ h3 HN.out).mono ?_)
      rintro e w2 ⟨rfl, h4, o4⟩
      have H4 := Lib.hid h4
      obtain ⟨⟨ev4, R4, E4⟩, hmem, hlt⟩ := h4
      clear hmem hlt
      obtain ⟨c, k, rfl, _⟩ := E4
      have d2 := R4.c2
      clear R4
      go_wp2
      go_ret
      exact ⟨rfl, H4.out, (Only.of_below hb).trans o4⟩
  | false =>
    by_cases he : er = 0
    · subst he
      rw [if_neg (by simp)]
      go_enter Tryd.func26, Tryd.ntmps26
      go_wp2_with (go_at_call 46; refine (HT.out _).mono ?_)
      rintro e w1 ⟨rfl, hb⟩
      have h3 := HH.out.below hb
      go_wp2_with (go_at_call 45; refine (took_calls b av s n false true _ h3 HN.out).mono ?_)
      rintro e w2 ⟨rfl, h4, o4⟩
      have H4 := Lib.hid h4
      obtain ⟨⟨ev4, R4, E4⟩, hmem, hlt⟩ := h4
      clear hmem hlt
      obtain rfl : ev4 = .nilIface := E4
      have d0 := R4.c0
      have d2 := R4.c2
      have g0 := R4.f 0
      clear R4
      go_wp2
      go_ret
      exact ⟨rfl, H4.out.set rest, ((Only.of_below hb).trans o4).set 0 _⟩
    · have cb : (er == 0) = false := beq_eq_false_iff_ne.mpr he
      have HX := Lib.hid he
      clear he
      rw [if_pos (.inr HX.out)]
      go_enter Tryd.func26, Tryd.ntmps26
      go_wp2_with (go_at_call 46; refine (HT.out _).mono ?_)
      rintro e w1 ⟨rfl, hb⟩
      have h3 := HH.out.below hb
      go_wp2_with (go_at_call 45; refine (took_calls b av s n false false _ h3 HN.out).mono ?_)
      rintro e w2 ⟨rfl, h4, o4⟩
      have H4 := Lib.hid h4
      obtain ⟨⟨ev4, R4, E4⟩, hmem, hlt⟩ := h4
      clear hmem hlt
      obtain ⟨c, k, rfl, _⟩ := E4
      have d2 := R4.c2
      clear R4
      go_wp2
      go_ret
      exact ⟨rfl, H4.out, (Only.of_below hb).trans o4⟩
def Handle (w : World) : Prop := w.cell? ⟨0, 0, none⟩ = some (.iface 129 (.agg #[.pointer (some ⟨1, 58, none⟩)]))
theorem Handle.below {w w' : World} (h : Handle w) (hb : Below w.heap.size w w') : Handle w' := (hb.cell (p := ⟨0, 0, none⟩) (cell_lt h)).trans h
theorem Handle.only {w w' : World} {b : Nat} (h : Handle w) (hb : Only b w w') (h0 : b ≠ 0) : Handle w' := (hb.cell (p := ⟨0, 0, none⟩) (cell_lt h) (fun e => h0 e.symm)).trans h
theorem as_only (e : Addr) (t : Nat) (w : World) (hg : Handle w) (ht : w.cell? ⟨t, 0, none⟩ = some (.pointer none)) (hf : w.frozen? ⟨t, 0, none⟩ = false) :
    Calls Tryd.prog 47 #[.iface 92 (.pointer (some e)), .iface 94 (.pointer (some ⟨t, 0, none⟩))] w fun ev w' => ev = .returned (.bool true) ∧ Only t w w' ∧ w'.cell? ⟨t, 0, none⟩ = some (.pointer (some e)) := by
  refine (as_hit e ⟨t, 0, none⟩ (.pointer none) w hg ht hf).mono ?_
  rintro ev w' ⟨rfl, rfl⟩
  have hl : t < w.heap.size := cell_lt ht
  refine ⟨rfl, (((((Only.refl t w).alloc _).alloc _).alloc _).alloc _).set 0 _, set_same (u := .pointer none) ?_⟩
  rw [World.cell?_alloc_lt _ _ _ (by simp; omega), World.cell?_alloc_lt _ _ _ (by simp; omega), World.cell?_alloc_lt _ _ _ (by simp; omega), World.cell?_alloc_lt _ _ _ hl]
  exact ht
theorem empty_iff (s : ByteArray) : s.toList.isEmpty = decide (s.size = 0) := by
  rw [← decide_eq_emptyBytes]
  exact decide_eq_decide.mpr ByteArray.size_eq_zero_iff.symm
set_option maxHeartbeats 4000000 in
theorem end_calls (b : Nat) (av : List Nat) (s : ByteArray) (n : Int) (bad : Bool) (w : World) (hg : Handle w) (hb0 : b ≠ 0) (h : Rd w b av s n bad) (hn : 0 ≤ n ∧ n ≤ 1000000) :
    Calls Tryd.prog 27 #[.pointer (some ⟨b, 0, none⟩)] w fun e w' => e = .returned (.int .i64 (if bad = true ∨ ¬ s.size = 0 then 3 else 0)) ∧ Only b w w' := by
  have HH := Lib.hid h
  have HN := Lib.hid hn
  have HG := Lib.hid hg
  have HB := Lib.hid hb0
  obtain ⟨⟨ev, h1, h2⟩, hmem, hlt⟩ := h
  have c0 := h1.c0
  clear hmem hlt
  clear hn h1 h2 hg hb0
  by_cases hc : bad = true ∨ ¬ s.size = 0
  · rw [if_pos hc]
    go_enter Tryd.func27, Tryd.ntmps27
    go_wp2_with (go_at_call 45; refine (took_calls b av s n bad _ _ HH.out HN.out).mono ?_)
    rintro e w1 ⟨rfl, ⟨⟨ev1, R1, E1⟩, hmem, hlt⟩, o4⟩
    clear hmem hlt
    rw [empty_iff] at E1
    have hl : b < w1.heap.size := cell_lt R1.c0
    have b2 := (Below.refl w1.heap.size w1).alloc (Nat.le_refl _) (.cells #[.pointer none] 92)
    have R2 := R1.below b2
    have o2 : Only b w (w1.alloc (.cells #[.pointer none] 92)) := o4.alloc _
    have HO := Lib.hid o2
    have HS := Lib.hid o4.size
    have d2 := R2.c2
    have hv : (bad || !decide (s.size = 0)) = true := by
      rcases hc with h | h
      · rw [h]
        rfl
      · rw [decide_eq_false h, Bool.not_false, Bool.or_true]
    rw [hv] at E1
    obtain ⟨c, k, rfl, e1, e2, e3, e4, e5⟩ := E1
    have hg2 : Handle (w1.alloc (.cells #[.pointer none] 92)) := HG.out.only o2 HB.out
    have HA := Lib.hid (as_only ⟨c, 0, none⟩ w1.heap.size _ hg2 (by simp) (by simp))
    have HD := Lib.hid d2
    have e4' := (b2.cell (p := ⟨c, 0, none⟩) e2).trans e4
    have e5' := (b2.cell (p := ⟨c, 1, none⟩) e2).trans e5
    have HX := Lib.hid (And.intro e2 (And.intro e3 (And.intro e4' e5')))
    have HL := Lib.hid hl
    clear hg2 R1 R2 o2 o4 b2 e1 e2 e3 e4 e5 e4' e5' hl hv hc
    go_wp2_with (go_at_call 47; refine HA.out.mono ?_)
    rintro e w3 ⟨rfl, o3, t3⟩
    have g4 := (o3.cell (p := ⟨c, 0, none⟩) (by have := HX.out.1; simp; omega) (by have := HX.out.1; simp; omega)).trans HX.out.2.2.1
    have g5 := (o3.cell (p := ⟨c, 1, none⟩) (by have := HX.out.1; simp; omega) (by have := HX.out.1; simp; omega)).trans HX.out.2.2.2
    have g2 := (o3.cell (p := ⟨b, 2, none⟩) (by have := HL.out; simp; omega) (by have := HL.out; simp; omega)).trans HD.out
    have hk : decide (0 < k) = true := decide_eq_true (by have := HX.out.2.1; omega)
    have HO3 := Lib.hid o3
    clear o3
    go_wp2_with (go_at_call 48; refine (is_hit c _ g5).mono ?_)
    rintro e w4 ⟨rfl, rfl⟩
    go_wp2
    go_ret
    exact ⟨rfl, HO.out.fresh HO3.out HS.out⟩
  · rw [if_neg hc]
    have hb : bad = false := by
      cases bad with
      | true => exact absurd (.inl rfl) hc
      | false => rfl
    have hv : (bad || !decide (s.size = 0)) = false := by
      rw [hb, decide_eq_true (Classical.not_not.mp fun h => hc (.inr h))]
      rfl
    clear hc hb
    go_enter Tryd.func27, Tryd.ntmps27
    go_wp2_with (go_at_call 45; refine (took_calls b av s n bad _ _ HH.out HN.out).mono ?_)
    rintro e w1 ⟨rfl, ⟨⟨ev1, R1, E1⟩, hmem, hlt⟩, o4⟩
    clear hmem hlt
    rw [empty_iff, hv] at E1
    obtain rfl : ev1 = .nilIface := E1
    have b2 := (Below.refl w1.heap.size w1).alloc (Nat.le_refl _) (.cells #[.pointer none] 92)
    have d2 := (R1.below b2).c2
    have HO := Lib.hid (o4.alloc (.cells #[.pointer none] 92))
    clear R1 b2 o4 hv
    go_wp2_with (go_at_call 47; refine (as_nil _ _).mono ?_)
    rintro e w3 ⟨rfl, rfl⟩
    go_wp2
    go_ret
    exact ⟨rfl, HO.out⟩
end Go.Proofs.YtlpcidjmaeicoaaDoor.Reader
namespace Go.Proofs.YtlpcidjmaeicoaaDoor.Reader
open Go Go.RowKit Go.Proofs.YtlpcidjmaeicoaaDoor.DecM Go.Proofs.YtlpcidjmaeicoaaDoor.Giv Go.Proofs.YtlpcidjmaeicoaaDoor.Err Go.Proofs.YtlpcidjmaeicoaaDoorW.PrintWords Go.Proofs.YtlpcidjmaeicoaaDoorW.PrintLast
structure CellsAt (w : World) (b : Nat) (l : List Value) : Prop where
  c : ∀ (j : Nat) (h : j < l.length), w.cell? ⟨b, j, none⟩ = some l[j]
  f : ∀ o, w.frozen? ⟨b, o, none⟩ = false
theorem CellsAt.only {w w' : World} {b t : Nat} {l : List Value} (h : CellsAt w b l) (hl : 0 < l.length) (k : Only t w w') (hne : b ≠ t) : CellsAt w' b l := by
  have hb : b < w.heap.size := cell_lt (h.c 0 hl)
  exact ⟨fun j hj => (k.cell (p := ⟨b, j, none⟩) hb hne).trans (h.c j hj), fun o => (k.frozen (p := ⟨b, o, none⟩) hb hne).trans (h.f o)⟩
theorem CellsAt.set {w : World} {b : Nat} {l : List Value} (h : CellsAt w b l) (j : Nat) (hj : j < l.length) (v : Value) : CellsAt (w.setCell ⟨b, j, none⟩ v) b (l.set j v) := by
  refine ⟨fun i hi => ?_, fun o => ?_⟩
  · rw [List.length_set] at hi
    by_cases e : j = i
    · subst e
      rw [set_same (h.c j hj), List.getElem_set_self]
    · rw [set_other e, h.c i hi, List.getElem_set_ne e]
  · rw [World.frozen?_setCell]
    exact h.f o
theorem Rd.sub {w : World} {b : Nat} {av av' : List Nat} {s : ByteArray} {n : Int} {bad : Bool} (h : Rd w b av s n bad) (hm : b ∈ av') (hs : ∀ a ∈ av', a ∈ av) : Rd w b av' s n bad := by
  obtain ⟨⟨ev, h1, h2⟩, h3, h4⟩ := h
  refine ⟨⟨ev, h1, ?_⟩, hm, fun a ha => h4 a (hs a ha)⟩
  cases bad with
  | false => exact h2
  | true =>
    obtain ⟨c, k, e, k1, k2⟩ := h2
    exact ⟨c, k, e, fun hc => k1 (hs c hc), k2⟩
structure St (w0 : World) (r q : Nat) (ks : List (Nat × List Value)) (w : World) (s : ByteArray) (n : Int) (bad : Bool) (cq : List Value) : Prop where
  rd : Rd w r (ks.map Prod.fst ++ [q, r]) s n bad
  bel : Below w0.heap.size w0 w
  hg : Handle w
  qc : CellsAt w q cq
  kc : ∀ x ∈ ks, CellsAt w x.1 x.2 ∧ 0 < x.2.length ∧ x.1 ≠ r ∧ x.1 ≠ q
  hq : 0 < cq.length
  r0 : w0.heap.size ≤ r
  q0 : w0.heap.size ≤ q
  qr : q ≠ r
  w00 : 0 < w0.heap.size
theorem St.call {w0 w w' : World} {r q : Nat} {ks : List (Nat × List Value)} {s s' : ByteArray} {n n' : Int} {bad bad' : Bool} {cq : List Value} (h : St w0 r q ks w s n bad cq) (hr : Rd w' r (ks.map Prod.fst ++ [q, r]) s' n' bad') (ho : Only r w w') : St w0 r q ks w' s' n' bad' cq :=
  ⟨hr, h.bel.trans (ho.below h.r0 h.bel.size), h.hg.only ho (by have := h.r0; have := h.w00; omega), h.qc.only h.hq ho h.qr, fun x hx => ⟨(h.kc x hx).1.only (h.kc x hx).2.1 ho (h.kc x hx).2.2.1, (h.kc x hx).2⟩, h.hq, h.r0, h.q0, h.qr, h.w00⟩
theorem St.store {w0 w : World} {r q : Nat} {ks : List (Nat × List Value)} {s : ByteArray} {n : Int} {bad : Bool} {cq : List Value} (h : St w0 r q ks w s n bad cq) (j : Nat) (hj : j < cq.length) (v : Value) : St w0 r q ks (w.setCell ⟨q, j, none⟩ v) s n bad (cq.set j v) := by
  have ho : Only q w (w.setCell ⟨q, j, none⟩ v) := (Only.refl q w).set j v
  exact ⟨h.rd.other (t := q) (by simp) h.qr ho, h.bel.setCell h.q0 v, h.hg.only ho (by have := h.q0; have := h.w00; omega), h.qc.set j hj v, fun x hx => ⟨(h.kc x hx).1.only (h.kc x hx).2.1 ho (h.kc x hx).2.2.2, (h.kc x hx).2⟩, by rw [List.length_set]; exact h.hq, h.r0, h.q0, h.qr, h.w00⟩
theorem CellsAt.below {w w' : World} {b : Nat} {l : List Value} (h : CellsAt w b l) (hl : 0 < l.length) (k : Below w.heap.size w w') : CellsAt w' b l := by
  have hb : b < w.heap.size := cell_lt (h.c 0 hl)
  exact ⟨fun j hj => (k.cell (p := ⟨b, j, none⟩) hb).trans (h.c j hj), fun o => (k.frozen (p := ⟨b, o, none⟩) hb).trans (h.f o)⟩
theorem cells_new (w : World) (l : Array Value) (t : TypeId) : CellsAt (w.alloc (.cells l t)) w.heap.size l.toList := by
  refine ⟨fun j hj => ?_, fun o => by simp⟩
  rw [World.cell?_alloc_new]
  simp
theorem St.push {w0 w : World} {r q : Nat} {ks : List (Nat × List Value)} {s : ByteArray} {n : Int} {bad : Bool} {cq : List Value} (h : St w0 r q ks w s n bad cq) (l : Array Value) (t : TypeId) (hl : 0 < l.toList.length) : St w0 r q ((w.heap.size, l.toList) :: ks) (w.alloc (.cells l t)) s n bad cq := by
  have hb := (Below.refl w.heap.size w).alloc (Nat.le_refl _) (.cells l t)
  have hqw : q < w.heap.size := cell_lt (h.qc.c 0 h.hq)
  have hrw : r < w.heap.size := h.rd.lt r h.rd.mem
  refine ⟨h.rd.push _, h.bel.trans (hb.mono h.bel.size), h.hg.below hb, h.qc.below h.hq hb, fun x hx => ?_, h.hq, h.r0, h.q0, h.qr, h.w00⟩
  rcases List.mem_cons.mp hx with e | e
  · subst e
    exact ⟨cells_new w l t, hl, by dsimp only; omega, by dsimp only; omega⟩
  · exact ⟨(h.kc x e).1.below (h.kc x e).2.1 hb, (h.kc x e).2⟩
theorem numR_size (s : ByteArray) (bad : Bool) (most : Int) : (numR s bad most).2.1.size ≤ s.size := by
  unfold numR
  split
  · exact Nat.le_refl _
  · exact (take_first s).2.2
theorem textR_size (s : ByteArray) (bad : Bool) (most : Int) : (textR s bad most).2.1.size ≤ s.size := by
  unfold textR
  split
  · exact Nat.le_refl _
  · exact (DecPure.takeText_size s most).2
theorem St.swap {w0 w : World} {r q q' : Nat} {s : ByteArray} {n : Int} {bad : Bool} {cq l : List Value} (h : St w0 r q [(q', l)] w s n bad cq) (hq0 : w0.heap.size ≤ q') : St w0 r q' [(q, cq)] w s n bad l := by
  have h1 := h.kc (q', l) (List.mem_cons_self ..)
  refine ⟨h.rd.sub (by simp) (fun a ha => ?_), h.bel, h.hg, h1.1, fun x hx => ?_, h1.2.1, h.r0, hq0, h1.2.2.1, h.w00⟩
  · simp at ha ⊢
    rcases ha with e | e | e
    · exact .inr (.inl e)
    · exact .inl e
    · exact .inr (.inr e)
  · rw [List.mem_singleton] at hx
    subst hx
    exact ⟨h.qc, h.hq, h.qr, fun e => h1.2.2.2 e.symm⟩
theorem results_cell_tmp {fn : Func} {t u : Tmp} {ty : TypeId} (h : fn.results = #[.cell t ty, .tmp u]) (tmps : Array Value) (P : Program) (w : World) (a : Addr) (v : Value) (ha : tmps.getD t undef = .pointer (some a)) (hl : (loadVar ty a).run P w = .ok v w) :
    (results fn tmps).run P w = .ok (.tuple #[v, tmps.getD u undef]) w := by
  have ha' : tmps[t]?.getD undef = .pointer (some a) := by simpa using ha
  simp [results, h, ha', asAddr, hl, Result.andThen]
theorem start_st (w : World) (s : ByteArray) (z : Array Value) (t : TypeId) (hz0 : 0 < z.toList.length) (hg : Handle w) : St w (w.heap.size + 1) w.heap.size [] ((w.alloc (.cells z t)).alloc (.cells #[.string s, .int .i64 0, .nilIface] 60)) s 0 false z.toList := by
  have h00 : 0 < w.heap.size := Nat.lt_of_le_of_lt (Nat.zero_le _) (cell_lt hg)
  have b1 := (Below.refl w.heap.size w).alloc (Nat.le_refl _) (.cells z t)
  have hz : (w.alloc (.cells z t)).heap.size = w.heap.size + 1 := by simp
  have b2 := (Below.refl (w.alloc (.cells z t)).heap.size (w.alloc (.cells z t))).alloc (Nat.le_refl _) (.cells #[.string s, .int .i64 0, .nilIface] 60)
  have R := cells_new (w.alloc (.cells z t)) #[.string s, .int .i64 0, .nilIface] 60
  rw [hz] at R
  refine ⟨⟨⟨.nilIface, ⟨R.c 0 (by simp), R.c 1 (by simp), R.c 2 (by simp), R.f⟩, rfl⟩, by simp, fun a ha => ?_⟩, b1.trans (b2.mono (by omega)), (hg.below b1).below b2, (cells_new w z t).below hz0 b2, fun x hx => (by cases hx), hz0, by omega, Nat.le_refl _, by omega, h00⟩
  simp only [List.map_nil, List.nil_append, List.mem_cons, List.not_mem_nil, or_false] at ha
  have hz2 : ((w.alloc (.cells z t)).alloc (.cells #[.string s, .int .i64 0, .nilIface] 60)).heap.size = w.heap.size + 2 := by simp
  omega
end Go.Proofs.YtlpcidjmaeicoaaDoor.Reader
namespace Go.Proofs.YtlpcidjmaeicoaaDoor.Reader
open Go Go.RowKit
def nx {α : Type} (x : ByteArray × Bool) (m : Int) (f : Int → ByteArray × Bool → α) : α := f (numR x.1 x.2 m).1 (numR x.1 x.2 m).2
def tx {α : Type} (x : ByteArray × Bool) (m : Int) (f : ByteArray → ByteArray × Bool → α) : α := f (textR x.1 x.2 m).1 (textR x.1 x.2 m).2
theorem nx_of {α : Type} {x : ByteArray × Bool} {m : Int} {v : Int × ByteArray × Bool} (f : Int → ByteArray × Bool → α) (h : numR x.1 x.2 m = v) : nx x m f = f v.1 v.2 := by
  subst h
  rfl
theorem tx_of {α : Type} {x : ByteArray × Bool} {m : Int} {v : ByteArray × ByteArray × Bool} (f : ByteArray → ByteArray × Bool → α) (h : textR x.1 x.2 m = v) : tx x m f = f v.1 v.2 := by
  subst h
  rfl
end Go.Proofs.YtlpcidjmaeicoaaDoor.Reader
namespace Go.Proofs.YtlpcidjmaeicoaaDoor.Build
open Go Go.RowKit
theorem sizeBuilder : (Tryd.prog.info? 81).map (·.size) = some 2 := by kernel_rfl
theorem liesBuilder : liesAt Tryd.prog Tryd.prog.depth 81 (2 / Tryd.prog.cellsOf 81) 0 81 1 = true := by kernel_rfl
theorem infoByte : (Tryd.prog.info? 5).map (fun i => (i.zero, i.size, i.bytes)) = some (some (.int .u8 0), 1, 1) := by kernel_rfl
set_option maxHeartbeats 1000000 in
set_option maxRecDepth 100000 in
theorem copyCheck_used (b : Nat) (w : World) (h0 : w.cell? ⟨b, 0, none⟩ = some (.pointer (some ⟨b, 0, none⟩))) :
    Calls Tryd.prog 55 #[.pointer (some ⟨b, 0, none⟩)] w fun e w' => e = .returned (.tuple #[]) ∧ w' = w := by
  obtain ⟨j, hj, _⟩ := Option.map_eq_some_iff.1 sizeBuilder
  go_enter Tryd.func55, Tryd.ntmps55
  go_wp2
  rw [Lib.run_neq_ptr_same w _ Tryd.underlying78 hj]
  go_wp2
  go_end0
  exact ⟨rfl, rfl⟩
set_option maxHeartbeats 1000000 in
set_option maxRecDepth 100000 in
theorem copyCheck_fresh (b : Nat) (w : World) (h0 : w.cell? ⟨b, 0, none⟩ = some (.pointer none)) (hsh : w.shape? b = some (81, 2)) (hfz : w.frozen? ⟨b, 0, none⟩ = false) :
    Calls Tryd.prog 55 #[.pointer (some ⟨b, 0, none⟩)] w fun e w' => e = .returned (.tuple #[]) ∧ w' = w.setCell ⟨b, 0, none⟩ (.pointer (some ⟨b, 0, none⟩)) := by
  obtain ⟨j, hj, hjs⟩ := Option.map_eq_some_iff.1 sizeBuilder
  go_enter Tryd.func55, Tryd.ntmps55
  go_wp2
  rw [Lib.run_to_unsafe w ⟨b, 0, none⟩ Tryd.underlying78 Tryd.underlying111 hj (by rw [hjs]; decide) hsh (Nat.zero_lt_succ 1)]
  simp only [Result.andThen]
  rw [Oper.upon_value]
  go_wp2
  rw [run_callFunc_extern Tryd.func65 (by kernel_rfl) (by kernel_rfl) (by kernel_rfl) (e := Extern.AbiNoEscape.same) (by kernel_rfl)]
  rw [Lib.run_noEscape]
  simp only [Result.andThen]
  rw [Oper.upon_value]
  go_wp2
  rw [Lib.run_from_unsafe w ⟨b, 0, none⟩ Tryd.underlying111 Tryd.underlying78 hj hsh liesBuilder]
  simp only [Result.andThen]
  rw [Oper.upon_value]
  go_wp2
  go_end0
  exact ⟨rfl, rfl⟩
theorem copyCheck (B b : Nat) (bs : List Value) (w : World) (h : Lib.IsBuilder 81 5 B b bs w) :
    Calls Tryd.prog 55 #[.pointer (some ⟨b, 0, none⟩)] w fun e w' => e = .returned (.tuple #[]) ∧ (Lib.BuilderAt 81 5 B b (.pointer (some ⟨b, 0, none⟩)) bs w' ∧ Below B w w') := by
  rcases h with h | h
  · refine (copyCheck_fresh b w h.cell0 h.shape h.frozen0).mono ?_
    rintro e w' ⟨rfl, rfl⟩
    exact ⟨rfl, h.used _, (Below.refl B w).setCell (p := ⟨b, 0, none⟩) h.1 _⟩
  · refine (copyCheck_used b w h.cell0).mono ?_
    rintro e w' ⟨rfl, rfl⟩
    exact ⟨rfl, h, Below.refl B _⟩
set_option maxHeartbeats 2000000 in
set_option maxRecDepth 100000 in
theorem writeString (B b : Nat) (bs : List Value) (s : ByteArray) (w : World) (h : Lib.IsBuilder 81 5 B b bs w) (hlen : bs.length + s.size ≤ 140737488355328) (hBw : B ≤ w.heap.size) :
    Calls Tryd.prog 38 #[.pointer (some ⟨b, 0, none⟩), .string s] w fun e w' => e = .returned (.tuple #[.int .i64 s.size, .nilIface]) ∧ (Lib.BuilderAt 81 5 B b (.pointer (some ⟨b, 0, none⟩)) (bs ++ Lib.strCells s) w' ∧ Below B w w') := by
  obtain ⟨i0, hi, hz0, hz1, hz2⟩ := info_parts infoByte
  go_enter Tryd.func38, Tryd.ntmps38
  go_wp2_with (go_at_call 55; refine (copyCheck B b bs _ h).mono ?_)
  rintro e w1 ⟨rfl, h1, hb1⟩
  obtain ⟨hB, v, hbk, hown, hne⟩ := h1
  have c0 : w1.cell? ⟨b, 0, none⟩ = some (.pointer (some ⟨b, 0, none⟩)) := by rw [Lib.cell_of_heap hbk]; rfl
  have c1 : w1.cell? ⟨b, 1, none⟩ = some v := by rw [Lib.cell_of_heap hbk]; rfl
  go_wp2_with (at_builtin; refine Lib.wpList_append_own_string _ rfl _ _ 79 9 rfl B 5 i0 Tryd.underlying79 Tryd.underlying9 hi hz0 hz1 hz2 _ _ _ rfl hown s rfl ?c3 ?c4 ?c5 ?_)
  case c3 => unfold maxLen; omega
  case c4 => omega
  case c5 => have := hb1.size; omega
  intro v' w2 hown' hgrow _
  have hlt : b < w1.heap.size := by
    rcases Nat.lt_or_ge b w1.heap.size with h' | h'
    · exact h'
    · simp [Array.getElem?_eq_none h'] at hbk
  have hb2 : w2.heap[b]? = some (.cells #[.pointer (some ⟨b, 0, none⟩), v] 81 (0, 0)) := by
    rw [hgrow.block b hlt (fun e => hne e.symm)]
    exact hbk
  have d0 : w2.cell? ⟨b, 0, none⟩ = some (.pointer (some ⟨b, 0, none⟩)) := by rw [Lib.cell_of_heap hb2]; rfl
  have d1 : w2.cell? ⟨b, 1, none⟩ = some v := by rw [Lib.cell_of_heap hb2]; rfl
  have f1 : w2.frozen? ⟨b, 1, none⟩ = false := Lib.frozen_of_heap hb2 1
  obtain ⟨ao, n', cap, rfl⟩ : ∃ ao n' cap, v' = .slice ao n' cap := by
    rcases hown'.2 with ⟨hv, _⟩ | ⟨g, cap, cur, hv, _⟩
    · exact ⟨_, _, _, hv⟩
    · exact ⟨_, _, _, hv⟩
  go_wp2
  go_ret2
  refine ⟨rfl, ?_, ?_⟩
  · exact Lib.BuilderAt.put (T := 81) (e := 5) hB hb2 (bs' := bs ++ Lib.strCells s) (by simpa [Lib.strCells_length] using hown') (by decide)
  · exact (hb1.grown hgrow (by have := hb1.size; omega) (fun k hk => (hown.lt k hk).1)).setCell (p := ⟨b, 1, none⟩) hB _
end Go.Proofs.YtlpcidjmaeicoaaDoor.Build
namespace Go.Proofs
open Go.Shelf
def Tryd.lays169_ren : Go.Shelf.Ren := ⟨fun | 169 => 40 | n => n, fun | 70 => 78 | 9 => 9 | 0 => 0 | 72 => 81 | 37 => 79 | 127 => 108 | 3 => 3 | 5 => 5 | n => n, fun | n => n⟩
theorem Tryd.lays169 : Go.Proofs.Lays.n169 Tryd.prog Tryd.lays169_ren := {
  mixed := by kernel_rfl
  f169 := Tryd.func40.trans (congrArg some (by kernel_rfl))
  t0 := Tryd.underlying0
  a0 := Tryd.isAgg0
  z0 := Tryd.sizeOf0
  v0 := Tryd.zeroValue0
  t3 := Tryd.underlying3
  a3 := Tryd.isAgg3
  z3 := Tryd.sizeOf3
  v3 := Tryd.zeroValue3
  t9 := Tryd.underlying9
  a9 := Tryd.isAgg9
  z9 := Tryd.sizeOf9
  v9 := Tryd.zeroValue9
  t37 := Tryd.underlying79
  a37 := Tryd.isAgg79
  z37 := Tryd.sizeOf79
  v37 := Tryd.zeroValue79
  t70 := Tryd.underlying78
  a70 := Tryd.isAgg78
  z70 := Tryd.sizeOf78
  v70 := Tryd.zeroValue78
  t72 := Tryd.underlying81
  a72 := Tryd.isAgg81
  z72 := Tryd.sizeOf81
  v72 := Tryd.zeroValue81
  t127 := Tryd.underlying108
  a127 := Tryd.isAgg108
  z127 := Tryd.sizeOf108
  v127 := Tryd.zeroValue108 }
theorem Tryd.Builder_Extra_169 : Builder.Extra Tryd.prog Tryd.lays169_ren := {
  sizeBuilder := by kernel_rfl
  liesBuilder := by kernel_rfl
  t5 := Tryd.underlying5
  a5 := Tryd.isAgg5
  z5 := Tryd.sizeOf5
  v5 := Tryd.zeroValue5
  infoByte := by kernel_rfl
  cellsByte := by kernel_rfl
  sizeByte := by kernel_rfl
  neB5 := by decide }
open Go.RowKit in
theorem Tryd.Builder_String (B b : Nat) (l : List UInt8) (w : World) (h : Lib.IsBuilder 81 5 B b (Lib.byteCells l) w) (h0 : l ≠ []) :
    Calls Tryd.prog 40 #[.pointer (some ⟨b, 0, none⟩)] w fun e w' => e = .returned (.string ⟨l.toArray⟩) ∧ Below B w w' := Any.Builder_String Tryd.lays169 Tryd.Builder_Extra_169 B b l w h h0
open Go.RowKit in
theorem Tryd.Builder_String_empty (B b : Nat) (w : World) (h : Lib.IsBuilder 81 5 B b [] w) (hBw : B ≤ w.heap.size) :
    Calls Tryd.prog 40 #[.pointer (some ⟨b, 0, none⟩)] w fun e w' => e = .returned (.string ⟨#[]⟩) ∧ Below B w w' := Any.Builder_String_empty Tryd.lays169 Tryd.Builder_Extra_169 B b w h hBw
end Go.Proofs
namespace Go.Proofs.YtlpcidjmaeicoaaDoor.Wire
open Go Go.RowKit Go.Proofs.YtlpcidjmaeicoaaDoor.DecM Go.Proofs.YtlpcidjmaeicoaaDoor.Giv Go.Proofs.YtlpcidjmaeicoaaDoorW.PrintWords Go.Proofs.YtlpcidjmaeicoaaDoorW.PrintLast Go.Proofs.YtlpcidjmaeicoaaDoorW.PrintMore
theorem byte_len (s : ByteArray) : s.data.toList.length = s.size := by
  rw [Array.length_toList]
  rfl
theorem cells_len (l : List UInt8) : (Lib.byteCells l).length = l.length := by
  unfold Lib.byteCells
  rw [List.length_map]
theorem cells_str (s : ByteArray) : Lib.strCells s = Lib.byteCells s.data.toList := Lib.strCells_eq s
theorem byteCells_append (a b : List UInt8) : Lib.byteCells (a ++ b) = Lib.byteCells a ++ Lib.byteCells b := by
  unfold Lib.byteCells
  rw [List.map_append]
theorem wrap_small {x : Int} (h : -9223372036854775808 ≤ x ∧ x ≤ 9223372036854775807) : wrap64 x = x := by
  unfold wrap64
  omega
theorem rd_text (l : List ByteArray) (i : Nat) (hi : i < l.length) : rdOf ByteArray.empty l (i : Int) = l[i] := by
  unfold rdOf
  simp [List.getElem?_eq_getElem hi]
theorem rd_num (l : List Int) (i : Nat) (hi : i < l.length) : rd l (i : Int) = l[i] := by
  unfold rd
  simp [List.getElem?_eq_getElem hi]
def textW (t : ByteArray) : ByteArray := numS t.size ++ t
theorem string_any (B b : Nat) (l : List UInt8) (w : World) (h : Lib.IsBuilder 81 5 B b (Lib.byteCells l) w) (hBw : B ≤ w.heap.size) :
    Calls Tryd.prog 40 #[.pointer (some ⟨b, 0, none⟩)] w fun e w' => e = .returned (.string ⟨l.toArray⟩) ∧ Below B w w' := by
  cases l with
  | nil => exact Tryd.Builder_String_empty B b w h hBw
  | cons x r => exact Tryd.Builder_String B b (x :: r) w h (by simp)
theorem build_below {B b : Nat} {p : Value} {bs : List Value} {w w1 : World} (h : Lib.BuilderAt 81 5 B b p bs w) (hb : Below w.heap.size w w1) : Lib.BuilderAt 81 5 B b p bs w1 := by
  have hlt := h.lt
  obtain ⟨hB, v, hbk, hown, hne⟩ := h
  exact ⟨hB, v, (hb.block b hlt).trans hbk, pw_own_below hown hb, hne⟩
theorem isBuild_below {B b : Nat} {bs : List Value} {w w1 : World} (h : Lib.IsBuilder 81 5 B b bs w) (hb : Below w.heap.size w w1) : Lib.IsBuilder 81 5 B b bs w1 :=
  h.imp (fun h => build_below h hb) (fun h => build_below h hb)
set_option maxHeartbeats 400000 in
theorem text_calls (t : ByteArray) (w : World) (ht : t.size ≤ 4611686018427387904) :
    Calls Tryd.prog 41 #[.string t] w fun e w' => e = .returned (.string (textW t)) ∧ Below w.heap.size w w' := by
  have hz := numS_size t.size (by omega)
  have HC := Lib.hid (num_calls t.size)
  have HE : Hid (textW t = numS t.size ++ t) := Lib.hid rfl
  go_enter Tryd.func41, Tryd.ntmps41
  go_wp2_with (go_at_call 39; refine (HC.out _ (by omega)).mono ?_; rintro e w1 ⟨rfl, hb⟩)
  go_ret
  exact ⟨by rw [HE.out]; rfl, hb⟩
def glue (l : List ByteArray) : List UInt8 := (l.map fun t => t.data.toList).flatten
theorem glue_succ (l : List ByteArray) (i : Nat) (hi : i < l.length) : glue (l.take (i + 1)) = glue (l.take i) ++ (l[i]).data.toList := by
  unfold glue
  rw [List.take_succ_eq_append_getElem hi, List.map_append, List.flatten_append]
  simp only [List.map_cons, List.map_nil, List.flatten_cons, List.flatten_nil, List.append_nil]
theorem glue_le (l : List ByteArray) (i : Nat) : (glue (l.take i)).length ≤ (glue l).length := by
  have e : glue l = glue (l.take i) ++ glue (l.drop i) := by
    unfold glue
    rw [← List.flatten_append, ← List.map_append, List.take_append_drop]
  rw [e, List.length_append]
  omega
theorem glue_at (l : List ByteArray) (i : Nat) (hi : i < l.length) : (glue (l.take i)).length + (l[i]).size ≤ (glue l).length := by
  have h := glue_le l (i + 1)
  rw [glue_succ l i hi, List.length_append, byte_len] at h
  exact h
def numP (l : List Int) : List ByteArray := l.map fun x => numS x.toNat
def textP (l : List ByteArray) : List ByteArray := l.map textW
def numsS (l : List Int) : ByteArray := ⟨(glue (numP l)).toArray⟩
def textsW (l : List ByteArray) : ByteArray := ⟨(glue (textP l)).toArray⟩
theorem glue_len : ∀ (l : List ByteArray) (n : Nat), (∀ t ∈ l, t.size ≤ n) → (glue l).length ≤ n * l.length
  | [], _, _ => Nat.zero_le _
  | t :: l, n, h => by
    have h1 := h t (List.mem_cons_self ..)
    have h2 := glue_len l n (fun x hx => h x (List.mem_cons_of_mem _ hx))
    have e : glue (t :: l) = t.data.toList ++ glue l := rfl
    rw [e, List.length_append, byte_len, List.length_cons, Nat.mul_succ]
    omega
theorem numP_len (l : List Int) (hx : ∀ x ∈ l, 0 ≤ x ∧ x ≤ 4611686018427387904) : (glue (numP l)).length ≤ 21 * l.length := by
  have h := glue_len (numP l) 21 (by
    intro t ht
    obtain ⟨x, hx', rfl⟩ := List.mem_map.1 ht
    have := hx x hx'
    exact numS_size x.toNat (by omega))
  unfold numP at h ⊢
  rwa [List.length_map] at h
set_option maxHeartbeats 2000000 in
theorem nums_calls (A0 : Option Addr) (c0 : Nat) (l0 : List Int) (w : World) (hr0 : Kd.C (Kd.int .i64) w A0 l0.length l0) (hc0 : l0.length ≤ c0) (hl : l0.length ≤ 1048576) (hx : ∀ x ∈ l0, 0 ≤ x ∧ x ≤ 4611686018427387904) :
    Calls Tryd.prog 21 #[.slice A0 l0.length c0] w fun e w' => e = .returned (.string (numsS l0)) ∧ Below w.heap.size w w' := by
  have hsz := numP_len l0 hx
  have hlp : (numP l0).length = l0.length := List.length_map ..
  have h0 : Lib.IsBuilder 81 5 w.heap.size w.heap.size [] (w.alloc (.cells #[.pointer none, .slice none 0 0] 81)) := Lib.fresh_isBuilder _ _ w
  have b0 : Below w.heap.size w (w.alloc (.cells #[.pointer none, .slice none 0 0] 81)) := (Below.refl _ w).alloc (Nat.le_refl _) _
  have h0' : Aside0 (Lib.IsBuilder 81 5 w.heap.size w.heap.size (Lib.byteCells (glue ((numP l0).take 0))) (w.alloc (.cells #[.pointer none, .slice none 0 0] 81))) := ⟨h0⟩
  have b0' : Aside0 (Below w.heap.size w (w.alloc (.cells #[.pointer none, .slice none 0 0] 81))) := ⟨b0⟩
  have HS := Lib.hid hsz
  have HR := Lib.hid hr0
  have HC := Lib.hid hc0
  have HL := Lib.hid hl
  have HX := Lib.hid hx
  have HP := Lib.hid hlp
  have HA : Hid (∀ i (h : i < l0.length), (numP l0)[i]? = some (numS (l0[i]).toNat)) := Lib.hid fun i h => by simp [numP, List.getElem?_eq_getElem h]
  clear hsz hr0 hc0 hl hx hlp h0 b0
  go_enter Tryd.func21, Tryd.ntmps21
  go_wp2
  go_loopg [8] l0.length (fun kq v8 w' => ∃ i : Nat, v8 = .int .i64 i ∧ Aside0 (kq + i = l0.length) ∧ Aside0 (Lib.IsBuilder 81 5 w.heap.size w.heap.size (Lib.byteCells (glue ((numP l0).take i))) w') ∧ Aside0 (Below w.heap.size w w'))
  case atStart => exact ⟨0, rfl, ⟨by omega⟩, h0', b0'⟩
  case round =>
    obtain ⟨i, rfl, HK, HB, HW⟩ := hrel
    clear h0' b0'
    by_cases hi : i < l0.length
    · have c0b : decide ((i : Int) < (l0.length : Int)) = true := decide_eq_true (by omega)
      obtain ⟨ad, e1, hx⟩ := Kd.at_int (Kd.C_below HR.out HW.out) (i : Int) (by omega) (by omega)
      cases e1
      have hxb := HX.out l0[i] (List.getElem_mem hi)
      have HAi := Lib.hid (HA.out i hi)
      rw [rd_num l0 i hi, Int.toNat_natCast] at hx
      have hip : i < (numP l0).length := by rw [HP.out]; exact hi
      have ht := glue_at (numP l0) i hip
      have hsu0 := glue_succ (numP l0) i hip
      have hge := HAi.out
      rw [List.getElem?_eq_getElem hip] at hge
      rw [Option.some.inj hge] at ht hsu0
      clear hge hip
      obtain ⟨v, hv⟩ : ∃ v : Nat, l0[i] = (v : Int) := ⟨(l0[i]).toNat, by omega⟩
      rw [hv] at hx hxb ht hsu0
      rw [Int.toNat_natCast] at ht hsu0
      have hwr : IntKind.u64.wrap (v : Int) = (v : Int) := by
        unfold IntKind.wrap
        simp [IntKind.bits, IntKind.signed]
        omega
      have HN := Lib.hid fun w => num_calls v w (by omega)
      have hp : ((0 : Int) ≤ (i : Int)) = True := eq_true (by omega)
      have hq : ((i : Int) < (l0.length : Int)) = True := eq_true (by omega)
      have HQ := Lib.hid ht
      have HU := Lib.hid hsu0
      clear ht hsu0 hv HAi
      go_wp2_with (go_at_call 39; refine (HN.out _).mono ?_)
      rintro e w3 ⟨rfl, b3⟩
      have h3 := isBuild_below HB.out b3
      have b3' : Below w.heap.size w w3 := HW.out.trans (b3.mono HW.out.size)
      go_wp2_with (go_at_call 38; refine (Build.writeString w.heap.size w.heap.size (Lib.byteCells (glue ((numP l0).take i))) (numS v) _ h3 (by rw [cells_len]; have := HQ.out; have := HS.out; have := HL.out; omega) b3'.size).mono ?_)
      rintro e w4 ⟨rfl, h4, b4⟩
      rw [cells_str, ← byteCells_append, ← HU.out] at h4
      have b4' : Below w.heap.size w w4 := b3'.trans b4
      go_wp2
      repeat (go_quiet (fail); try go_wp2)
      go_roundg (gk - 1)
      case measure => have := HK.out; omega
      case rel => exact ⟨i + 1, by rw [wrap_small (by have := HL.out; omega)]; rfl, ⟨by have := HK.out; omega⟩, ⟨.inr h4⟩, ⟨b4'⟩⟩
    · have c0b : decide ((i : Int) < (l0.length : Int)) = false := decide_eq_false (by omega)
      have e : i = l0.length := by have := HK.out; omega
      subst e
      have h3 := HB.out
      have e2 : (numP l0).take l0.length = numP l0 := by rw [← HP.out, List.take_length]
      rw [e2] at h3
      go_wp2_with (go_at_call 40; refine (string_any w.heap.size w.heap.size (glue (numP l0)) _ h3 HW.out.size).mono ?_)
      rintro e w3 ⟨rfl, b3⟩
      go_wp2
      go_ret
      exact ⟨rfl, HW.out.trans b3⟩
set_option maxHeartbeats 2000000 in
theorem texts_calls (A0 : Option Addr) (c0 : Nat) (l0 : List ByteArray) (w : World) (hr0 : Kd.C Kd.string w A0 l0.length l0) (hc0 : l0.length ≤ c0) (hl : l0.length ≤ 1048576) (hsz : (glue (textP l0)).length ≤ 70368744177664) :
    Calls Tryd.prog 22 #[.slice A0 l0.length c0] w fun e w' => e = .returned (.string (textsW l0)) ∧ Below w.heap.size w w' := by
  have hlp : (textP l0).length = l0.length := List.length_map ..
  have h0 : Lib.IsBuilder 81 5 w.heap.size w.heap.size [] (w.alloc (.cells #[.pointer none, .slice none 0 0] 81)) := Lib.fresh_isBuilder _ _ w
  have b0 : Below w.heap.size w (w.alloc (.cells #[.pointer none, .slice none 0 0] 81)) := (Below.refl _ w).alloc (Nat.le_refl _) _
  have h0' : Aside0 (Lib.IsBuilder 81 5 w.heap.size w.heap.size (Lib.byteCells (glue ((textP l0).take 0))) (w.alloc (.cells #[.pointer none, .slice none 0 0] 81))) := ⟨h0⟩
  have b0' : Aside0 (Below w.heap.size w (w.alloc (.cells #[.pointer none, .slice none 0 0] 81))) := ⟨b0⟩
  have HS := Lib.hid hsz
  have HR := Lib.hid hr0
  have HC := Lib.hid hc0
  have HL := Lib.hid hl
  have HP := Lib.hid hlp
  have HA : Hid (∀ i (h : i < l0.length), (textP l0)[i]? = some (textW l0[i])) := Lib.hid fun i h => by simp [textP, List.getElem?_eq_getElem h]
  clear hsz hr0 hc0 hl hlp h0 b0
  go_enter Tryd.func22, Tryd.ntmps22
  go_wp2
  go_loopg [8] l0.length (fun kq v8 w' => ∃ i : Nat, v8 = .int .i64 i ∧ Aside0 (kq + i = l0.length) ∧ Aside0 (Lib.IsBuilder 81 5 w.heap.size w.heap.size (Lib.byteCells (glue ((textP l0).take i))) w') ∧ Aside0 (Below w.heap.size w w'))
  case atStart => exact ⟨0, rfl, ⟨by omega⟩, h0', b0'⟩
  case round =>
    obtain ⟨i, rfl, HK, HB, HW⟩ := hrel
    clear h0' b0'
    by_cases hi : i < l0.length
    · have c0b : decide ((i : Int) < (l0.length : Int)) = true := decide_eq_true (by omega)
      obtain ⟨ad, e1, hx⟩ := Kd.at_string (Kd.C_below HR.out HW.out) (i : Int) (by omega) (by omega)
      cases e1
      have HAi := Lib.hid (HA.out i hi)
      rw [rd_text l0 i hi, Int.toNat_natCast] at hx
      have hip : i < (textP l0).length := by rw [HP.out]; exact hi
      have ht := glue_at (textP l0) i hip
      have hsu0 := glue_succ (textP l0) i hip
      have hge := HAi.out
      rw [List.getElem?_eq_getElem hip] at hge
      rw [Option.some.inj hge] at ht hsu0
      clear hge hip
      generalize l0[i] = t at hx ht hsu0
      have htz : t.size ≤ (textW t).size := by
        unfold textW
        rw [ByteArray.size_append]
        omega
      have HN := Lib.hid fun w => text_calls t w (by have := HS.out; omega)
      have hp : ((0 : Int) ≤ (i : Int)) = True := eq_true (by omega)
      have hq : ((i : Int) < (l0.length : Int)) = True := eq_true (by omega)
      have HQ := Lib.hid ht
      have HU := Lib.hid hsu0
      clear ht hsu0 HAi htz
      go_wp2_with (go_at_call 41; refine (HN.out _).mono ?_)
      rintro e w3 ⟨rfl, b3⟩
      have h3 := isBuild_below HB.out b3
      have b3' : Below w.heap.size w w3 := HW.out.trans (b3.mono HW.out.size)
      go_wp2_with (go_at_call 38; refine (Build.writeString w.heap.size w.heap.size (Lib.byteCells (glue ((textP l0).take i))) (textW t) _ h3 (by rw [cells_len]; have := HQ.out; have := HS.out; omega) b3'.size).mono ?_)
      rintro e w4 ⟨rfl, h4, b4⟩
      rw [cells_str, ← byteCells_append, ← HU.out] at h4
      have b4' : Below w.heap.size w w4 := b3'.trans b4
      go_wp2
      repeat (go_quiet (fail); try go_wp2)
      go_roundg (gk - 1)
      case measure => have := HK.out; omega
      case rel => exact ⟨i + 1, by rw [wrap_small (by have := HL.out; omega)]; rfl, ⟨by have := HK.out; omega⟩, ⟨.inr h4⟩, ⟨b4'⟩⟩
    · have c0b : decide ((i : Int) < (l0.length : Int)) = false := decide_eq_false (by omega)
      have e : i = l0.length := by have := HK.out; omega
      subst e
      have h3 := HB.out
      have e2 : (textP l0).take l0.length = textP l0 := by rw [← HP.out, List.take_length]
      rw [e2] at h3
      go_wp2_with (go_at_call 40; refine (string_any w.heap.size w.heap.size (glue (textP l0)) _ h3 HW.out.size).mono ?_)
      rintro e w3 ⟨rfl, b3⟩
      go_wp2
      go_ret
      exact ⟨rfl, HW.out.trans b3⟩
end Go.Proofs.YtlpcidjmaeicoaaDoor.Wire
namespace Go.Proofs.YtlpcidjmaeicoaaDoor.QWi
open Go Go.RowKit Go.Proofs.YtlpcidjmaeicoaaDoor.Wire Go.Proofs.YtlpcidjmaeicoaaDoorW.PrintWords Go.Proofs.YtlpcidjmaeicoaaDoorW.PrintLast
def wire_nums.f (l : List Int) : Option (ByteArray) := if l.length ≤ 1048576 ∧ l.all (fun x => decide (0 ≤ x) && decide (x ≤ 4611686018427387904)) = true then some (numsS l) else none
theorem wire_nums.calls (A0 : Option Addr) (c0 : Nat) (l0 : List Int) (r : ByteArray) (w : World) (hr0 : Kd.C (Kd.int .i64) w A0 l0.length l0) (hc0 : l0.length ≤ c0) (h : wire_nums.f l0 = some r) :
    Calls Tryd.prog 21 #[.slice A0 l0.length c0] w fun e w' => e = .returned (.string r) ∧ Below w.heap.size w w' := by
  unfold wire_nums.f at h
  by_cases hs : l0.length ≤ 1048576 ∧ l0.all (fun x => decide (0 ≤ x) && decide (x ≤ 4611686018427387904)) = true
  · rw [if_pos hs] at h
    have hv := nums_calls A0 c0 l0 w hr0 hc0 hs.1 (fun x hx => by
      have := List.all_eq_true.1 hs.2 x hx
      simpa using this)
    rw [Option.some.inj h] at hv
    exact hv
  · rw [if_neg hs] at h
    cases h
def wire_texts.f (l : List ByteArray) : Option (ByteArray) := if l.length ≤ 1048576 ∧ (glue (textP l)).length ≤ 70368744177664 then some (textsW l) else none
theorem wire_texts.calls (A0 : Option Addr) (c0 : Nat) (l0 : List ByteArray) (r : ByteArray) (w : World) (hr0 : Kd.C Kd.string w A0 l0.length l0) (hc0 : l0.length ≤ c0) (h : wire_texts.f l0 = some r) :
    Calls Tryd.prog 22 #[.slice A0 l0.length c0] w fun e w' => e = .returned (.string r) ∧ Below w.heap.size w w' := by
  unfold wire_texts.f at h
  by_cases hs : l0.length ≤ 1048576 ∧ (glue (textP l0)).length ≤ 70368744177664
  · rw [if_pos hs] at h
    have hv := texts_calls A0 c0 l0 w hr0 hc0 hs.1 hs.2
    rw [Option.some.inj h] at hv
    exact hv
  · rw [if_neg hs] at h
    cases h
end Go.Proofs.YtlpcidjmaeicoaaDoor.QWi
namespace Go.Proofs.YtlpcidjmaeicoaaDoor.QWi
open Go Go.RowKit
def stanchionref01_Num.f (a0 : Int) : Option (ByteArray) := QDec.stanchionref01_Num.f a0
theorem stanchionref01_Num.calls (a0 : Int) (r : ByteArray) (w : World) (h : stanchionref01_Num.f a0 = some r) :
    Calls Tryd.prog 42 #[.int .u64 a0] w fun e w' => e = .returned (.string r) ∧ Below w.heap.size w w' := QDec.stanchionref01_Num.calls a0 r w h
def stanchionref01_Text.f (a0 : ByteArray) : Option (ByteArray) := QDec.stanchionref01_Text.f a0
theorem stanchionref01_Text.calls (a0 : ByteArray) (r : ByteArray) (w : World) (h : stanchionref01_Text.f a0 = some r) :
    Calls Tryd.prog 43 #[.string a0] w fun e w' => e = .returned (.string r) ∧ Below w.heap.size w w' := QDec.stanchionref01_Text.calls a0 r w h
def stanchionref01_TakeNum.f (a0 : ByteArray) : Option (Int × ByteArray × Int) := QDec.stanchionref01_TakeNum.f a0
theorem stanchionref01_TakeNum.calls (a0 : ByteArray) (r1 : Int) (r2 : ByteArray) (r3 : Int) (w : World) (h : stanchionref01_TakeNum.f a0 = some (r1, r2, r3)) :
    Calls Tryd.prog 49 #[.string a0] w fun e w' => e = .returned (.tuple #[.int .u64 r1, .string r2, .int .i64 r3]) ∧ Below w.heap.size w w' := QDec.stanchionref01_TakeNum.calls a0 r1 r2 r3 w h
def stanchionref01_TakeText.f (a0 : ByteArray) (a1 : Int) : Option (ByteArray × ByteArray × Int) := QDec.stanchionref01_TakeText.f 1 a0 a1
theorem stanchionref01_TakeText.calls (a0 : ByteArray) (a1 : Int) (r1 : ByteArray) (r2 : ByteArray) (r3 : Int) (w : World) (h : stanchionref01_TakeText.f a0 a1 = some (r1, r2, r3)) :
    Calls Tryd.prog 50 #[.string a0, .int .i64 a1] w fun e w' => e = .returned (.tuple #[.string r1, .string r2, .int .i64 r3]) ∧ Below w.heap.size w w' := QDec.stanchionref01_TakeText.calls 1 a0 a1 r1 r2 r3 w h
end Go.Proofs.YtlpcidjmaeicoaaDoor.QWi
namespace Go.Proofs.YtlpcidjmaeicoaaDoor.QWi
open Go.RowKit Go.Proofs.YtlpcidjmaeicoaaDoorW.PrintWords Go.Proofs.YtlpcidjmaeicoaaDoorW.PrintLast Go.Proofs.YtlpcidjmaeicoaaDoorW.PrintMore
attribute [local go_sem] max2_int min2_int max_two min_two max_three min_three max_four min_four
set_option linter.unusedVariables false
set_option linter.unusedSimpArgs false
theorem info74 : (Tryd.prog.info? 74).map (fun i => (i.zero, i.size, i.bytes)) = some (some (.agg #[(.string ⟨#[]⟩), (.string ⟨#[]⟩)]), 2, 32) := by kernel_rfl
structure S74 where
  f0 : ByteArray
  f1 : ByteArray
def z74 : S74 := ⟨(⟨#[]⟩ : ByteArray), (⟨#[]⟩ : ByteArray)⟩
def k74 : Kd S74 := Kd.iso (Kd.pair Kd.string Kd.string) (fun x : S74 => (x.f0, x.f1))
theorem k74_open {w : World} {x : S74} {cs : List Value} (h : k74.K w x cs) : cs = [.string x.f0, .string x.f1] := by
  obtain ⟨_, _, rfl, rfl, rfl⟩ := h
  exact rfl
theorem k74_mk (w : World) (x : S74)  : k74.K w x [.string x.f0, .string x.f1] := ⟨[.string x.f0], [.string x.f1], rfl, rfl, rfl⟩
theorem k74_mkM (w : World) (base : Nat) (ok : Nat → Prop) (x : S74)  : k74.M w base ok x [.string x.f0, .string x.f1] := ⟨[.string x.f0], [.string x.f1], rfl, rfl, rfl⟩
def rd_T74 (xs : List S74) (i : Int) : S74 := xs.getD i.toNat z74
theorem at_T74 {w : World} {A : Option Addr} {n : Nat} {xs : List S74} (h : Kd.C k74 w A n xs) (i : Int) (h0 : 0 ≤ i) (h1 : i < n) : ∃ ad , A = some ad ∧ w.cell? (ad.add (i.toNat * 2)) = some (.string (rd_T74 xs i).f0) ∧ w.cell? ⟨(ad.add (i.toNat * 2)).block, (ad.add (i.toNat * 2)).off + 1, none⟩ = some (.string (rd_T74 xs i).f1) := by
  obtain ⟨ad, c, e, _, hK, hc0⟩ := Kd.C_get h z74 i h0 h1
  have hc : ∀ j u, c[j]? = some u → w.cell? (ad.add (i.toNat * 2 + j)) = some u := hc0
  obtain rfl := k74_open hK
  exact ⟨ad, e, hc 0 _ rfl, by rw [← add_field _ _ 1 (by omega)]; exact hc 1 _ rfl⟩
structure S41 where
  f0 : Int
  f1 : Int
  f2 : Int
  f3 : Int
  f4 : ByteArray
  f5 : Bool
  f6 : (List S74)
  f7 : Bool
def z41 : S41 := ⟨(0 : Int), (0 : Int), (0 : Int), (0 : Int), (⟨#[]⟩ : ByteArray), false, ([] : List S74), false⟩
structure S23 where
  f0 : Int
  f1 : ByteArray
  f2 : ByteArray
  f3 : ByteArray
  f4 : ByteArray
  f5 : Int
structure S25 where
  f0 : Int
  f1 : Int
  f2 : Int
  f3 : Int
  f4 : ByteArray
  f5 : S23
end Go.Proofs.YtlpcidjmaeicoaaDoor.QWi
namespace Go.Proofs.YtlpcidjmaeicoaaDoor.Reader
open Go Go.RowKit Go.Proofs.YtlpcidjmaeicoaaDoor.DecM Go.Proofs.YtlpcidjmaeicoaaDoor.Giv Go.Proofs.YtlpcidjmaeicoaaDoor.Err Go.Proofs.YtlpcidjmaeicoaaDoorW.PrintWords Go.Proofs.YtlpcidjmaeicoaaDoorW.PrintLast Go.Proofs.YtlpcidjmaeicoaaDoor.QWi
def rowStep (p : List S74 × ByteArray × Bool) : List S74 × ByteArray × Bool := tx p.2 32 fun k x => tx x 64 fun v y => (p.1 ++ [⟨k, v⟩], y)
def rowsI (x : ByteArray × Bool) : Nat → List S74 × ByteArray × Bool
  | 0 => ([], x)
  | i + 1 => rowStep (rowsI x i)
theorem rowsI_size (x : ByteArray × Bool) (i : Nat) : (rowsI x i).2.1.size ≤ x.1.size := by
  induction i with
  | zero => exact Nat.le_refl _
  | succ i ih =>
    show (rowStep (rowsI x i)).2.1.size ≤ _
    unfold rowStep tx
    have h1 := textR_size (rowsI x i).2.1 (rowsI x i).2.2 32
    have h2 := textR_size (textR (rowsI x i).2.1 (rowsI x i).2.2 32).2.1 (textR (rowsI x i).2.1 (rowsI x i).2.2 32).2.2 64
    exact Nat.le_trans h2 (Nat.le_trans h1 ih)
theorem rowsI_length (x : ByteArray × Bool) (i : Nat) : (rowsI x i).1.length = i := by
  induction i with
  | zero => rfl
  | succ i ih =>
    show (rowStep (rowsI x i)).1.length = _
    unfold rowStep tx
    show ((rowsI x i).1 ++ [_]).length = _
    rw [List.length_append, ih]
    rfl
theorem Rd.keep {w w' : World} {r : Nat} {av av' : List Nat} {s : ByteArray} {n : Int} {bad : Bool} (h : Rd w r av s n bad) (hz : w.heap.size ≤ w'.heap.size)
    (hb : ∀ k, k < w.heap.size → (k = r ∨ k ∉ av) → w'.heap[k]? = w.heap[k]?) (hr : r ∈ av') (hlt : ∀ a ∈ av', a < w'.heap.size) (hav : ∀ a ∈ av', a ∈ av ∨ w.heap.size ≤ a) : Rd w' r av' s n bad := by
  obtain ⟨⟨ev, h1, h2⟩, h3, h4⟩ := h
  have hl : r < w.heap.size := cell_lt h1.c0
  have hc : ∀ o, w'.cell? ⟨r, o, none⟩ = w.cell? ⟨r, o, none⟩ := fun o => World.cell?_of_block (w := w) (hb r hl (.inl rfl))
  have hf : ∀ o, w'.frozen? ⟨r, o, none⟩ = w.frozen? ⟨r, o, none⟩ := fun o => World.frozen?_of_block (w := w) (hb r hl (.inl rfl))
  refine ⟨⟨ev, ⟨(hc 0).trans h1.c0, (hc 1).trans h1.c1, (hc 2).trans h1.c2, fun o => (hf o).trans (h1.f o)⟩, ?_⟩, hr, hlt⟩
  cases bad with
  | false => exact h2
  | true =>
    obtain ⟨c, k, e, k1, k2, k3, k4, k5⟩ := h2
    have hcc : ∀ o, w'.cell? ⟨c, o, none⟩ = w.cell? ⟨c, o, none⟩ := fun o => World.cell?_of_block (w := w) (hb c k2 (.inr k1))
    refine ⟨c, k, e, fun hm => ?_, Nat.lt_of_lt_of_le k2 hz, k3, (hcc 0).trans k4, (hcc 1).trans k5⟩
    rcases hav c hm with h | h
    · exact k1 h
    · omega
structure Lp (w0 : World) (r q z : Nat) (av fb : List Nat) (w : World) (s : ByteArray) (n : Int) (bad : Bool) (cq cz : List Value) (v : Value) (l : List S74) : Prop where
  rd : Rd w r av s n bad
  qm : q ∈ av
  own : ∀ k, v.ownBlock = some k → k ∈ av
  row : Kd.R k74 74 w w0.heap.size (fun k => k ∉ fb) v l
  rf : r ∈ fb
  qf : q ∈ fb
  zf : z ∈ fb
  bel : Below w0.heap.size w0 w
  hg : Handle w
  qc : CellsAt w q cq
  zc : CellsAt w z cz
  hq : 0 < cq.length
  hz : 0 < cz.length
  r0 : w0.heap.size ≤ r
  q0 : w0.heap.size ≤ q
  z0 : w0.heap.size ≤ z
  qr : q ≠ r
  zr : z ≠ r
  zq : z ≠ q
  w00 : 0 < w0.heap.size
theorem Lp.start {w0 w : World} {r q z : Nat} {ks : List (Nat × List Value)} {s : ByteArray} {n : Int} {bad : Bool} {cq cz : List Value} (h : St w0 r q ks w s n bad cq) (hz : (z, cz) ∈ ks) (z0 : w0.heap.size ≤ z) :
    Lp w0 r q z (ks.map Prod.fst ++ [q, r]) [r, q, z] w s n bad cq cz (.slice none 0 0) [] := by
  obtain ⟨k1, k2, k3, k4⟩ := h.kc _ hz
  exact ⟨h.rd, by simp, fun k hk => by simp [Value.ownBlock] at hk, Kd.R_nil _ _ _ _ _, by simp, by simp, by simp, h.bel, h.hg, h.qc, k1, h.hq, k2, h.r0, h.q0, z0, h.qr, k3, k4, h.w00⟩
section
variable {w0 w w' : World} {r q z : Nat} {av fb : List Nat} {s s' : ByteArray} {n n' : Int} {bad bad' : Bool} {cq cz : List Value} {v : Value} {l : List S74}
theorem Lp.call (h : Lp w0 r q z av fb w s n bad cq cz v l) (hr : Rd w' r av s' n' bad') (ho : Only r w w') : Lp w0 r q z av fb w' s' n' bad' cq cz v l :=
  ⟨hr, h.qm, h.own, Kd.R_step h.row (fun k hk hlt => ho.block k hlt (fun e => hk (e ▸ h.rf))), h.rf, h.qf, h.zf, h.bel.trans (ho.below h.r0 h.bel.size), h.hg.only ho (by have := h.r0; have := h.w00; omega),
    h.qc.only h.hq ho h.qr, h.zc.only h.hz ho h.zr, h.hq, h.hz, h.r0, h.q0, h.z0, h.qr, h.zr, h.zq, h.w00⟩
theorem Lp.lt (h : Lp w0 r q z av fb w s n bad cq cz v l) : r < w.heap.size ∧ q < w.heap.size ∧ z < w.heap.size :=
  ⟨h.rd.lt r h.rd.mem, cell_lt (h.qc.c 0 h.hq), cell_lt (h.zc.c 0 h.hz)⟩
theorem Lp.push (h : Lp w0 r q z av fb w s n bad cq cz v l) (a : Array Value) (t : TypeId) : Lp w0 r q z (w.heap.size :: av) (w.heap.size :: fb) (w.alloc (.cells a t)) s n bad cq cz v l := by
  have hb := (Below.refl w.heap.size w).alloc (Nat.le_refl _) (.cells a t)
  have hrow : Kd.R k74 74 w w0.heap.size (fun k => k ∉ w.heap.size :: fb) v l := Kd.R_mono (Kd.R_bound h.row) fun k hk => by
    rw [List.mem_cons]
    rintro (e | e)
    · have := hk.2.2.1
      omega
    · exact hk.1 e
  exact ⟨h.rd.push _, List.mem_cons_of_mem _ h.qm, fun k hk => List.mem_cons_of_mem _ (h.own k hk), Kd.R_below hrow hb, List.mem_cons_of_mem _ h.rf, List.mem_cons_of_mem _ h.qf, List.mem_cons_of_mem _ h.zf, h.bel.trans (hb.mono h.bel.size), h.hg.below hb,
    h.qc.below h.hq hb, h.zc.below h.hz hb, h.hq, h.hz, h.r0, h.q0, h.z0, h.qr, h.zr, h.zq, h.w00⟩
theorem Lp.other {t : Nat} (h : Lp w0 r q z av fb w s n bad cq cz v l) (ht : t ∈ av) (htf : t ∈ fb) (hr : t ≠ r) (hq : t ≠ q) (hz : t ≠ z) (h0 : w0.heap.size ≤ t) (j : Nat) (u : Value) : Lp w0 r q z av fb (w.setCell ⟨t, j, none⟩ u) s n bad cq cz v l := by
  have ho : Only t w (w.setCell ⟨t, j, none⟩ u) := (Only.refl t w).set j u
  exact ⟨h.rd.other ht hr ho, h.qm, h.own, Kd.R_step h.row (fun k hk hlt => ho.block k hlt (fun e => hk (e ▸ htf))), h.rf, h.qf, h.zf, h.bel.setCell h0 u, h.hg.only ho (by have := h.w00; omega),
    h.qc.only h.hq ho hq.symm, h.zc.only h.hz ho hz.symm, h.hq, h.hz, h.r0, h.q0, h.z0, h.qr, h.zr, h.zq, h.w00⟩
theorem Lp.store (h : Lp w0 r q z av fb w s n bad cq cz v l) (j : Nat) (hj : j < cq.length) (u : Value) : Lp w0 r q z av fb (w.setCell ⟨q, j, none⟩ u) s n bad (cq.set j u) cz v l := by
  have ho : Only q w (w.setCell ⟨q, j, none⟩ u) := (Only.refl q w).set j u
  exact ⟨h.rd.other h.qm h.qr ho, h.qm, h.own, Kd.R_step h.row (fun k hk hlt => ho.block k hlt (fun e => hk (e ▸ h.qf))), h.rf, h.qf, h.zf, h.bel.setCell h.q0 u, h.hg.only ho (by have := h.w00; have := h.q0; omega),
    h.qc.set j hj u, h.zc.only h.hz ho h.zq, by rw [List.length_set]; exact h.hq, h.hz, h.r0, h.q0, h.z0, h.qr, h.zr, h.zq, h.w00⟩
theorem Lp.grown {v1 : Value} {l1 : List S74} (h : Lp w0 r q z av fb w s n bad cq cz v l) (hR : Kd.R k74 74 w' w0.heap.size (fun k => k ∉ fb) v1 l1) (hB : Below w0.heap.size w0 w') (hg : w.grownBy w' v.ownBlock)
    (hat : v1.ownBlock = v.ownBlock ∨ ∃ b, v1.ownBlock = some b ∧ w.heap.size ≤ b) : Lp w0 r q z (v1.ownBlock.toList ++ av) fb w' s n bad cq cz v1 l1 := by
  have hne : ∀ k, k ∈ fb → some k ≠ v.ownBlock := fun k hk e => h.row.1 k e.symm hk
  have hl := h.lt
  have hcell : ∀ b, b ∈ fb → b < w.heap.size → ∀ o, w'.cell? ⟨b, o, none⟩ = w.cell? ⟨b, o, none⟩ := fun b hb hlt o => World.cell?_of_block (w := w) (hg.block b hlt (hne b hb))
  have hfro : ∀ b, b ∈ fb → b < w.heap.size → ∀ o, w'.frozen? ⟨b, o, none⟩ = w.frozen? ⟨b, o, none⟩ := fun b hb hlt o => World.frozen?_of_block (w := w) (hg.block b hlt (hne b hb))
  have hown : ∀ k, v1.ownBlock = some k → k < w'.heap.size := fun k hk => by
    obtain ⟨inner, ho⟩ := Kd.R_own hR
    exact own_lt ho k hk
  have hrd : Rd w' r (v1.ownBlock.toList ++ av) s n bad := by
    refine h.rd.keep hg.size (fun k hlt hk => hg.block k hlt (fun e => ?_)) (List.mem_append_right _ h.rd.mem) (fun a ha => ?_) (fun a ha => ?_)
    · rcases hk with hk | hk
      · subst hk
        exact hne k h.rf e
      · exact hk (h.own k e.symm)
    · rcases List.mem_append.1 ha with ha | ha
      · exact hown a (by simpa using ha)
      · exact Nat.lt_of_lt_of_le (h.rd.lt a ha) hg.size
    · rcases List.mem_append.1 ha with ha | ha
      · have ha : v1.ownBlock = some a := by simpa using ha
        rcases hat with hat | ⟨b, hb, hle⟩
        · exact .inl (h.own a (hat ▸ ha))
        · rw [hb] at ha
          cases ha
          exact .inr hle
      · exact .inl ha
  refine ⟨hrd, List.mem_append_right _ h.qm, fun k hk => List.mem_append_left _ (by simp [hk]), hR, h.rf, h.qf, h.zf, hB, ?_, ⟨fun j hj => (hcell q h.qf hl.2.1 j).trans (h.qc.c j hj), fun o => (hfro q h.qf hl.2.1 o).trans (h.qc.f o)⟩, ⟨fun j hj => (hcell z h.zf hl.2.2 j).trans (h.zc.c j hj), fun o => (hfro z h.zf hl.2.2 o).trans (h.zc.f o)⟩, h.hq, h.hz, h.r0, h.q0, h.z0, h.qr, h.zr, h.zq, h.w00⟩
  have hg0 : 0 < w.heap.size := Nat.lt_of_lt_of_le h.w00 h.bel.size
  have h00 : some 0 ≠ v.ownBlock := fun e => by
    obtain ⟨inner, ho⟩ := Kd.R_own h.row
    have := own_base ho 0 e.symm
    have := h.w00
    omega
  exact (World.cell?_of_block (w := w) (a := ⟨0, 0, none⟩) (hg.block 0 hg0 h00)).trans h.hg
theorem Lp.less {fb' : List Nat} (h : Lp w0 r q z av fb w s n bad cq cz v l) (hs : ∀ a ∈ fb', a ∈ fb) (rf : r ∈ fb') (qf : q ∈ fb') (zf : z ∈ fb') : Lp w0 r q z av fb' w s n bad cq cz v l :=
  ⟨h.rd, h.qm, h.own, Kd.R_mono h.row (fun k hk hm => hk (hs k hm)), rf, qf, zf, h.bel, h.hg, h.qc, h.zc, h.hq, h.hz, h.r0, h.q0, h.z0, h.qr, h.zr, h.zq, h.w00⟩
end
end Go.Proofs.YtlpcidjmaeicoaaDoor.Reader
namespace Go.Proofs.YtlpcidjmaeicoaaDoor.Reader
open Go Go.RowKit Go.Proofs.YtlpcidjmaeicoaaDoor.DecM Go.Proofs.YtlpcidjmaeicoaaDoor.Giv Go.Proofs.YtlpcidjmaeicoaaDoor.Err Go.Proofs.YtlpcidjmaeicoaaDoorW.PrintWords Go.Proofs.YtlpcidjmaeicoaaDoorW.PrintLast Go.Proofs.YtlpcidjmaeicoaaDoor.QWi
set_option linter.unusedSimpArgs false
theorem load_rep (W : World) (b : Nat) (l : List Value) (h : CellsAt W b l) (v0 v1 v2 v3 v4 v5 v6 v7 : Value) (hl : l = [v0, v1, v2, v3, v4, v5, v6, v7]) :
    (loadVar 41 ⟨b, 0, none⟩).run Tryd.prog W = .ok (.agg #[v0, v1, v2, v3, v4, v5, v6, v7]) W := by
  subst hl
  have x0 : W.cell? ⟨b, 0, none⟩ = some v0 := h.c 0 (by simp)
  have x1 : W.cell? ⟨b, 1, none⟩ = some v1 := h.c 1 (by simp)
  have x2 : W.cell? ⟨b, 2, none⟩ = some v2 := h.c 2 (by simp)
  have x3 : W.cell? ⟨b, 3, none⟩ = some v3 := h.c 3 (by simp)
  have x4 : W.cell? ⟨b, 4, none⟩ = some v4 := h.c 4 (by simp)
  have x5 : W.cell? ⟨b, 5, none⟩ = some v5 := h.c 5 (by simp)
  have x6 : W.cell? ⟨b, 6, none⟩ = some v6 := h.c 6 (by simp)
  have x7 : W.cell? ⟨b, 7, none⟩ = some v7 := h.c 7 (by simp)
  clear h
  go_simp
theorem w_nat (i : Nat) (h : i < 9223372036854775807) : wrap64 ((i : Int) + 1) = ((i + 1 : Nat) : Int) := by
  unfold wrap64
  omega
def repOut (P : S41 × Int) (vr : Value) : Value := .tuple #[.agg #[.int .i64 P.1.f0, .int .i64 P.1.f1, .int .i64 P.1.f2, .int .i64 P.1.f3, .string P.1.f4, .bool P.1.f5, vr, .bool P.1.f7], .int .i64 P.2]
end Go.Proofs.YtlpcidjmaeicoaaDoor.Reader
namespace Go.Proofs.YtlpcidjmaeicoaaDoor.QWi
open Go.RowKit Go.Proofs.YtlpcidjmaeicoaaDoorW.PrintWords Go.Proofs.YtlpcidjmaeicoaaDoorW.PrintLast Go.Proofs.YtlpcidjmaeicoaaDoorW.PrintMore
attribute [local go_sem] max2_int min2_int max_two min_two max_three min_three max_four min_four
set_option linter.unusedVariables false
set_option linter.unusedSimpArgs false
theorem eqA23 (d : Nat) (w : World) (x0 y0 : Int) (x1 y1 : ByteArray) (x2 y2 : ByteArray) (x3 y3 : ByteArray) (x4 y4 : ByteArray) (x5 y5 : Int) :
    (Op.equalIn (d + 2) 23 (.agg #[.int .i64 x0, .string x1, .string x2, .string x3, .string x4, .int .i64 x5]) (.agg #[.int .i64 y0, .string y1, .string y2, .string y3, .string y4, .int .i64 y5])).run Tryd.prog w = .ok (x0 == y0 && (x1.toList == y1.toList && (x2.toList == y2.toList && (x3.toList == y3.toList && (x4.toList == y4.toList && (x5 == y5)))))) w := by
  refine eqA_of Tryd.underlying23 (by kernel_rfl) ?_
  refine eqf_cons (by rfl) (by go_simp; rfl) (by go_simp; rfl) (by go_simp) ?_
  refine eqf_cons (by rfl) (by go_simp; rfl) (by go_simp; rfl) (by go_simp) ?_
  refine eqf_cons (by rfl) (by go_simp; rfl) (by go_simp; rfl) (by go_simp) ?_
  refine eqf_cons (by rfl) (by go_simp; rfl) (by go_simp; rfl) (by go_simp) ?_
  refine eqf_cons (by rfl) (by go_simp; rfl) (by go_simp; rfl) (by go_simp) ?_
  exact eqf_last (by rfl) (by go_simp; rfl) (by go_simp; rfl) (by go_simp)
end Go.Proofs.YtlpcidjmaeicoaaDoor.QWi
