/- errors.As at a code and at a fault: what the model's entries for reflectlite come to at these types. -/
import Derived.Test.YtiehdfokcnphdaaGreatDoorEr
import Derived.WalkKit
import Derived.LaidEql
import Derived.Stop.Asserts
import Derived.RowKitTokens
set_option linter.unusedVariables false
set_option linter.unusedSimpArgs false
namespace Go.Proofs.YtiehdfokcnphdaaGreatDoor
open Go.RowKit Go.Extern.Stop Go.Stop Go.Extern

theorem rlm (z : Sem Value) (f : TypeId → Addr → Nat → Nat → Sem Value) (v : Value) :
    ReflectliteValue.method z f #[v] = (do match ← ReflectliteValue.parts v with | none => z | some (t, a, fl) => f t a fl (fl % 32)) := rfl
theorem rls (v x : Value) : ReflectliteValue.set #[v, x] = (do
    let (some (dst, a, fl), some (src, b, _)) := (← ReflectliteValue.parts v, ← ReflectliteValue.parts x)
      | unsupported (.noEntry "extern/(internal/reflectlite.Value).Set.zeroValue")
    if fl / ReflectliteValue.flagAddr % 2 == 0 then unsupported (.noEntry "extern/(internal/reflectlite.Value).Set.unaddressable")
    let val ← loadVar src b
    if ← Rtype.directlyAssignable dst src then storeVar dst a val
    else if ← Rtype.implements dst src then
      if (← Rtype.kind src) == 20 then
        match val with
        | .nilIface => unsupported (.noEntry "extern/reflectlite: a nil value of one interface type handed on as a value of another")
        | _ => storeVar dst a val
      else storeVar dst a (.iface src val)
    else panicString ("reflectlite.Set: value of type " ++ (← Rtype.spelt src) ++ " is not assignable to type " ++ (← Rtype.spelt dst))
    pure (.tuple #[])) := rfl
abbrev mValueOf : Array Value → Sem Value := fun args => ReflectliteValue.unpack (args.getD 0 (.tuple #[]))
abbrev mType : Array Value → Sem Value := ReflectliteValue.methodAny (ReflectliteValue.valueError "reflectlite.Value.Type" 0) (fun t _ _ _ => ReflectliteType.toType t)
abbrev mIsNil : Array Value → Sem Value := ReflectliteValue.method (ReflectliteValue.valueError "reflectlite.Value.IsNil" 0) ReflectliteValue.isNil
abbrev mKind : Array Value → Sem Value := ReflectliteType.abiMethod fun t => do pure (.int .u8 (← Rtype.kind t))
abbrev mElem : Array Value → Sem Value := ReflectliteType.method ReflectliteType.elem
abbrev mImplements : Array Value → Sem Value := ReflectliteType.relation "Implements" ReflectliteType.implements_
abbrev mAssignableTo : Array Value → Sem Value := ReflectliteType.relation "AssignableTo" ReflectliteType.assignableTo
abbrev mElemV : Array Value → Sem Value := ReflectliteValue.method (ReflectliteValue.valueError "reflectlite.Value.Elem" 0) ReflectliteValue.elem
theorem methodKind (n : Nat) (h : Value) (w : World) : (Go.method (n + 1) 128 (.agg #[h]) "Kind").run Tryz.prog w = .ok (125, h) w := by kernel_rfl
theorem methodElem (n : Nat) (h : Value) (w : World) : (Go.method (n + 1) 128 (.agg #[h]) "Elem").run Tryz.prog w = .ok (139, .agg #[h]) w := by kernel_rfl
theorem methodImplements (n : Nat) (h : Value) (w : World) : (Go.method (n + 1) 128 (.agg #[h]) "Implements").run Tryz.prog w = .ok (140, .agg #[h]) w := by kernel_rfl
theorem methodAssignableTo (n : Nat) (h : Value) (w : World) : (Go.method (n + 1) 128 (.agg #[h]) "AssignableTo").run Tryz.prog w = .ok (137, .agg #[h]) w := by kernel_rfl

theorem valueOfPC (t : Addr) (w : World) : (mValueOf #[.iface 70 (.pointer (some t))]).run Tryz.prog w
    = .ok (.agg #[typeHandle Tryz.prog 70, .pointer (some ⟨w.heap.size, 0, none⟩), .int .u64 150]) (w.alloc (.cells #[.pointer (some t)] 70)) := by kernel_rfl
theorem typePC (a : Addr) (w : World) : (mType #[.agg #[typeHandle Tryz.prog 70, .pointer (some a), .int .u64 150]]).run Tryz.prog w
    = .ok (.iface 128 (.agg #[typeHandle Tryz.prog 70])) w := by kernel_rfl
theorem kindPC (w : World) : (mKind #[typeHandle Tryz.prog 70]).run Tryz.prog w = .ok (.int .u8 22) w := by kernel_rfl
theorem kindEC (w : World) : (mKind #[typeHandle Tryz.prog 66]).run Tryz.prog w = .ok (.int .u8 2) w := by kernel_rfl
theorem partsPC (a : Addr) (w : World) : (ReflectliteValue.parts (.agg #[typeHandle Tryz.prog 70, .pointer (some a), .int .u64 150])).run Tryz.prog w = .ok (some (70, a, 150)) w := by kernel_rfl
theorem isNilPC (a p : Addr) (W : World) (ha : W.cell? a = some (.pointer (some p))) :
    (mIsNil #[.agg #[typeHandle Tryz.prog 70, .pointer (some a), .int .u64 150]]).run Tryz.prog W = .ok (.bool false) W := by
  unfold mIsNil
  rw [rlm]
  simp only [Sem.run_bind, partsPC, Result.andThen]
  simp [ReflectliteValue.isNil, loadVar, isAgg, underlying, Tryz.underlying70, ha, Result.andThen]
theorem elemPC (w : World) : (mElem #[.agg #[typeHandle Tryz.prog 70]]).run Tryz.prog w = .ok (.iface 128 (.agg #[typeHandle Tryz.prog 66])) w := by kernel_rfl
theorem implementsEC (w : World) : (mImplements #[.agg #[typeHandle Tryz.prog 66], .iface 128 (.agg #[typeHandle Tryz.prog 29])]).run Tryz.prog w = .ok (.bool true) w := by kernel_rfl
theorem typeOfEC (v : Value) (w : World) : (ReflectliteType.typeOf #[.iface 66 v]).run Tryz.prog w = .ok (.iface 128 (.agg #[typeHandle Tryz.prog 66])) w := by kernel_rfl
theorem assignableEC (w : World) : (mAssignableTo #[.agg #[typeHandle Tryz.prog 66], .iface 128 (.agg #[typeHandle Tryz.prog 66])]).run Tryz.prog w = .ok (.bool true) w := by kernel_rfl
theorem valueOfEC (x : Int) (w : World) : (mValueOf #[.iface 66 (.int .i64 x)]).run Tryz.prog w
    = .ok (.agg #[typeHandle Tryz.prog 66, .pointer (some ⟨w.heap.size, 0, none⟩), .int .u64 130]) (w.alloc (.cells #[.int .i64 x] 66)) := by kernel_rfl
theorem elemOfPC (w : World) : (Rtype.elem? 70).run Tryz.prog w = .ok (some 66) w := by kernel_rfl
theorem mkEC (p : Addr) (w : World) : (ReflectliteValue.mk 66 p ReflectliteValue.flagAddr).run Tryz.prog w = .ok (.agg #[typeHandle Tryz.prog 66, .pointer (some p), .int .u64 386]) w := by kernel_rfl
theorem elemVPC (a p : Addr) (W : World) (ha : W.cell? a = some (.pointer (some p))) :
    (mElemV #[.agg #[typeHandle Tryz.prog 70, .pointer (some a), .int .u64 150]]).run Tryz.prog W
      = .ok (.agg #[typeHandle Tryz.prog 66, .pointer (some p), .int .u64 386]) W := by
  unfold mElemV
  rw [rlm]
  simp only [Sem.run_bind, partsPC, Result.andThen]
  simp [ReflectliteValue.elem, loadVar, isAgg, underlying, Tryz.underlying70, ha, Result.andThen, elemOfPC, mkEC]
theorem partsEaC (a : Addr) (w : World) : (ReflectliteValue.parts (.agg #[typeHandle Tryz.prog 66, .pointer (some a), .int .u64 386])).run Tryz.prog w = .ok (some (66, a, 386)) w := by kernel_rfl
theorem partsEC (a : Addr) (w : World) : (ReflectliteValue.parts (.agg #[typeHandle Tryz.prog 66, .pointer (some a), .int .u64 130])).run Tryz.prog w = .ok (some (66, a, 130)) w := by kernel_rfl
theorem directEC (w : World) : (Rtype.directlyAssignable 66 66).run Tryz.prog w = .ok true w := by kernel_rfl
theorem setEC (ta b : Addr) (x : Int) (old : Value) (W : World) (hb : W.cell? b = some (.int .i64 x)) (ht : W.cell? ta = some old) (hf : W.frozen? ta = false) :
    (ReflectliteValue.set #[.agg #[typeHandle Tryz.prog 66, .pointer (some ta), .int .u64 386], .agg #[typeHandle Tryz.prog 66, .pointer (some b), .int .u64 130]]).run Tryz.prog W
      = .ok (.tuple #[]) (W.setCell ta (.int .i64 x)) := by
  rw [rls]
  simp only [Sem.run_bind, partsEaC, partsEC, Result.andThen]
  simp [ReflectliteValue.flagAddr, loadVar, isAgg, underlying, Tryz.underlying66, hb, Result.andThen, directEC, storeVar, Value.cells, storeCells, Addr.add]
  rw [run_store Tryz.prog W ta _ _ (by rfl)]
  simp [ht, hf]

theorem valueOfPF (t : Addr) (w : World) : (mValueOf #[.iface 72 (.pointer (some t))]).run Tryz.prog w
    = .ok (.agg #[typeHandle Tryz.prog 72, .pointer (some ⟨w.heap.size, 0, none⟩), .int .u64 150]) (w.alloc (.cells #[.pointer (some t)] 72)) := by kernel_rfl
theorem typePF (a : Addr) (w : World) : (mType #[.agg #[typeHandle Tryz.prog 72, .pointer (some a), .int .u64 150]]).run Tryz.prog w
    = .ok (.iface 128 (.agg #[typeHandle Tryz.prog 72])) w := by kernel_rfl
theorem kindPF (w : World) : (mKind #[typeHandle Tryz.prog 72]).run Tryz.prog w = .ok (.int .u8 22) w := by kernel_rfl
theorem kindEF (w : World) : (mKind #[typeHandle Tryz.prog 71]).run Tryz.prog w = .ok (.int .u8 22) w := by kernel_rfl
theorem partsPF (a : Addr) (w : World) : (ReflectliteValue.parts (.agg #[typeHandle Tryz.prog 72, .pointer (some a), .int .u64 150])).run Tryz.prog w = .ok (some (72, a, 150)) w := by kernel_rfl
theorem isNilPF (a p : Addr) (W : World) (ha : W.cell? a = some (.pointer (some p))) :
    (mIsNil #[.agg #[typeHandle Tryz.prog 72, .pointer (some a), .int .u64 150]]).run Tryz.prog W = .ok (.bool false) W := by
  unfold mIsNil
  rw [rlm]
  simp only [Sem.run_bind, partsPF, Result.andThen]
  simp [ReflectliteValue.isNil, loadVar, isAgg, underlying, Tryz.underlying72, ha, Result.andThen]
theorem elemPF (w : World) : (mElem #[.agg #[typeHandle Tryz.prog 72]]).run Tryz.prog w = .ok (.iface 128 (.agg #[typeHandle Tryz.prog 71])) w := by kernel_rfl
theorem implementsEF (w : World) : (mImplements #[.agg #[typeHandle Tryz.prog 71], .iface 128 (.agg #[typeHandle Tryz.prog 29])]).run Tryz.prog w = .ok (.bool true) w := by kernel_rfl
theorem typeOfEF (v : Value) (w : World) : (ReflectliteType.typeOf #[.iface 71 v]).run Tryz.prog w = .ok (.iface 128 (.agg #[typeHandle Tryz.prog 71])) w := by kernel_rfl
theorem assignableEF (w : World) : (mAssignableTo #[.agg #[typeHandle Tryz.prog 71], .iface 128 (.agg #[typeHandle Tryz.prog 71])]).run Tryz.prog w = .ok (.bool true) w := by kernel_rfl
theorem valueOfEF (x : Addr) (w : World) : (mValueOf #[.iface 71 (.pointer (some x))]).run Tryz.prog w
    = .ok (.agg #[typeHandle Tryz.prog 71, .pointer (some ⟨w.heap.size, 0, none⟩), .int .u64 150]) (w.alloc (.cells #[.pointer (some x)] 71)) := by kernel_rfl
theorem elemOfPF (w : World) : (Rtype.elem? 72).run Tryz.prog w = .ok (some 71) w := by kernel_rfl
theorem mkEF (p : Addr) (w : World) : (ReflectliteValue.mk 71 p ReflectliteValue.flagAddr).run Tryz.prog w = .ok (.agg #[typeHandle Tryz.prog 71, .pointer (some p), .int .u64 406]) w := by kernel_rfl
theorem elemVPF (a p : Addr) (W : World) (ha : W.cell? a = some (.pointer (some p))) :
    (mElemV #[.agg #[typeHandle Tryz.prog 72, .pointer (some a), .int .u64 150]]).run Tryz.prog W
      = .ok (.agg #[typeHandle Tryz.prog 71, .pointer (some p), .int .u64 406]) W := by
  unfold mElemV
  rw [rlm]
  simp only [Sem.run_bind, partsPF, Result.andThen]
  simp [ReflectliteValue.elem, loadVar, isAgg, underlying, Tryz.underlying72, ha, Result.andThen, elemOfPF, mkEF]
theorem partsEaF (a : Addr) (w : World) : (ReflectliteValue.parts (.agg #[typeHandle Tryz.prog 71, .pointer (some a), .int .u64 406])).run Tryz.prog w = .ok (some (71, a, 406)) w := by kernel_rfl
theorem partsEF (a : Addr) (w : World) : (ReflectliteValue.parts (.agg #[typeHandle Tryz.prog 71, .pointer (some a), .int .u64 150])).run Tryz.prog w = .ok (some (71, a, 150)) w := by kernel_rfl
theorem directEF (w : World) : (Rtype.directlyAssignable 71 71).run Tryz.prog w = .ok true w := by kernel_rfl
theorem setEF (ta b : Addr) (x : Addr) (old : Value) (W : World) (hb : W.cell? b = some (.pointer (some x))) (ht : W.cell? ta = some old) (hf : W.frozen? ta = false) :
    (ReflectliteValue.set #[.agg #[typeHandle Tryz.prog 71, .pointer (some ta), .int .u64 406], .agg #[typeHandle Tryz.prog 71, .pointer (some b), .int .u64 150]]).run Tryz.prog W
      = .ok (.tuple #[]) (W.setCell ta (.pointer (some x))) := by
  rw [rls]
  simp only [Sem.run_bind, partsEaF, partsEF, Result.andThen]
  simp [ReflectliteValue.flagAddr, loadVar, isAgg, underlying, Tryz.underlying71, hb, Result.andThen, directEF, storeVar, Value.cells, storeCells, Addr.add]
  rw [run_store Tryz.prog W ta _ _ (by rfl)]
  simp [ht, hf]

/-- A fault is not a code; a code not a fault. -/
theorem assignableFC (w : World) : (mAssignableTo #[.agg #[typeHandle Tryz.prog 71], .iface 128 (.agg #[typeHandle Tryz.prog 66])]).run Tryz.prog w = .ok (.bool false) w := by kernel_rfl
theorem assignableCF (w : World) : (mAssignableTo #[.agg #[typeHandle Tryz.prog 66], .iface 128 (.agg #[typeHandle Tryz.prog 71])]).run Tryz.prog w = .ok (.bool false) w := by kernel_rfl
theorem noAsC (v : Value) (xT : TypeId) (w : World) : (Instr.typeAssert (.iface 66 v) xT 133 true).run Tryz.prog w = .ok (.tuple #[.nilIface, .bool false]) w := run_typeAssert_lacksB Tryz.underlying133 (by kernel_rfl) (by kernel_rfl) v xT w
theorem noAsF (v : Value) (xT : TypeId) (w : World) : (Instr.typeAssert (.iface 71 v) xT 133 true).run Tryz.prog w = .ok (.tuple #[.nilIface, .bool false]) w := run_typeAssert_lacksB Tryz.underlying133 (by kernel_rfl) (by kernel_rfl) v xT w
theorem noUnwrapC (v : Value) (xT : TypeId) (w : World) : (Instr.typeAssert (.iface 66 v) xT 136 true).run Tryz.prog w = .ok (.tuple #[.nilIface, .bool false]) w := run_typeAssert_lacksB Tryz.underlying136 (by kernel_rfl) (by kernel_rfl) v xT w
theorem noUnwrapsC (v : Value) (xT : TypeId) (w : World) : (Instr.typeAssert (.iface 66 v) xT 138 true).run Tryz.prog w = .ok (.tuple #[.nilIface, .bool false]) w := run_typeAssert_lacksB Tryz.underlying138 (by kernel_rfl) (by kernel_rfl) v xT w
theorem hasUnwrapF (a : Addr) (xT : TypeId) (w : World) : (Instr.typeAssert (.iface 71 (.pointer (some a))) xT 136 true).run Tryz.prog w = .ok (.tuple #[.iface 71 (.pointer (some a)), .bool true]) w := by kernel_rfl
theorem methodUnwrap (n : Nat) (a : Addr) (w : World) : (Go.method (n + 1) 71 (.pointer (some a)) "Unwrap").run Tryz.prog w = .ok (132, .pointer (some a)) w := by kernel_rfl
end Go.Proofs.YtiehdfokcnphdaaGreatDoor
