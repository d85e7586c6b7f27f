/- errors.Is: at codes. -/
import Derived.Test.YtgnoaeldmpbjmaaProg
import Derived.WalkKit
import Derived.LaidEql
import Derived.Stop.Asserts
import Derived.RowKitTokens
import Derived.Lib.Hide
import Derived.Below
namespace Go.Proofs.Ytgnoaeldmpbjmaa
open Go.RowKit Go.Extern.Stop Go.Stop Go.Extern
section
variable {P : Program} (w : World)
theorem run_equalIn_iface_int (d : Nat) {ti tn : TypeId} {ms : Array (String × TypeId)} {i : TypeInfo} {k : IntKind} (a b : Int)
    (hi : P.underlying ti = some (.interface ms)) (hn : P.underlying tn = some (.int k)) (hinfo : P.info? tn = some i) (hcomp : i.comparable = true) :
    (Op.equalIn (d + 2) ti (.iface tn (.int k a)) (.iface tn (.int k b))).run P w = .ok (a == b) w := by
  simp [Op.equalIn, run_underlying hi, run_underlying hn, typeInfo, hinfo, hcomp]
/-- 'x == y', both interface values of one integer type: as the numbers are. -/
theorem run_eql_iface_int {ti tn : TypeId} {ms : Array (String × TypeId)} {i : TypeInfo} {k : IntKind} (a b : Int)
    (hi : P.underlying ti = some (.interface ms)) (hn : P.underlying tn = some (.int k)) (hinfo : P.info? tn = some i) (hcomp : i.comparable = true) :
    (binOp .eql ti (.iface tn (.int k a)) (.iface tn (.int k b))).run P w = .ok (.bool (a == b)) w := by
  simp only [binOp]
  simp [Op.equal, Op.maxDepth, run_equalIn_iface_int w 9998 a b hi hn hinfo hcomp]
end

theorem isTypeOf (v : Value) (w : World) : (Extern.ReflectliteType.typeOf #[.iface 36 v]).run Try.prog w = .ok (.iface 68 (.agg #[typeHandle Try.prog 36])) w := by kernel_rfl
def compMethod : Array Value → Sem Value := Extern.ReflectliteType.method fun t => do Go.Extern.Rtype.noPackHeld "Comparable" t; pure (.bool (← typeInfo t).comparable)
theorem isComparable (w : World) : (compMethod #[.agg #[typeHandle Try.prog 36]]).run Try.prog w = .ok (.bool true) w := by kernel_rfl
theorem isMethodComparable (n : Nat) (v : Value) (w : World) : (Go.method (n + 1) 68 v "Comparable").run Try.prog w = .ok (96, v) w := by kernel_rfl
theorem isComp : (Try.prog.info? 36).map (·.comparable) = some true := by kernel_rfl
theorem noIs (v : Value) (xT : TypeId) (w : World) : (Instr.typeAssert (.iface 36 v) xT 70 true).run Try.prog w = .ok (.tuple #[.nilIface, .bool false]) w := run_typeAssert_lacksB Try.underlying70 (by kernel_rfl) (by kernel_rfl) v xT w
theorem noUnwrap (v : Value) (xT : TypeId) (w : World) : (Instr.typeAssert (.iface 36 v) xT 73 true).run Try.prog w = .ok (.tuple #[.nilIface, .bool false]) w := run_typeAssert_lacksB Try.underlying73 (by kernel_rfl) (by kernel_rfl) v xT w
theorem noUnwraps (v : Value) (xT : TypeId) (w : World) : (Instr.typeAssert (.iface 36 v) xT 75 true).run Try.prog w = .ok (.tuple #[.nilIface, .bool false]) w := run_typeAssert_lacksB Try.underlying75 (by kernel_rfl) (by kernel_rfl) v xT w

theorem is_in (c d : Int) (w : World) :
    Calls Try.prog 20 #[.iface 36 (.int .i64 c), .iface 36 (.int .i64 d), .bool true] w fun e w' => e = .returned (.bool (c == d)) ∧ w = w' := by
  obtain ⟨i, hi, hcmp⟩ := Option.map_eq_some_iff.1 isComp
  have nI := noIs
  have nU := noUnwrap
  have nV := noUnwraps
  have heq := run_eql_iface_int (P := Try.prog) w c d Try.underlying26 Try.underlying36 hi hcmp
  by_cases h : (c == d) = true
  · go_enter Try.func20, Try.ntmps20
    go_wp2
    refine wp_loop_rounds 1 ?_
    rw [rounds_succ]
    go_wp2
    go_ret
    exact ⟨by rw [h]; rfl, rfl⟩
  · have h : (c == d) = false := by simpa using h
    go_enter Try.func20, Try.ntmps20
    go_wp2
    refine wp_loop_rounds 1 ?_
    rw [rounds_succ]
    go_wp2
    go_ret
    exact ⟨by rw [h]; rfl, rfl⟩
theorem is_code (c d : Int) (w : World) :
    Calls Try.prog 10 #[.iface 36 (.int .i64 c), .iface 36 (.int .i64 d)] w fun e w' => e = .returned (.bool (c == d)) ∧ w = w' := by
  have h8 := @run_callFunc_extern Try.prog 19 _ Extern.ReflectliteType.typeOf Try.func19 (by kernel_rfl) (by kernel_rfl) (by kernel_rfl) (by kernel_rfl)
  have h32 := @run_callFunc_extern Try.prog 96 _ compMethod Try.func96 (by kernel_rfl) (by kernel_rfl) (by kernel_rfl) (by kernel_rfl)
  have tT := isTypeOf
  have cT := isComparable
  have mR := isMethodComparable
  have HI := Lib.hid (is_in c d w)
  go_enter Try.func10, Try.ntmps10
  go_wp2_with fail
  refine HI.out.mono ?_
  rintro e w1 ⟨rfl, rfl⟩
  clear HI
  go_wp2_with fail
  go_ret
  exact ⟨rfl, rfl⟩
theorem is_nil (d : Int) (w : World) :
    Calls Try.prog 10 #[.nilIface, .iface 36 (.int .i64 d)] w fun e w' => e = .returned (.bool false) ∧ w = w' := by
  have hn := run_eql_iface_nil_left (P := Try.prog) w 36 (.int .i64 d) Try.underlying26
  go_enter Try.func10, Try.ntmps10
  go_wp2
  go_ret
  exact ⟨rfl, rfl⟩
end Go.Proofs.Ytgnoaeldmpbjmaa
