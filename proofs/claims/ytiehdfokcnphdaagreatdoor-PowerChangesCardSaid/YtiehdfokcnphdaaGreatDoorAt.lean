/- errors.As at a code and at a fault, walked. -/
import Derived.Test.YtiehdfokcnphdaaGreatDoorAs
set_option linter.unusedVariables false
set_option linter.unusedSimpArgs false
namespace Go.Proofs.YtiehdfokcnphdaaGreatDoor
open Go.RowKit Go.Extern.Stop Go.Stop Go.Extern

/-- What package errors has laid: the type error's handle. -/
def Et (w : World) : Prop := w.cell? ⟨0, 0, none⟩ = some (.iface 128 (.agg #[typeHandle Tryz.prog 29]))
theorem Et.pos {w : World} (h : Et w) : 0 < w.heap.size := World.block_lt_of_cell? w _ h
theorem Et.below {B : Nat} {w w' : World} (h : Et w) (hb : Below B w w') (hB : 0 < B) : Et w' := (hb.cell (p := ⟨0, 0, none⟩) hB).trans h
/-- A variable's block. -/
abbrev Var (w : World) (b : Nat) (T : TypeId) (v : Value) : Prop := w.heap[b]? = some (.cells #[v] T (0, 0))
theorem var_set {w : World} {b : Nat} {T : TypeId} {v u : Value} (h : Var w b T v) : Var (w.setCell ⟨b, 0, none⟩ u) b T u := by
  unfold Var at h ⊢
  rw [setCell_heap_at h]
  rfl

set_option maxRecDepth 100000 in
set_option maxHeartbeats 4000000 in
/-- as: the error is what is asked for. -/
theorem as_hitC (w : World) (tb ab : Nat) (x : Int) (old : Value) (ht : Var w tb 66 old) (ha : w.cell? ⟨ab, 0, none⟩ = some (.pointer (some ⟨tb, 0, none⟩))) :
    Calls Tryz.prog 45 #[.iface 66 (.int .i64 x), .iface 70 (.pointer (some ⟨tb, 0, none⟩)), .agg #[typeHandle Tryz.prog 70, .pointer (some ⟨ab, 0, none⟩), .int .u64 150], .iface 128 (.agg #[typeHandle Tryz.prog 66])] w
      fun e w' => e = .returned (.bool true) ∧ Var w' tb 66 (.int .i64 x) ∧ Fr (fun i => i = tb) w w' := by
  have hTO := @run_callFunc_extern Tryz.prog 60 _ ReflectliteType.typeOf Tryz.func60 (by kernel_rfl) (by kernel_rfl) (by kernel_rfl) (by kernel_rfl)
  have hVO := @run_callFunc_extern Tryz.prog 42 _ mValueOf Tryz.func42 (by kernel_rfl) (by kernel_rfl) (by kernel_rfl) (by kernel_rfl)
  have hAS := @run_callFunc_extern Tryz.prog 137 _ mAssignableTo Tryz.func137 (by kernel_rfl) (by kernel_rfl) (by kernel_rfl) (by kernel_rfl)
  have hEV := @run_callFunc_extern Tryz.prog 61 _ mElemV Tryz.func61 (by kernel_rfl) (by kernel_rfl) (by kernel_rfl) (by kernel_rfl)
  have hSE := @run_callFunc_extern Tryz.prog 62 _ ReflectliteValue.set Tryz.func62 (by kernel_rfl) (by kernel_rfl) (by kernel_rfl) (by kernel_rfl)
  have tO := typeOfEC
  have mA := methodAssignableTo
  have aE := assignableEC
  have vE := valueOfEC
  have htl := blk_lt ht
  have hal := World.block_lt_of_cell? w _ ha
  have ht0 : w.cell? ⟨tb, 0, none⟩ = some old := cell_at (j := 0) ht rfl
  have hf0 := frozen_at (j := 0) ht
  have el := elemVPC ⟨ab, 0, none⟩ ⟨tb, 0, none⟩ (w.alloc (.cells #[typeHandle Tryz.prog 70, .pointer (some ⟨ab, 0, none⟩), .int .u64 150] 105)) ((cell_old _ _ _ hal).trans ha)
  have st := setEC ⟨tb, 0, none⟩ ⟨w.heap.size + 1, 0, none⟩ x old ((w.alloc (.cells #[typeHandle Tryz.prog 70, .pointer (some ⟨ab, 0, none⟩), .int .u64 150] 105)).alloc (.cells #[.int .i64 x] 66))
    (cell_new _ _ _ _ _ _ (by simp))
    ((cell_old _ _ _ (by simp; omega)).trans ((cell_old _ _ _ htl).trans ht0))
    (by rw [World.frozen?_alloc_old _ _ _ (by simp; omega), World.frozen?_alloc_old _ _ _ (Nat.ne_of_lt htl)]; exact hf0)
  have HT := Lib.hid ht
  clear ht ht0 hf0
  go_enter Tryz.func45, Tryz.ntmps45
  go_wp2
  refine wp_loop_rounds 1 ?_
  rw [rounds_succ]
  go_wp2
  go_ret
  refine ⟨rfl, ?_, ?_⟩
  · exact (heap_old_at _ _ _ (by simp; omega)).trans ((heap_old_at _ _ _ (by simp; omega)).trans (var_set HT.out))
  · exact (Fr.setCell (S := fun i => i = tb) w ⟨tb, 0, none⟩ _ rfl).trans ((Fr.alloc _ _).trans (Fr.alloc _ _))

set_option maxRecDepth 100000 in
set_option maxHeartbeats 4000000 in
/-- as: the error is what is asked for. -/
theorem as_hitF (w : World) (tb ab : Nat) (x : Addr) (old : Value) (ht : Var w tb 71 old) (ha : w.cell? ⟨ab, 0, none⟩ = some (.pointer (some ⟨tb, 0, none⟩))) :
    Calls Tryz.prog 45 #[.iface 71 (.pointer (some x)), .iface 72 (.pointer (some ⟨tb, 0, none⟩)), .agg #[typeHandle Tryz.prog 72, .pointer (some ⟨ab, 0, none⟩), .int .u64 150], .iface 128 (.agg #[typeHandle Tryz.prog 71])] w
      fun e w' => e = .returned (.bool true) ∧ Var w' tb 71 (.pointer (some x)) ∧ Fr (fun i => i = tb) w w' := by
  have hTO := @run_callFunc_extern Tryz.prog 60 _ ReflectliteType.typeOf Tryz.func60 (by kernel_rfl) (by kernel_rfl) (by kernel_rfl) (by kernel_rfl)
  have hVO := @run_callFunc_extern Tryz.prog 42 _ mValueOf Tryz.func42 (by kernel_rfl) (by kernel_rfl) (by kernel_rfl) (by kernel_rfl)
  have hAS := @run_callFunc_extern Tryz.prog 137 _ mAssignableTo Tryz.func137 (by kernel_rfl) (by kernel_rfl) (by kernel_rfl) (by kernel_rfl)
  have hEV := @run_callFunc_extern Tryz.prog 61 _ mElemV Tryz.func61 (by kernel_rfl) (by kernel_rfl) (by kernel_rfl) (by kernel_rfl)
  have hSE := @run_callFunc_extern Tryz.prog 62 _ ReflectliteValue.set Tryz.func62 (by kernel_rfl) (by kernel_rfl) (by kernel_rfl) (by kernel_rfl)
  have tO := typeOfEF
  have mA := methodAssignableTo
  have aE := assignableEF
  have vE := valueOfEF
  have htl := blk_lt ht
  have hal := World.block_lt_of_cell? w _ ha
  have ht0 : w.cell? ⟨tb, 0, none⟩ = some old := cell_at (j := 0) ht rfl
  have hf0 := frozen_at (j := 0) ht
  have el := elemVPF ⟨ab, 0, none⟩ ⟨tb, 0, none⟩ (w.alloc (.cells #[typeHandle Tryz.prog 72, .pointer (some ⟨ab, 0, none⟩), .int .u64 150] 105)) ((cell_old _ _ _ hal).trans ha)
  have st := setEF ⟨tb, 0, none⟩ ⟨w.heap.size + 1, 0, none⟩ x old ((w.alloc (.cells #[typeHandle Tryz.prog 72, .pointer (some ⟨ab, 0, none⟩), .int .u64 150] 105)).alloc (.cells #[.pointer (some x)] 71))
    (cell_new _ _ _ _ _ _ (by simp))
    ((cell_old _ _ _ (by simp; omega)).trans ((cell_old _ _ _ htl).trans ht0))
    (by rw [World.frozen?_alloc_old _ _ _ (by simp; omega), World.frozen?_alloc_old _ _ _ (Nat.ne_of_lt htl)]; exact hf0)
  have HT := Lib.hid ht
  clear ht ht0 hf0
  go_enter Tryz.func45, Tryz.ntmps45
  go_wp2
  refine wp_loop_rounds 1 ?_
  rw [rounds_succ]
  go_wp2
  go_ret
  refine ⟨rfl, ?_, ?_⟩
  · exact (heap_old_at _ _ _ (by simp; omega)).trans ((heap_old_at _ _ _ (by simp; omega)).trans (var_set HT.out))
  · exact (Fr.setCell (S := fun i => i = tb) w ⟨tb, 0, none⟩ _ rfl).trans ((Fr.alloc _ _).trans (Fr.alloc _ _))

set_option maxRecDepth 100000 in
set_option maxHeartbeats 4000000 in
/-- as: a code is no fault. -/
theorem as_miss (w : World) (t : Value) (ab : Nat) (c : Int) :
    Calls Tryz.prog 45 #[.iface 66 (.int .i64 c), t, .agg #[typeHandle Tryz.prog 72, .pointer (some ⟨ab, 0, none⟩), .int .u64 150], .iface 128 (.agg #[typeHandle Tryz.prog 71])] w
      fun e w' => e = .returned (.bool false) ∧ Below w.heap.size w w' := by
  have hTO := @run_callFunc_extern Tryz.prog 60 _ ReflectliteType.typeOf Tryz.func60 (by kernel_rfl) (by kernel_rfl) (by kernel_rfl) (by kernel_rfl)
  have hAS := @run_callFunc_extern Tryz.prog 137 _ mAssignableTo Tryz.func137 (by kernel_rfl) (by kernel_rfl) (by kernel_rfl) (by kernel_rfl)
  have tO := typeOfEC
  have mA := methodAssignableTo
  have aE := assignableCF
  have n1 := noAsC
  have n2 := noUnwrapC
  have n3 := noUnwrapsC
  go_enter Tryz.func45, Tryz.ntmps45
  go_wp2
  refine wp_loop_rounds 1 ?_
  rw [rounds_succ]
  go_wp2
  go_ret
  exact ⟨rfl, (Below.refl _ _).alloc (Nat.le_refl _) _⟩
/-- How many faults lie about an error's code. -/
def fdepth (w : World) : Nat → Value → Nat
  | 0, _ => 0
  | n + 1, .iface _ (.pointer (some a)) => match w.heap[a.block]? with
    | some (.cells cs _ _) => fdepth w n (cs.getD 2 undef) + 1
    | _ => 0
  | _ + 1, _ => 0
theorem fdepth_of {w : World} {Q : Nat → Prop} {v : Value} {p : List ByteArray} {c : Int} (h : Flt w Q v p c) : ∀ n, p.length ≤ n → fdepth w n v = p.length := by
  induction h with
  | code c => intro n _; cases n <;> rfl
  | fault g f v p c hg hP h ih =>
    intro n hn
    cases n with
    | zero => simp at hn
    | succ n =>
      have := ih n (by simp at hn; omega)
      simp [fdepth, hg, this]
theorem Flt.shape {w : World} {Q : Nat → Prop} {v : Value} {p : List ByteArray} {c : Int} (h : Flt w Q v p c) : ∃ t u, v = .iface t u := by cases h <;> exact ⟨_, _, rfl⟩
theorem unwrap_calls (w : World) (g : Nat) (f : ByteArray) (v : Value) (hg : w.heap[g]? = some (.cells #[.int .i64 (-1), .string f, v] 74 (0, 0))) :
    Calls Tryz.prog 132 #[.pointer (some ⟨g, 0, none⟩)] w fun e w' => e = .returned v ∧ w' = w := by
  have k2 := cell_at (j := 2) hg rfl
  clear hg
  go_enter Tryz.func132, Tryz.ntmps132
  go_wp2_with fail
  go_ret
  exact ⟨rfl, rfl⟩
set_option maxRecDepth 100000 in
set_option maxHeartbeats 4000000 in
/-- as: the code within. -/
theorem as_code (w : World) (tb ab : Nat) (Q : Nat → Prop) (v : Value) (p : List ByteArray) (c : Int) (old : Value) (hf : Flt w Q v p c) (ht : Var w tb 66 old) (ha : w.cell? ⟨ab, 0, none⟩ = some (.pointer (some ⟨tb, 0, none⟩))) :
    Calls Tryz.prog 45 #[v, .iface 70 (.pointer (some ⟨tb, 0, none⟩)), .agg #[typeHandle Tryz.prog 70, .pointer (some ⟨ab, 0, none⟩), .int .u64 150], .iface 128 (.agg #[typeHandle Tryz.prog 66])] w
      fun e w' => e = .returned (.bool true) ∧ Var w' tb 66 (.int .i64 c) ∧ Fr (fun i => i = tb) w w' := by
  have hTO := @run_callFunc_extern Tryz.prog 60 _ ReflectliteType.typeOf Tryz.func60 (by kernel_rfl) (by kernel_rfl) (by kernel_rfl) (by kernel_rfl)
  have hVO := @run_callFunc_extern Tryz.prog 42 _ mValueOf Tryz.func42 (by kernel_rfl) (by kernel_rfl) (by kernel_rfl) (by kernel_rfl)
  have hAS := @run_callFunc_extern Tryz.prog 137 _ mAssignableTo Tryz.func137 (by kernel_rfl) (by kernel_rfl) (by kernel_rfl) (by kernel_rfl)
  have hEV := @run_callFunc_extern Tryz.prog 61 _ mElemV Tryz.func61 (by kernel_rfl) (by kernel_rfl) (by kernel_rfl) (by kernel_rfl)
  have hSE := @run_callFunc_extern Tryz.prog 62 _ ReflectliteValue.set Tryz.func62 (by kernel_rfl) (by kernel_rfl) (by kernel_rfl) (by kernel_rfl)
  have tO := typeOfEC
  have tOF := typeOfEF
  have mA := methodAssignableTo
  have mU := methodUnwrap
  have aE := assignableEC
  have aF := assignableFC
  have vE := valueOfEC
  have n1 := noAsC
  have n4 := noAsF
  have n5 := hasUnwrapF
  have htl := blk_lt ht
  have hal := World.block_lt_of_cell? w _ ha
  have ht0 : w.cell? ⟨tb, 0, none⟩ = some old := cell_at (j := 0) ht rfl
  have hf0 := frozen_at (j := 0) ht
  have el := elemVPC ⟨ab, 0, none⟩ ⟨tb, 0, none⟩ (w.alloc (.cells #[typeHandle Tryz.prog 70, .pointer (some ⟨ab, 0, none⟩), .int .u64 150] 105)) ((cell_old _ _ _ hal).trans ha)
  have st := setEC ⟨tb, 0, none⟩ ⟨w.heap.size + 1, 0, none⟩ c old ((w.alloc (.cells #[typeHandle Tryz.prog 70, .pointer (some ⟨ab, 0, none⟩), .int .u64 150] 105)).alloc (.cells #[.int .i64 c] 66))
    (cell_new _ _ _ _ _ _ (by simp))
    ((cell_old _ _ _ (by simp; omega)).trans ((cell_old _ _ _ htl).trans ht0))
    (by rw [World.frozen?_alloc_old _ _ _ (by simp; omega), World.frozen?_alloc_old _ _ _ (Nat.ne_of_lt htl)]; exact hf0)
  have HT := Lib.hid ht
  have HF := Lib.hid (hf.same (w' := w.alloc (.cells #[typeHandle Tryz.prog 70, .pointer (some ⟨ab, 0, none⟩), .int .u64 150] 105)) (fun g hg _ => heap_old_at _ _ _ hg))
  obtain ⟨t0, u0, hv0⟩ := hf.shape
  subst hv0
  clear ht ht0 hf0 hf
  go_enter Tryz.func45, Tryz.ntmps45
  go_wp2_with fail
  go_loopw [0] (fun v wr => ∃ p', p'.length ≤ p.length ∧ Flt (w.alloc (.cells #[typeHandle Tryz.prog 70, .pointer (some ⟨ab, 0, none⟩), .int .u64 150] 105)) Q v p' c ∧ wr = w.alloc (.cells #[typeHandle Tryz.prog 70, .pointer (some ⟨ab, 0, none⟩), .int .u64 150] 105)) (fun v _ => fdepth (w.alloc (.cells #[typeHandle Tryz.prog 70, .pointer (some ⟨ab, 0, none⟩), .int .u64 150] 105)) p.length v)
  case atStart => exact ⟨p, Nat.le_refl _, HF.out, rfl⟩
  case round =>
    obtain ⟨p', hp, hf, rfl⟩ := hrel
    have HD := Lib.hid (fdepth_of hf p.length hp)
    cases hf with
    | code =>
      clear HF
      go_wp2_with fail
      go_ret
      refine ⟨rfl, ?_, ?_⟩
      · exact (heap_old_at _ _ _ (by simp; omega)).trans ((heap_old_at _ _ _ (by simp; omega)).trans (var_set HT.out))
      · exact (Fr.setCell (S := fun i => i = tb) w ⟨tb, 0, none⟩ _ rfl).trans ((Fr.alloc _ _).trans (Fr.alloc _ _))
    | fault g f v' p'' _ hg hQ h =>
      have HG := Lib.hid hg
      have HH := Lib.hid h
      have HPL := Lib.hid hp
      obtain ⟨t1, u1, hv1⟩ := h.shape
      subst hv1
      clear hg h HF hp hQ
      go_wp2_with fail
      refine (unwrap_calls _ g f _ HG.out).mono ?_
      rintro e w2 ⟨rfl, rfl⟩
      go_wp2_with fail
      refine ⟨⟨p'', by have := HPL.out; simp at this; omega, HH.out, by first | rfl | trivial⟩, ?_⟩
      have := HPL.out
      simp only [List.length_cons] at this
      rw [fdepth_of HH.out p.length (by omega), HD.out]
      simp

set_option maxRecDepth 100000 in
set_option maxHeartbeats 4000000 in
/-- errors.As: a fault, asked for. -/
theorem As_fault (w : World) (tb : Nat) (x : Addr) (old : Value) (ht : Var w tb 71 old) (het : Et w) :
    Calls Tryz.prog 21 #[.iface 71 (.pointer (some x)), .iface 72 (.pointer (some ⟨tb, 0, none⟩))] w
      fun e w' => e = .returned (.bool true) ∧ Var w' tb 71 (.pointer (some x)) ∧ Fr (fun i => i = tb) w w' := by
  have hVO := @run_callFunc_extern Tryz.prog 42 _ mValueOf Tryz.func42 (by kernel_rfl) (by kernel_rfl) (by kernel_rfl) (by kernel_rfl)
  have hTY := @run_callFunc_extern Tryz.prog 43 _ mType Tryz.func43 (by kernel_rfl) (by kernel_rfl) (by kernel_rfl) (by kernel_rfl)
  have hIN := @run_callFunc_extern Tryz.prog 44 _ mIsNil Tryz.func44 (by kernel_rfl) (by kernel_rfl) (by kernel_rfl) (by kernel_rfl)
  have hKI := @run_callFunc_extern Tryz.prog 125 _ mKind Tryz.func125 (by kernel_rfl) (by kernel_rfl) (by kernel_rfl) (by kernel_rfl)
  have hEL := @run_callFunc_extern Tryz.prog 139 _ mElem Tryz.func139 (by kernel_rfl) (by kernel_rfl) (by kernel_rfl) (by kernel_rfl)
  have hIM := @run_callFunc_extern Tryz.prog 140 _ mImplements Tryz.func140 (by kernel_rfl) (by kernel_rfl) (by kernel_rfl) (by kernel_rfl)
  have vP := valueOfPF
  have tP := typePF
  have mK := methodKind
  have mE := methodElem
  have mI := methodImplements
  have kP := kindPF
  have kE := kindEF
  have eP := elemPF
  have iE := implementsEF
  have rs := fun (W : World) (a : Addr) => run_store Tryz.prog W a (typeHandle Tryz.prog 72) .plain (by kernel_rfl)
  have hel := het.pos
  have htl := blk_lt ht
  have nP := isNilPF ⟨w.heap.size, 0, none⟩ ⟨tb, 0, none⟩ ((w.alloc (.cells #[.pointer (some ⟨tb, 0, none⟩)] 72)).alloc (.cells #[typeHandle Tryz.prog 72, .pointer (some ⟨w.heap.size, 0, none⟩), .int .u64 150] 105)) ((cell_old _ _ _ (by simp)).trans (cell_new _ _ _ _ _ _ rfl))
  have hg2 : ((w.alloc (.cells #[.pointer (some ⟨tb, 0, none⟩)] 72)).alloc (.cells #[typeHandle Tryz.prog 72, .pointer (some ⟨w.heap.size, 0, none⟩), .int .u64 150] 105)).cell? ⟨0, 0, none⟩ = some (.iface 128 (.agg #[typeHandle Tryz.prog 29])) := (cell_old _ _ _ (by simp <;> omega)).trans ((cell_old _ _ _ hel).trans het)
  have ha2 : ((w.alloc (.cells #[.pointer (some ⟨tb, 0, none⟩)] 72)).alloc (.cells #[typeHandle Tryz.prog 72, .pointer (some ⟨w.heap.size, 0, none⟩), .int .u64 150] 105)).cell? ⟨w.heap.size, 0, none⟩ = some (.pointer (some ⟨tb, 0, none⟩)) := (cell_old _ _ _ (by simp)).trans (cell_new _ _ _ _ _ _ rfl)
  have ht2 : Var ((w.alloc (.cells #[.pointer (some ⟨tb, 0, none⟩)] 72)).alloc (.cells #[typeHandle Tryz.prog 72, .pointer (some ⟨w.heap.size, 0, none⟩), .int .u64 150] 105)) tb 71 old := (heap_old_at _ _ _ (by simp; omega)).trans ((heap_old_at _ _ _ htl).trans ht)
  have HC := Lib.hid (as_hitF ((w.alloc (.cells #[.pointer (some ⟨tb, 0, none⟩)] 72)).alloc (.cells #[typeHandle Tryz.prog 72, .pointer (some ⟨w.heap.size, 0, none⟩), .int .u64 150] 105)) tb w.heap.size x old ht2 ha2)
  have HB := Lib.hid (show Below w.heap.size w ((w.alloc (.cells #[.pointer (some ⟨tb, 0, none⟩)] 72)).alloc (.cells #[typeHandle Tryz.prog 72, .pointer (some ⟨w.heap.size, 0, none⟩), .int .u64 150] 105)) from ((Below.refl _ _).alloc (Nat.le_refl _) _).alloc (by simp) _)
  clear ha2 ht2 ht het
  go_enter Tryz.func21, Tryz.ntmps21
  go_wp2_with fail
  refine HC.out.mono ?_
  rintro e w3 ⟨rfl, hv, hfr⟩
  have HV := Lib.hid hv
  have HFR := Lib.hid ((Fr.of_below HB.out).trans hfr)
  clear hv hfr
  go_wp2_with fail
  go_ret
  exact ⟨rfl, HV.out, HFR.out⟩

set_option maxRecDepth 100000 in
set_option maxHeartbeats 4000000 in
/-- errors.As: no fault about a code. -/
theorem As_miss (w : World) (tb : Nat) (c : Int) (old : Value) (ht : Var w tb 71 old) (het : Et w) :
    Calls Tryz.prog 21 #[.iface 66 (.int .i64 c), .iface 72 (.pointer (some ⟨tb, 0, none⟩))] w
      fun e w' => e = .returned (.bool false) ∧ Below w.heap.size w w' := by
  have hVO := @run_callFunc_extern Tryz.prog 42 _ mValueOf Tryz.func42 (by kernel_rfl) (by kernel_rfl) (by kernel_rfl) (by kernel_rfl)
  have hTY := @run_callFunc_extern Tryz.prog 43 _ mType Tryz.func43 (by kernel_rfl) (by kernel_rfl) (by kernel_rfl) (by kernel_rfl)
  have hIN := @run_callFunc_extern Tryz.prog 44 _ mIsNil Tryz.func44 (by kernel_rfl) (by kernel_rfl) (by kernel_rfl) (by kernel_rfl)
  have hKI := @run_callFunc_extern Tryz.prog 125 _ mKind Tryz.func125 (by kernel_rfl) (by kernel_rfl) (by kernel_rfl) (by kernel_rfl)
  have hEL := @run_callFunc_extern Tryz.prog 139 _ mElem Tryz.func139 (by kernel_rfl) (by kernel_rfl) (by kernel_rfl) (by kernel_rfl)
  have hIM := @run_callFunc_extern Tryz.prog 140 _ mImplements Tryz.func140 (by kernel_rfl) (by kernel_rfl) (by kernel_rfl) (by kernel_rfl)
  have vP := valueOfPF
  have tP := typePF
  have mK := methodKind
  have mE := methodElem
  have mI := methodImplements
  have kP := kindPF
  have kE := kindEF
  have eP := elemPF
  have iE := implementsEF
  have rs := fun (W : World) (a : Addr) => run_store Tryz.prog W a (typeHandle Tryz.prog 72) .plain (by kernel_rfl)
  have hel := het.pos
  have htl := blk_lt ht
  have nP := isNilPF ⟨w.heap.size, 0, none⟩ ⟨tb, 0, none⟩ ((w.alloc (.cells #[.pointer (some ⟨tb, 0, none⟩)] 72)).alloc (.cells #[typeHandle Tryz.prog 72, .pointer (some ⟨w.heap.size, 0, none⟩), .int .u64 150] 105)) ((cell_old _ _ _ (by simp)).trans (cell_new _ _ _ _ _ _ rfl))
  have hg2 : ((w.alloc (.cells #[.pointer (some ⟨tb, 0, none⟩)] 72)).alloc (.cells #[typeHandle Tryz.prog 72, .pointer (some ⟨w.heap.size, 0, none⟩), .int .u64 150] 105)).cell? ⟨0, 0, none⟩ = some (.iface 128 (.agg #[typeHandle Tryz.prog 29])) := (cell_old _ _ _ (by simp <;> omega)).trans ((cell_old _ _ _ hel).trans het)
  have ha2 : ((w.alloc (.cells #[.pointer (some ⟨tb, 0, none⟩)] 72)).alloc (.cells #[typeHandle Tryz.prog 72, .pointer (some ⟨w.heap.size, 0, none⟩), .int .u64 150] 105)).cell? ⟨w.heap.size, 0, none⟩ = some (.pointer (some ⟨tb, 0, none⟩)) := (cell_old _ _ _ (by simp)).trans (cell_new _ _ _ _ _ _ rfl)
  have ht2 : Var ((w.alloc (.cells #[.pointer (some ⟨tb, 0, none⟩)] 72)).alloc (.cells #[typeHandle Tryz.prog 72, .pointer (some ⟨w.heap.size, 0, none⟩), .int .u64 150] 105)) tb 71 old := (heap_old_at _ _ _ (by simp; omega)).trans ((heap_old_at _ _ _ htl).trans ht)
  have HC := Lib.hid (as_miss ((w.alloc (.cells #[.pointer (some ⟨tb, 0, none⟩)] 72)).alloc (.cells #[typeHandle Tryz.prog 72, .pointer (some ⟨w.heap.size, 0, none⟩), .int .u64 150] 105)) (.iface 72 (.pointer (some ⟨tb, 0, none⟩))) w.heap.size c)
  have HB := Lib.hid (show Below w.heap.size w ((w.alloc (.cells #[.pointer (some ⟨tb, 0, none⟩)] 72)).alloc (.cells #[typeHandle Tryz.prog 72, .pointer (some ⟨w.heap.size, 0, none⟩), .int .u64 150] 105)) from ((Below.refl _ _).alloc (Nat.le_refl _) _).alloc (by simp) _)
  clear ha2 ht2 ht het
  go_enter Tryz.func21, Tryz.ntmps21
  go_wp2_with fail
  refine HC.out.mono ?_
  rintro e w3 ⟨rfl, hb⟩
  have HB3 := Lib.hid (HB.out.trans (hb.mono HB.out.size))
  clear hb
  go_wp2_with fail
  go_ret
  exact ⟨rfl, HB3.out⟩

set_option maxRecDepth 100000 in
set_option maxHeartbeats 4000000 in
/-- errors.As: the code. -/
theorem As_code (w : World) (tb : Nat) (Q : Nat → Prop) (v : Value) (p : List ByteArray) (c : Int) (old : Value) (hf : Flt w Q v p c) (ht : Var w tb 66 old) (het : Et w) :
    Calls Tryz.prog 21 #[v, .iface 70 (.pointer (some ⟨tb, 0, none⟩))] w
      fun e w' => e = .returned (.bool true) ∧ Var w' tb 66 (.int .i64 c) ∧ Fr (fun i => i = tb) w w' := by
  have hVO := @run_callFunc_extern Tryz.prog 42 _ mValueOf Tryz.func42 (by kernel_rfl) (by kernel_rfl) (by kernel_rfl) (by kernel_rfl)
  have hTY := @run_callFunc_extern Tryz.prog 43 _ mType Tryz.func43 (by kernel_rfl) (by kernel_rfl) (by kernel_rfl) (by kernel_rfl)
  have hIN := @run_callFunc_extern Tryz.prog 44 _ mIsNil Tryz.func44 (by kernel_rfl) (by kernel_rfl) (by kernel_rfl) (by kernel_rfl)
  have hKI := @run_callFunc_extern Tryz.prog 125 _ mKind Tryz.func125 (by kernel_rfl) (by kernel_rfl) (by kernel_rfl) (by kernel_rfl)
  have hEL := @run_callFunc_extern Tryz.prog 139 _ mElem Tryz.func139 (by kernel_rfl) (by kernel_rfl) (by kernel_rfl) (by kernel_rfl)
  have hIM := @run_callFunc_extern Tryz.prog 140 _ mImplements Tryz.func140 (by kernel_rfl) (by kernel_rfl) (by kernel_rfl) (by kernel_rfl)
  have vP := valueOfPC
  have tP := typePC
  have mK := methodKind
  have mE := methodElem
  have mI := methodImplements
  have kP := kindPC
  have kE := kindEC
  have eP := elemPC
  have iE := implementsEC
  have rs := fun (W : World) (a : Addr) => run_store Tryz.prog W a (typeHandle Tryz.prog 70) .plain (by kernel_rfl)
  have hel := het.pos
  have htl := blk_lt ht
  have nP := isNilPC ⟨w.heap.size, 0, none⟩ ⟨tb, 0, none⟩ ((w.alloc (.cells #[.pointer (some ⟨tb, 0, none⟩)] 70)).alloc (.cells #[typeHandle Tryz.prog 70, .pointer (some ⟨w.heap.size, 0, none⟩), .int .u64 150] 105)) ((cell_old _ _ _ (by simp)).trans (cell_new _ _ _ _ _ _ rfl))
  have hg2 : ((w.alloc (.cells #[.pointer (some ⟨tb, 0, none⟩)] 70)).alloc (.cells #[typeHandle Tryz.prog 70, .pointer (some ⟨w.heap.size, 0, none⟩), .int .u64 150] 105)).cell? ⟨0, 0, none⟩ = some (.iface 128 (.agg #[typeHandle Tryz.prog 29])) := (cell_old _ _ _ (by simp <;> omega)).trans ((cell_old _ _ _ hel).trans het)
  have ha2 : ((w.alloc (.cells #[.pointer (some ⟨tb, 0, none⟩)] 70)).alloc (.cells #[typeHandle Tryz.prog 70, .pointer (some ⟨w.heap.size, 0, none⟩), .int .u64 150] 105)).cell? ⟨w.heap.size, 0, none⟩ = some (.pointer (some ⟨tb, 0, none⟩)) := (cell_old _ _ _ (by simp)).trans (cell_new _ _ _ _ _ _ rfl)
  have ht2 : Var ((w.alloc (.cells #[.pointer (some ⟨tb, 0, none⟩)] 70)).alloc (.cells #[typeHandle Tryz.prog 70, .pointer (some ⟨w.heap.size, 0, none⟩), .int .u64 150] 105)) tb 66 old := (heap_old_at _ _ _ (by simp; omega)).trans ((heap_old_at _ _ _ htl).trans ht)
  obtain ⟨t0, u0, hv0⟩ := hf.shape
  subst hv0
  have HC := Lib.hid (as_code ((w.alloc (.cells #[.pointer (some ⟨tb, 0, none⟩)] 70)).alloc (.cells #[typeHandle Tryz.prog 70, .pointer (some ⟨w.heap.size, 0, none⟩), .int .u64 150] 105)) tb w.heap.size Q _ p c old (hf.same (fun g hg _ => (heap_old_at _ _ _ (by simp; omega)).trans (heap_old_at _ _ _ hg))) ht2 ha2)
  have HB := Lib.hid (show Below w.heap.size w ((w.alloc (.cells #[.pointer (some ⟨tb, 0, none⟩)] 70)).alloc (.cells #[typeHandle Tryz.prog 70, .pointer (some ⟨w.heap.size, 0, none⟩), .int .u64 150] 105)) from ((Below.refl _ _).alloc (Nat.le_refl _) _).alloc (by simp) _)
  clear ha2 ht2 ht het
  go_enter Tryz.func21, Tryz.ntmps21
  go_wp2_with fail
  refine HC.out.mono ?_
  rintro e w3 ⟨rfl, hv, hfr⟩
  have HV := Lib.hid hv
  have HFR := Lib.hid ((Fr.of_below HB.out).trans hfr)
  clear hv hfr
  go_wp2_with fail
  go_ret
  exact ⟨rfl, HV.out, HFR.out⟩
end Go.Proofs.YtiehdfokcnphdaaGreatDoor
