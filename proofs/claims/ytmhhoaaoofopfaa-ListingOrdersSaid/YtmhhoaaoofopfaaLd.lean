/- A struct's cells loaded at once, wherever they lie. No program is named. -/
import Derived.Test.YtmhhoaaoofopfaaSl
import Derived.Deep.MidRow
import Derived.Laws.Cells
set_option linter.unusedVariables false
namespace Go.Proofs.Ytmhhoaaoofopfaa
open Go.RowKit

/-- These cells lie from p on. -/
def Holds (w : World) (p : Addr) (cs : Array Value) : Prop := ∀ j v, cs[j]? = some v → w.cell? (p.add j) = some v
theorem Holds.below {B : Nat} {w w' : World} {p : Addr} {cs : Array Value} (h : Holds w p cs) (hb : Below B w w') (hp : p.block < B) : Holds w' p cs := fun j v hj => (hb.cell (p := p.add j) (by rw [block_add]; exact hp)).trans (h j v hj)
theorem Holds.of_block {w : World} {b E : Nat} {cs : Array Value} {f : Nat × Nat} (h : w.heap[b]? = some (.cells cs E f)) : Holds w ⟨b, 0, none⟩ cs := fun j v hj => by
  have e : (⟨b, 0, none⟩ : Addr).add j = ⟨b, j, none⟩ := by unfold Addr.add; split <;> simp_all
  rw [e]
  simpa [World.cell?, h] using hj
theorem there_of_block {w : World} {b E n : Nat} {cur : Array Value} (h : w.heap[b]? = some (.cells cur E (0, 0))) (hs : cur.size = n) : w.there b 0 n := fun j hj => by
  refine ⟨?_, by simp [World.frozen?, h]⟩
  simp only [World.cell?, h]
  simp
  omega
theorem setCells_whole {w : World} {b E : Nat} {cur cs : Array Value} {f : Nat × Nat} (h : w.heap[b]? = some (.cells cur E f)) (hs : cs.size = cur.size) : (w.setCells b 0 cs.toList).heap[b]? = some (.cells cs E f) := by
  obtain ⟨cur', h1, h2, _, h4⟩ := setCells_get b cs.toList 0 w cur E f h (by simp; omega)
  rw [h1]
  congr 2
  apply Array.ext_getElem?
  intro j
  by_cases hj : j < cs.size
  · have := h4 j (by simpa using hj)
    simpa using this
  · rw [Array.getElem?_eq_none (by omega), Array.getElem?_eq_none (by omega)]
theorem Holds.tail {w : World} {b : Nat} {x : Value} {cs : List Value} (h : Holds w ⟨b, 0, none⟩ (x :: cs).toArray) : Holds w ⟨b, 1, none⟩ cs.toArray := fun j v hj => by
  have := h (j + 1) v (by simpa using hj)
  have e1 : (⟨b, 0, none⟩ : Addr).add (j + 1) = ⟨b, j + 1, none⟩ := by unfold Addr.add; simp
  have e2 : (⟨b, 1, none⟩ : Addr).add j = ⟨b, j + 1, none⟩ := by
    unfold Addr.add
    split
    · next h => subst h; rfl
    · simp; omega
  rw [e1] at this
  rw [e2]
  exact this
theorem Holds.cell {w : World} {b : Nat} {cs : Array Value} (h : Holds w ⟨b, 0, none⟩ cs) {j : Nat} {v : Value} (hj : cs[j]? = some v) : w.cell? ⟨b, j, none⟩ = some v := by
  have := h j v hj
  have e1 : (⟨b, 0, none⟩ : Addr).add j = ⟨b, j, none⟩ := by unfold Addr.add; split <;> simp_all
  rw [e1] at this
  exact this
section
variable {P : Program}
theorem run_loadVar_at (w : World) (p : Addr) (ty : TypeId) (cs : Array Value) (d : TypeDesc) (hc : Holds w p cs) (hu : P.underlying ty = some d) (hd : d.isRow = true) (hi : (P.info? ty).map (·.size) = some cs.size) :
    (loadVar ty p).run P w = .ok (.agg cs) w := by
  have hl : (loadCells p cs.size).run P w = .ok cs w := by
    have := run_loadCells_list (P := P) w p cs.toList (fun j v hv => hc j v (by simpa using hv))
    simpa using this
  cases hq : P.info? ty with
  | none => simp [hq] at hi
  | some i =>
    have hs : i.size = cs.size := by simpa [hq] using hi
    have hagg : (isAgg ty).run P w = .ok true w := by
      unfold isAgg
      rw [Sem.run_bind, run_underlying hu w]
      cases d <;> simp_all
    simp [loadVar, Sem.run_bind, hagg, sizeOf, typeInfo, hq, hs, hl]
theorem wp_load_at {op : Oper} {a : Act} {w : World} {K : Act → World → Prop} {Q : Exit → Act → World → Prop} (ty : TypeId) (x : Operand) (ho : op.op = .load ty x)
    (p : Addr) (hx : a.eval x = .pointer (some p)) (cs : Array Value) (d : TypeDesc) (hc : Holds w p cs)
    (hu : P.underlying ty = some d) (hd : d.isRow = true) (hi : (P.info? ty).map (·.size) = some cs.size)
    (h : K (a.put op.dst (.agg cs)) w) : op.wp P a w K Q := by
  unfold Oper.wp execOp
  simp only [ho, hx, Instr.loadAt, Instr.sureAddr, Sem.run_bind, Sem.run_pure, Result.andThen_ok, run_loadVar_at w p ty cs d hc hu hd hi]
  exact h
theorem wpList_load_at {ops : Array Oper} {rest : List Oper} {op : Oper} {a : Act} {w : World} {Q : Exit → Act → World → Prop} (hgd : op.guard = none) (ty : TypeId) (x : Operand) (ho : op.op = .load ty x)
    (p : Addr) (hx : a.eval x = .pointer (some p)) (cs : Array Value) (d : TypeDesc) (hc : Holds w p cs)
    (hu : P.underlying ty = some d) (hd : d.isRow = true) (hi : (P.info? ty).map (·.size) = some cs.size)
    (h : wpList P ops Q rest (a.put op.dst (.agg cs)) w) : wpList P ops Q (op :: rest) a w :=
  wpList_plain hgd fun _ hK => wp_load_at ty x ho p hx cs d hc hu hd hi (hK _ _ h)
theorem yieldsIf_load_at {ops : Array Oper} {S : World → Prop} {op : Oper} {a : Act} (hw : Region.wanted op (yielded ops a.tmps) = true) (ty : TypeId) (x : Operand) (ho : op.op = .load ty x)
    (p : Addr) (hx : a.eval x = .pointer (some p)) (cs : Array Value) (d : TypeDesc) (hS : ∀ w, S w → Holds w p cs)
    (hu : P.underlying ty = some d) (hd : d.isRow = true) (hi : (P.info? ty).map (·.size) = some cs.size) : YieldsIf P ops S op (.agg cs) a :=
  .inl ⟨hw, fun w hw' => by
    unfold execOp
    simp only [ho, hx, Instr.loadAt, Instr.sureAddr, Sem.run_bind, Sem.run_pure, Result.andThen_ok, run_loadVar_at w p ty cs d (hS w hw') hu hd hi]⟩
theorem step_store_at {ops : Array Oper} {o : Oper} {a : Act} {w : World} {K : Act → World → Prop} {Q : Exit → Act → World → Prop} {E : Prop} (hgd : o.guard = none) (ty : TypeId) (x y : Operand) (ho : o.op = .store ty x y)
    (b : Nat) (cells : Array Value) (hx : a.eval x = .pointer (some ⟨b, 0, none⟩)) (hy : a.eval y = .agg cells)
    (ht : w.there b 0 cells.size) (hi : (P.info? ty).map (·.size) = some cells.size) (h1 : cells.all (·.oneCell') = true)
    (h : K (a.put o.dst undef) (w.setCells b 0 cells.toList)) : if Region.wanted o (yielded ops a.tmps) = true then Oper.wp P o a w K Q else E := by
  have hw : Region.wanted o (yielded ops a.tmps) = true := by simp [Region.wanted, hgd]
  rw [if_pos hw]
  exact wp_store_mid ty x y ho b 0 cells hx hy ht hi h1 h
end
end Go.Proofs.Ytmhhoaaoofopfaa
