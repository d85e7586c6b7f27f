/- A listing in memory; a new one; whether a room is shown. -/
import Derived.Test.YtmhhoaaoofopfaaBf
import Derived.Test.YtmhhoaaoofopfaaGs
set_option linter.unusedVariables false
set_option linter.unusedSimpArgs false
namespace Go.Proofs.Ytmhhoaaoofopfaa
open Go.RowKit

section
variable {P : Program}
theorem step_updateS {ops : Array Oper} {o : Oper} {a : Act} {w : World} {K : Act → World → Prop} {Q : Exit → Act → World → Prop} {E : Prop} (hgd : o.guard = none) (m x y : Operand) (t : TypeId) (hop : o.op = Op.mapUpdate t m x y) (k e : TypeId) (hk : P.underlying k = some .string) (ht : P.underlying t = some (.map k e))
    (b : Nat) (l : List (ByteArray × Value)) (hm : a.eval m = .map (some b)) (hown : MapS w P k b l) (hn : l.length < maxLen) (key : ByteArray) (hx : a.eval x = .string key) (hsz : key.size ≤ maxLen) (v : Value) (hy : a.eval y = v)
    (hK : ∀ w', MapS w' P k b (putS key v l) → w.mapTurned w' b → K (a.put o.dst undef) w') : if Region.wanted o (yielded ops a.tmps) = true then Oper.wp P o a w K Q else E := by
  have hw : Region.wanted o (yielded ops a.tmps) = true := by simp [Region.wanted, hgd]
  rw [if_pos hw]
  obtain ⟨w', hrun, r1, r2⟩ := World.ownsMap.store (R := hR) hown (Maps.string_keyed hk) ht hn (Go.WideMaps.keyOf_string_mk hk hsz) (rfl : hR v = some (.held v, []))
  unfold Oper.wp
  simp [execOp, hop, hm, hx, hy, hrun, Result.andThen]
  have r1' : w'.ownsMap P k hR b (l.length + 1) (MD (putS key v l)) := by rw [← MD_put]; exact r1
  exact hK w' (MapS.of r1') r2
theorem yieldsIf_lenS {ops : Array Oper} {S : World → Prop} {o : Oper} {a : Act} (hw : Region.wanted o (yielded ops a.tmps) = true) (m : Operand) (t : TypeId) (hop : o.op = Op.call { callee := Callee.builtin Builtin.len, args := #[m], argTypes := #[t] }) (k e : TypeId) (ht : P.underlying t = some (.map k e))
    (b : Nat) (l : List (ByteArray × Value)) (hm : a.eval m = .map (some b)) (hS : ∀ w, S w → MapS w P k b l) : YieldsIf P ops S o (.int .i64 l.length) a :=
  .inl ⟨hw, fun w hw' => by
    have hl := World.ownsMap.len (hS w hw') ht o.type
    rw [MD_size] at hl
    simp [execOp, hop, resolve, invoke, builtin, hm, hl, Result.andThen]⟩
end
/-- A listing: how many may be shown, which rooms are known, which are shown, the order. -/
structure LsAt (w : World) (P : Nat → Prop) (g bk bs : Nat) (v : Value) (most : Int) (kn sh : List (ByteArray × Value)) (od : List Sm) : Prop where
  h : w.heap[g]? = some (.cells #[.int .i64 most, .map (some bk), .map (some bs), v] 44 (0, 0))
  k : MapS w Try.prog 9 bk kn
  s : MapS w Try.prog 9 bs sh
  o : w.ownsRow 0 35 10 v od.length (smc od).flatten
  ne : bk ≠ bs
  nv : v.ownBlock ≠ some g
  nk : v.ownBlock ≠ some bk
  ns : v.ownBlock ≠ some bs
  gk : g ≠ bk
  gs : g ≠ bs
  pg : P g
  pk : P bk
  ps : P bs
  pv : ∀ r, v.ownBlock = some r → P r
  vl : ∀ r, v.ownBlock = some r → r < w.heap.size
  srt : SortS od
variable {w w' : World} {P Q : Nat → Prop} {g bk bs : Nat} {v : Value} {most : Int} {kn sh : List (ByteArray × Value)} {od : List Sm}
theorem LsAt.same (h : LsAt w P g bk bs v most kn sh od) (hs : w.heap.size ≤ w'.heap.size) (hb : ∀ i, i < w.heap.size → P i → w'.heap[i]? = w.heap[i]?) : LsAt w' P g bk bs v most kn sh od :=
  ⟨(hb g (blk_lt h.h) h.pg).trans h.h, h.k.same (hb bk h.k.lt h.pk), h.s.same (hb bs h.s.lt h.ps), own_same h.o (fun r hr he => hb r hr (h.pv r he)), h.ne, h.nv, h.nk, h.ns, h.gk, h.gs, h.pg, h.pk, h.ps, h.pv, fun r hr => Nat.lt_of_lt_of_le (h.vl r hr) hs, h.srt⟩
theorem LsAt.below (h : LsAt w P g bk bs v most kn sh od) (hb : Below w.heap.size w w') : LsAt w' P g bk bs v most kn sh od := h.same hb.size (fun i hi _ => hb.block i hi)
theorem LsAt.mono (h : LsAt w P g bk bs v most kn sh od) (hq : ∀ i, i < w.heap.size → P i → Q i) : LsAt w Q g bk bs v most kn sh od :=
  ⟨h.h, h.k, h.s, h.o, h.ne, h.nv, h.nk, h.ns, h.gk, h.gs, hq g (blk_lt h.h) h.pg, hq bk h.k.lt h.pk, hq bs h.s.lt h.ps, fun r hr => hq r (h.vl r hr) (h.pv r hr), h.vl, h.srt⟩
/-- The order is another row now: the listing's cell is written. -/
theorem LsAt.ins {wB wI : World} {v' : Value} {od' : List Sm} {B : Nat} (h : LsAt wB P g bk bs v most kn sh od) (hg : wB.grownBy wI v.ownBlock) (ho : wI.ownsRow 0 35 10 v' od'.length (smc od').flatten) (hv : v'.ownBlock = v.ownBlock ∨ v'.ownBlock = some wB.heap.size) (hvl : ∀ r, v'.ownBlock = some r → r < wI.heap.size) (hs : SortS od') (hB : B ≤ wB.heap.size) :
    LsAt (wI.setCell ⟨g, 3, none⟩ v') (fun i => P i ∨ B ≤ i) g bk bs v' most kn sh od' ∧ Fr P wB (wI.setCell ⟨g, 3, none⟩ v') := by
  have hgl := blk_lt h.h
  have hkl := h.k.lt
  have hsl := h.s.lt
  have hr : ∀ r, v'.ownBlock = some r → r ≠ g ∧ r ≠ bk ∧ r ≠ bs ∧ (P r ∨ B ≤ r) := fun r e => by
    rcases hv with h1 | h1
    · rw [h1] at e
      exact ⟨fun e2 => h.nv (by rw [e, e2]), fun e2 => h.nk (by rw [e, e2]), fun e2 => h.ns (by rw [e, e2]), .inl (h.pv r e)⟩
    · rw [h1] at e
      obtain rfl := Option.some.inj e
      exact ⟨by omega, by omega, by omega, .inr hB⟩
  have e1 : wI.heap[g]? = wB.heap[g]? := hg.block g hgl (fun e => h.nv e.symm)
  have e2 : wI.heap[bk]? = wB.heap[bk]? := hg.block bk hkl (fun e => h.nk e.symm)
  have e3 : wI.heap[bs]? = wB.heap[bs]? := hg.block bs hsl (fun e => h.ns e.symm)
  have hf : Fr P wB (wI.setCell ⟨g, 3, none⟩ v') := (Fr.of_grown hg (fun r e => h.pv r e)).trans (Fr.setCell wI ⟨g, 3, none⟩ v' h.pg)
  refine ⟨⟨?_, ?_, ?_, ?_, h.ne, fun e => (hr g e).1 rfl, fun e => (hr bk e).2.1 rfl, fun e => (hr bs e).2.2.1 rfl, h.gk, h.gs, .inl h.pg, .inl h.pk, .inl h.ps, fun r e => (hr r e).2.2.2, fun r e => by have := hvl r e; simpa [World.setCell] using this, hs⟩, hf⟩
  · exact setCell_heap_at (e1.trans h.h)
  · exact h.k.same ((Below.heap_setCell _ _ _ _ (fun e => h.gk e.symm)).trans e2)
  · exact h.s.same ((Below.heap_setCell _ _ _ _ (fun e => h.gs e.symm)).trans e3)
  · exact own_same ho (fun r _ e => Below.heap_setCell _ _ _ _ (hr r e).1)
set_option maxRecDepth 100000 in
theorem new_calls (w : World) (n : Int) (h1 : 1 ≤ n) (h2 : n ≤ 200) :
    Calls Try.prog 5 #[.int .i64 n] w fun e w' => ∃ g bk bs, e = .returned (.tuple #[.pointer (some ⟨g, 0, none⟩), .nilIface]) ∧ LsAt w' (fun i => w.heap.size ≤ i) g bk bs (.slice none 0 0) n [] [] [] ∧ Below w.heap.size w w' := by
  have hd1 : decide (n < 1) = false := by simp; omega
  have hd2 : decide (n > 200) = false := by simp; omega
  have hd3 : decide (200 < n) = false := by simp; omega
  have hmm := @run_makeMap Try.prog
  go_enter Try.func5, Try.ntmps5
  go_wp2_with fail
  go_ret2
  refine ⟨w.heap.size + 1 + 1, w.heap.size, w.heap.size + 1, rfl, ?_, ((((Below.refl _ _).alloc (Nat.le_refl _) _).alloc (by simp) _).alloc (by simp <;> omega) _)⟩
  have hb1 := (Below.refl w.heap.size w).alloc (Nat.le_refl _) (.map #[] 0)
  refine ⟨heap_new_at _ _ _ (by simp), ((MapS.made w Try.prog 9).same (heap_old_at _ _ _ (by simp))).same (heap_old_at _ _ _ (by simp; omega)), ?_, ⟨rfl, .inl ⟨rfl, rfl⟩⟩, by omega, by simp [Value.ownBlock], by simp [Value.ownBlock], by simp [Value.ownBlock], by omega, by omega, by omega, by omega, by omega, by simp [Value.ownBlock], by simp [Value.ownBlock], List.Pairwise.nil⟩
  have := MapS.made (w.alloc (.map #[] 0)) Try.prog 9
  rw [show (w.alloc (.map #[] 0)).heap.size = w.heap.size + 1 by simp] at this
  exact this.same (heap_old_at _ _ _ (by simp))
set_option maxRecDepth 100000 in
theorem shown_calls (w : World) (r : ByteArray) (hr : r.size ≤ maxLen) (h : LsAt w P g bk bs v most kn sh od) (o : Int) (ho : (getS sh r).getD (.int .i64 0) = .int .i64 o) :
    Calls Try.prog 12 #[.pointer (some ⟨g, 0, none⟩), .string r] w fun e w' => e = .returned (.bool (decide (o > 0))) ∧ Below w.heap.size w w' := by
  have c2 : w.cell? ⟨g, 2, none⟩ = some (.map (some bs)) := cell_at (j := 2) h.h rfl
  have HS := Lib.hid h.s
  have HO := Lib.hid ho
  clear h ho
  go_enter Try.func12, Try.ntmps12
  go_wp2_with (at_lookup; refine lookupS _ rfl _ _ 30 rfl 9 3 Try.underlying9 Try.underlying30 (.int .i64 0) (by kernel_rfl) bs sh rfl HS.out r rfl hr _ HO.out ?_)
  go_ret
  exact ⟨rfl, Below.refl _ _⟩
end Go.Proofs.Ytmhhoaaoofopfaa
