/- Two levels made at once, in two new blocks: what stands between (PowerBounds' fourth region). No walk. -/
import Derived.Test.YtiehdfokcnphdaaRi
set_option linter.unusedVariables false
namespace Go.Proofs.Ytiehdfokcnphdaa
open Go.RowKit

def zLv : Lv := ⟨0, 0, 0, 0, 0, 0, 0, ⟨none, 0, 0⟩, ⟨none, 0, 0⟩⟩
/-- The program's levels of a document's: their lists lie in blocks of which P holds. -/
def LvR (w : World) (P : Nat → Prop) (x : L9) (el ul : List Nm) (lv : Lv) : Prop := ∃ se su : Sl, lv = realLv x se su ∧ RowOf w P 81 2 se (ncells el) ∧ RowOf w P 81 2 su (ncells ul)
theorem LvR.mono {w : World} {P Q : Nat → Prop} {x : L9} {el ul : List Nm} {lv : Lv} (h : LvR w P x el ul lv) (hq : ∀ g, g < w.heap.size → P g → Q g) : LvR w Q x el ul lv := by
  obtain ⟨se, su, h1, h2, h3⟩ := h
  exact ⟨se, su, h1, h2.mono hq, h3.mono hq⟩
theorem LvR.same {w w' : World} {P : Nat → Prop} {x : L9} {el ul : List Nm} {lv : Lv} (h : LvR w P x el ul lv) (hs : w.heap.size ≤ w'.heap.size) (hb : ∀ g, g < w.heap.size → P g → w'.heap[g]? = w.heap[g]?) : LvR w' P x el ul lv := by
  obtain ⟨se, su, h1, h2, h3⟩ := h
  exact ⟨se, su, h1, h2.same hs hb, h3.same hs hb⟩
/-- Between the operations: o1, o2 the levels that are made, a, b their blocks. -/
structure Bs (v : World) (x y : L9) (ex ux ey uy : List Nm) (o1 o2 : Option Lv) (a b : Option Nat) (w : World) : Prop where
  bel : Below v.heap.size v w
  r1 : ∀ lv, o1 = some lv → LvR w (fun g => v.heap.size ≤ g ∧ a ≠ some g ∧ b ≠ some g) x ex ux lv
  r2 : ∀ lv, o2 = some lv → LvR w (fun g => v.heap.size ≤ g ∧ a ≠ some g ∧ b ≠ some g) y ey uy lv
  ea : ∀ g, a = some g → v.heap.size ≤ g ∧ w.heap[g]? = some (.cells zLv.cells 30 (0, 0))
  eb : ∀ g, b = some g → v.heap.size ≤ g ∧ w.heap[g]? = some (.cells zLv.cells 30 (0, 0))
  ne : ∀ g, a = some g → b ≠ some g
section
variable {v w w' : World} {x y : L9} {ex ux ey uy : List Nm} {o1 o2 : Option Lv} {a b : Option Nat}
theorem Bs.start : Bs v x y ex ux ey uy none none none none v.drew := ⟨(Below.refl _ _).drew, by simp, by simp, by simp, by simp, by simp⟩
theorem Bs.keep (h : Bs v x y ex ux ey uy o1 o2 a b w) (hb : Below w.heap.size w w') : Bs v x y ex ux ey uy o1 o2 a b w' :=
  ⟨h.bel.trans (hb.mono h.bel.size), fun lv e => (h.r1 lv e).same hb.size (fun g hg _ => hb.block g hg), fun lv e => (h.r2 lv e).same hb.size (fun g hg _ => hb.block g hg),
    fun g e => ⟨(h.ea g e).1, (hb.block g (blk_lt (h.ea g e).2)).trans (h.ea g e).2⟩, fun g e => ⟨(h.eb g e).1, (hb.block g (blk_lt (h.eb g e).2)).trans (h.eb g e).2⟩, h.ne⟩
theorem Bs.far (h : Bs v x y ex ux ey uy o1 o2 a b w) {g : Nat} (hg : w.heap.size ≤ g) : v.heap.size ≤ g ∧ a ≠ some g ∧ b ≠ some g :=
  ⟨Nat.le_trans h.bel.size hg, fun e => by have := blk_lt (h.ea g e).2; omega, fun e => by have := blk_lt (h.eb g e).2; omega⟩
theorem Bs.real1 (h : Bs v x y ex ux ey uy none o2 a b w) (hb : Below w.heap.size w w') {lv : Lv} (hr : LvR w' (fun g => w.heap.size ≤ g) x ex ux lv) : Bs v x y ex ux ey uy (some lv) o2 a b w' :=
  have k := h.keep hb
  ⟨k.bel, fun lv' e => by injection e with e; subst e; exact hr.mono (fun g _ hg => h.far hg), k.r2, k.ea, k.eb, k.ne⟩
theorem Bs.real2 (h : Bs v x y ex ux ey uy o1 none a b w) (hb : Below w.heap.size w w') {lv : Lv} (hr : LvR w' (fun g => w.heap.size ≤ g) y ey uy lv) : Bs v x y ex ux ey uy o1 (some lv) a b w' :=
  have k := h.keep hb
  ⟨k.bel, k.r1, fun lv' e => by injection e with e; subst e; exact hr.mono (fun g _ hg => h.far hg), k.ea, k.eb, k.ne⟩
theorem Bs.newa (h : Bs v x y ex ux ey uy o1 o2 none b w) : Bs v x y ex ux ey uy o1 o2 (some w.heap.size) b (w.alloc (.cells zLv.cells 30)) := by
  have hb : Below w.heap.size w (w.alloc (.cells zLv.cells 30)) := (Below.refl _ _).alloc (Nat.le_refl _) _
  have hm : ∀ g, g < w.heap.size → (v.heap.size ≤ g ∧ none ≠ some g ∧ b ≠ some g) → (v.heap.size ≤ g ∧ some w.heap.size ≠ some g ∧ b ≠ some g) := fun g hg hp => ⟨hp.1, fun e => by injection e with e; omega, hp.2.2⟩
  refine ⟨h.bel.trans (hb.mono h.bel.size), fun lv e => ((h.r1 lv e).mono hm).same hb.size (fun g hg _ => hb.block g hg), fun lv e => ((h.r2 lv e).mono hm).same hb.size (fun g hg _ => hb.block g hg), ?_, ?_, ?_⟩
  · intro g e
    injection e with e
    subst e
    exact ⟨h.bel.size, heap_new_at _ _ _ rfl⟩
  · intro g e
    exact ⟨(h.eb g e).1, (hb.block g (blk_lt (h.eb g e).2)).trans (h.eb g e).2⟩
  · intro g e e2
    injection e with e
    subst e
    have := blk_lt (h.eb _ e2).2
    omega
theorem Bs.newb (h : Bs v x y ex ux ey uy o1 o2 a none w) : Bs v x y ex ux ey uy o1 o2 a (some w.heap.size) (w.alloc (.cells zLv.cells 30)) := by
  have hb : Below w.heap.size w (w.alloc (.cells zLv.cells 30)) := (Below.refl _ _).alloc (Nat.le_refl _) _
  have hm : ∀ g, g < w.heap.size → (v.heap.size ≤ g ∧ a ≠ some g ∧ none ≠ some g) → (v.heap.size ≤ g ∧ a ≠ some g ∧ some w.heap.size ≠ some g) := fun g hg hp => ⟨hp.1, hp.2.1, fun e => by injection e with e; omega⟩
  refine ⟨h.bel.trans (hb.mono h.bel.size), fun lv e => ((h.r1 lv e).mono hm).same hb.size (fun g hg _ => hb.block g hg), fun lv e => ((h.r2 lv e).mono hm).same hb.size (fun g hg _ => hb.block g hg), ?_, ?_, ?_⟩
  · intro g e
    exact ⟨(h.ea g e).1, (hb.block g (blk_lt (h.ea g e).2)).trans (h.ea g e).2⟩
  · intro g e
    injection e with e
    subst e
    exact ⟨h.bel.size, heap_new_at _ _ _ rfl⟩
  · intro g e e2
    injection e2 with e2
    subst e2
    have := blk_lt (h.ea _ e).2
    omega
/-- Both are made: the first is stored, then the second. -/
structure Bf (v : World) (x y : L9) (ex ux ey uy : List Nm) (l1 l2 : Lv) (ga gb : Nat) (w : World) : Prop where
  bel : Below v.heap.size v w
  r1 : LvR w (fun g => v.heap.size ≤ g) x ex ux l1
  r2 : LvR w (fun g => v.heap.size ≤ g) y ey uy l2
  ea : w.heap[ga]? = some (.cells l1.cells 30 (0, 0))
  eb : w.heap[gb]? = some (.cells l2.cells 30 (0, 0))
  la : v.heap.size ≤ ga
  lb : v.heap.size ≤ gb
theorem Bs.one {l1 l2 : Lv} {ga gb : Nat} (h : Bs v x y ex ux ey uy (some l1) (some l2) (some ga) (some gb) w) : Below v.heap.size v (w.setCells ga 0 l1.cells.toList) ∧ (w.setCells ga 0 l1.cells.toList).heap[gb]? = some (.cells zLv.cells 30 (0, 0)) := by
  have hne : gb ≠ ga := fun e => h.ne ga rfl (by rw [e])
  refine ⟨h.bel.trans ((Fr.of_grown (S := fun i => i = ga) (setCells_grown ga l1.cells.toList 0 w) (fun r e => (Option.some.inj e).symm)).to_below h.bel.size (fun k hk e => by have := (h.ea ga rfl).1; omega)), ?_⟩
  rw [setCells_other ga _ 0 w gb hne]
  exact (h.eb gb rfl).2
theorem Bs.done {l1 l2 : Lv} {ga gb : Nat} (h : Bs v x y ex ux ey uy (some l1) (some l2) (some ga) (some gb) w) : Bf v x y ex ux ey uy l1 l2 ga gb ((w.setCells ga 0 l1.cells.toList).setCells gb 0 l2.cells.toList) := by
  obtain ⟨hb1, hz⟩ := h.one
  have hne : gb ≠ ga := fun e => h.ne ga rfl (by rw [e])
  have ho : ∀ g, g ≠ ga → g ≠ gb → ((w.setCells ga 0 l1.cells.toList).setCells gb 0 l2.cells.toList).heap[g]? = w.heap[g]? := fun g h1 h2 => (setCells_other gb _ 0 _ g h2).trans (setCells_other ga _ 0 w g h1)
  have hs : w.heap.size ≤ ((w.setCells ga 0 l1.cells.toList).setCells gb 0 l2.cells.toList).heap.size := Nat.le_trans (setCells_grown ga _ 0 w).size (setCells_grown gb _ 0 _).size
  have hk : ∀ g, g < w.heap.size → (v.heap.size ≤ g ∧ some ga ≠ some g ∧ some gb ≠ some g) → ((w.setCells ga 0 l1.cells.toList).setCells gb 0 l2.cells.toList).heap[g]? = w.heap[g]? := fun g _ hp => ho g (fun e => hp.2.1 (by rw [e])) (fun e => hp.2.2 (by rw [e]))
  refine ⟨hb1.trans ((Fr.of_grown (S := fun i => i = gb) (setCells_grown gb l2.cells.toList 0 _) (fun r e => (Option.some.inj e).symm)).to_below hb1.size (fun k hk e => by have := (h.eb gb rfl).1; omega)), ((h.r1 l1 rfl).same hs hk).mono (fun g _ hp => hp.1), ((h.r2 l2 rfl).same hs hk).mono (fun g _ hp => hp.1), ?_, ?_, (h.ea ga rfl).1, (h.eb gb rfl).1⟩
  · rw [setCells_other gb _ 0 _ ga (fun e => hne e.symm)]
    exact setCells_whole (h.ea ga rfl).2 rfl
  · exact setCells_whole hz rfl
end
end Go.Proofs.Ytiehdfokcnphdaa
