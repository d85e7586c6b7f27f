/- A region that only reads, whose callees leave what was there as it was. No program is named. -/
import Derived.Test.YtmhhoaaoofopfaaG
import Derived.Deep.QuietTactic
import Derived.BigQuiet
import Derived.KernelRfl
namespace Go.Proofs.Ytmhhoaaoofopfaa
open Go.RowKit

/-- A later world in which all that was there stands as it did. -/
structure BelW (w : World) where
  world : World
  h : Below w.heap.size w world
instance (w : World) : Inhabited (BelW w) := ⟨⟨w, Below.refl _ _⟩⟩
theorem wp_region_quiet_bel {P : Program} {id : Nat} {Q : Exit → Act → World → Prop} {a : Act} {w : World} {l : List Oper} (hm : P.follows .mixedOrders = true) (hB : Region.lexB .any l.toArray = true)
    (h : wpQuiet P l.toArray (fun w' => ∃ p : BelW w, w' = p.world) (fun a' => ∀ w', (∃ p : BelW w, w' = p.world) → Q .normal a' w') l a) : (Code.region id l.toArray true).wp P Q a w :=
  wp_region_quiet (C := fun w' => ∃ p : BelW w, w' = p.world) hm hB ⟨⟨w.drew, (Below.refl _ _).drew⟩, rfl⟩ (by simpa using h)
theorem Calls.bel_of {P : Program} {f : FuncId} {args : Array Value} {w : World} {p : BelW w} {v : Value} (h : Calls P f args p.world fun e w' => e = .returned v ∧ Below p.world.heap.size p.world w') :
    Calls P f args p.world fun e w'' => e = .returned v ∧ ∃ q : BelW w, w'' = q.world :=
  h.mono fun _ w' ⟨he, hb⟩ => ⟨he, ⟨w', p.h.trans (hb.mono p.h.size)⟩, rfl⟩
theorem cell_at {w : World} {g E j : Nat} {cs : Array Value} {v : Value} (h : w.heap[g]? = some (.cells cs E (0, 0))) (hj : cs[j]? = some v) : w.cell? ⟨g, j, none⟩ = some v := by
  simp [World.cell?, h, hj]
theorem frozen_at {w : World} {g E j : Nat} {cs : Array Value} (h : w.heap[g]? = some (.cells cs E (0, 0))) : w.frozen? ⟨g, j, none⟩ = false := by
  simp [World.frozen?, h]
theorem blk_lt {w : World} {g : Nat} {o : Obj} (h : w.heap[g]? = some o) : g < w.heap.size := (Array.getElem?_eq_some_iff.1 h).1
/-- The block that was just made. -/
theorem heap_new_at (w : World) (o : Obj) (g : Nat) (hg : g = w.heap.size) : (w.alloc o).heap[g]? = some o := by subst hg; exact heap_new _ _
theorem heap_old_at (w : World) (o : Obj) (g : Nat) (hg : g < w.heap.size) : (w.alloc o).heap[g]? = w.heap[g]? := Below.heap_alloc _ _ _ hg
end Go.Proofs.Ytmhhoaaoofopfaa
