/- Plain words on blocks, for the texts behind XPs. -/
import Derived.Test.YtiehdfokcnphdaaGreatDoorPs
namespace Go.Proofs.YtiehdfokcnphdaaGreatDoor
open Go.RowKit

theorem blk_lt {w : World} {g : Nat} {o : Obj} (h : w.heap[g]? = some o) : g < w.heap.size := (Array.getElem?_eq_some_iff.1 h).1
theorem heap_new_at (w : World) (o : Obj) (g : Nat) (hg : g = w.heap.size) : (w.alloc o).heap[g]? = some o := by subst hg; exact heap_new _ _
theorem heap_old_at (w : World) (o : Obj) (g : Nat) (hg : g < w.heap.size) : (w.alloc o).heap[g]? = w.heap[g]? := Below.heap_alloc _ _ _ hg
end Go.Proofs.YtiehdfokcnphdaaGreatDoor
