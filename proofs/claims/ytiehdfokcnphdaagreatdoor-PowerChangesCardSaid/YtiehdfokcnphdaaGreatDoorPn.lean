/- power: None, parts. -/
import Derived.Test.YtiehdfokcnphdaaGreatDoorPf
import Derived.Test.YtiehdfokcnphdaaGreatDoorMf
import Derived.BigRegion
namespace Go.Proofs.YtiehdfokcnphdaaGreatDoor
open Go.RowKit

theorem results_lv {w : World} {fn : Func} {p : Tmp} (h : fn.results = #[.cell p 33]) (tmps : Array Value) (g : Nat) (cs : Array Value) (hp : tmps.getD p undef = .pointer (some ⟨g, 0, none⟩))
    (hg : w.heap[g]? = some (.cells cs 33 (0, 0))) (hs : cs.size = 9) : (results fn tmps).run Tryz.prog w = .ok (.agg cs) w :=
  results_cell_row h tmps w g 33 cs (0, 0) _ hp hg Tryz.underlying33 rfl (by rw [hs]; kernel_rfl)
theorem row_one (w : World) (P : Nat → Prop) (E g sz : Nat) (c : List Value) (hg : g = w.heap.size) (hP : P g) (hs : c.length = sz) : RowOf (w.alloc (.cells c.toArray E)) P E sz ⟨some ⟨g, 0, none⟩, 1, 1⟩ [c] := by
  subst hg
  refine ⟨rfl, by simp, .inr ⟨_, rfl, Nat.le_refl _, hP, by simp, c.toArray, heap_new _ _, by simpa using hs, Nat.le_refl _, ?_⟩⟩
  intro i c' hi
  cases i with
  | zero =>
    simp at hi
    subst hi
    exact ⟨hs, fun d _ => by simp⟩
  | succ i => simp at hi
def lvNone : Lv := ⟨50, 50, 50, 0, 0, 0, 0, ⟨none, 0, 0⟩, ⟨none, 0, 0⟩⟩
theorem none_empty (w : World) : Calls Tryz.prog 15 #[.string ⟨#[]⟩] w fun e w' => e = .returned (.agg lvNone.cells) ∧ Below w.heap.size w w' := by
  go_enter Tryz.func15, Tryz.ntmps15
  go_wp2_with fail
  refine bodyPost_ret (results_lv rfl _ w.heap.size _ rfl ((Below.heap_alloc _ _ _ (by simp)).trans (heap_new _ _)) rfl) rfl ?_
  exact ⟨rfl, ((Below.refl _ _).alloc (Nat.le_refl _) _).alloc (by simp) _⟩
/-- None of a creator: he has 100. -/
theorem none_calls (w : World) (creator : ByteArray) (hne : ¬ creator.toList = []) : Calls Tryz.prog 15 #[.string creator] w
    fun e w' => ∃ s : Sl, e = .returned (.agg (Lv.cells { lvNone with users := s })) ∧ RowOf w' (fun g => w.heap.size ≤ g) 91 2 s (ncells [⟨creator, 100⟩]) ∧ Below w.heap.size w w' := by
  have hne2 : creator.toList.isEmpty = false := by
    cases h : creator.toList with
    | nil => exact absurd h hne
    | cons a b => rfl
  go_enter Tryz.func15, Tryz.ntmps15
  go_wp2_with fail
  refine bodyPost_ret (results_lv rfl _ w.heap.size _ rfl ((Below.heap_alloc _ _ _ (by simp; omega)).trans ((Below.heap_alloc _ _ _ (by simp)).trans (heap_new _ _))) rfl) rfl ?_
  refine ⟨⟨some ⟨w.heap.size + 1 + 1, 0, none⟩, 1, 1⟩, rfl, row_one _ _ _ _ _ [.string creator, .int .i64 100] ?_ ?_ rfl, ?_⟩
  · simp
  · show w.heap.size ≤ _; omega
  exact (((Below.refl _ _).alloc (Nat.le_refl _) _).alloc (by simp) _).alloc (by simp; omega) _

theorem rw_flat {w : World} {E g sz : Nat} {l : List (List Value)} (h : w.heap[g]? = some (.cells l.flatten.toArray E (0, 0))) (hl : ∀ c ∈ l, c.length = sz) : Rw w E g l.length sz l := by
  refine ⟨_, h, by simpa using flatten_length l hl, Nat.le_refl _, fun i c hi => ⟨hl c (List.mem_of_getElem? hi), fun d hd => ?_⟩⟩
  rw [List.getElem?_toArray]
  exact flatten_get l hl i d c hi hd
/-- A part of the levels: its key, which cell of theirs is its number, or its list. -/
structure Pt where
  key : ByteArray
  num : Option Nat
  lst : Option Nat
def pts : List Pt := [⟨⟨#[98, 97, 110]⟩, some 0, none⟩, ⟨⟨#[101, 118, 101, 110, 116, 115]⟩, none, some 7⟩, ⟨⟨#[101, 118, 101, 110, 116, 115, 95, 100, 101, 102, 97, 117, 108, 116]⟩, some 5, none⟩,
  ⟨⟨#[105, 110, 118, 105, 116, 101]⟩, some 3, none⟩, ⟨⟨#[107, 105, 99, 107]⟩, some 1, none⟩, ⟨⟨#[114, 101, 100, 97, 99, 116]⟩, some 2, none⟩, ⟨⟨#[115, 116, 97, 116, 101, 95, 100, 101, 102, 97, 117, 108, 116]⟩, some 4, none⟩,
  ⟨⟨#[117, 115, 101, 114, 115]⟩, none, some 8⟩, ⟨⟨#[117, 115, 101, 114, 115, 95, 100, 101, 102, 97, 117, 108, 116]⟩, some 6, none⟩]
abbrev ptrV (g : Nat) (o : Option Nat) : Value := .pointer (o.map fun j => ⟨g, j, none⟩)
abbrev pcells (g : Nat) : List (List Value) := pts.map fun p => [.string p.key, ptrV g p.num, ptrV g p.lst]

set_option maxRecDepth 100000 in
theorem parts_calls (w : World) (g : Nat) : Calls Tryz.prog 16 #[.pointer (some ⟨g, 0, none⟩)] w
    fun e w' => e = .returned (.slice (some ⟨w.heap.size, 0, none⟩) 9 9) ∧ Rw w' 61 w.heap.size 9 3 (pcells g) ∧ Below w.heap.size w w' := by
  go_enter Tryz.func16, Tryz.ntmps16
  go_wp2_with fail
  go_region
  all_goals
    go_wp2_with fail
    go_ret
    refine ⟨rfl, ?_, ?_⟩
    · exact rw_flat (l := pcells g) (heap_new w _) (by intro c hc; obtain ⟨p, _, rfl⟩ := List.mem_map.1 hc; rfl)
    · exact ((Below.refl _ _).alloc (Nat.le_refl _) _).drew
end Go.Proofs.YtiehdfokcnphdaaGreatDoor
