/- The document's errors; Tell: what an error says. -/
import Derived.Test.YtiehdfokcnphdaaGreatDoorAt
import Derived.Test.YtiehdfokcnphdaaGreatDoorOf
import Derived.Laws.Rows
import Derived.RegionTactic
set_option linter.unusedVariables false
set_option linter.unusedSimpArgs false
namespace Go.Proofs.YtiehdfokcnphdaaGreatDoor
open Go.RowKit

/-- The fields about an error, each with / ahead. -/
def pathL (p : List ByteArray) : List UInt8 := p.flatMap fun f => 47 :: f.data.toList
abbrev eCells : Er → Array Value
  | none => #[.int .i64 0, .int .i64 (-1), .string ⟨#[]⟩]
  | some (p, c) => #[.int .i64 c, .int .i64 (-1), .string (ofL (pathL p))]
abbrev erV (x : Er) : Value := .agg (eCells x)
theorem res_E' {fn : Func} {p : Tmp} (h : fn.results = #[.cell p 36]) (tmps : Array Value) (w : World) (g : Nat) (cs : Array Value) (hp : tmps.getD p undef = .pointer (some ⟨g, 0, none⟩))
    (hg : w.heap[g]? = some (.cells cs 36 (0, 0))) (hs : cs.size = 3) : (results fn tmps).run Tryz.prog w = .ok (.agg cs) w :=
  results_cell_row h tmps w g 36 cs (0, 0) _ hp hg Tryz.underlying36 rfl (by rw [hs]; kernel_rfl)
theorem rnone_calls (w : World) : Calls Tryz.prog 20 #[] w fun e w' => e = .returned (erV none) ∧ Below w.heap.size w w' := by
  go_enter Tryz.func20, Tryz.ntmps20
  go_wp2_with fail
  refine bodyPost_ret (res_E' rfl _ _ w.heap.size #[.int .i64 0, .int .i64 (-1), .string ⟨#[]⟩] rfl (heap_new_at w _ _ rfl) rfl) rfl ?_
  exact ⟨rfl, (Below.refl _ _).alloc (Nat.le_refl _) _⟩
theorem rerr_calls (w : World) (c : Int) : Calls Tryz.prog 23 #[.int .i64 c] w fun e w' => e = .returned (erV (some ([], c))) ∧ Below w.heap.size w w' := by
  go_enter Tryz.func23, Tryz.ntmps23
  go_wp2_with fail
  refine bodyPost_ret (res_E' rfl _ _ w.heap.size #[.int .i64 c, .int .i64 (-1), .string ⟨#[]⟩] rfl (heap_new_at w _ _ rfl) rfl) rfl ?_
  exact ⟨rfl, (Below.refl _ _).alloc (Nat.le_refl _) _⟩
theorem ba_eq {a b : ByteArray} (h : a.data.toList = b.data.toList) : a = b := ByteArray.ext (Array.ext' h)
theorem path_in (f : ByteArray) (p : List ByteArray) : (⟨#[47]⟩ ++ f) ++ ofL (pathL p) = ofL (pathL (f :: p)) := by
  apply ba_eq
  simp [pathL, ofL]
theorem path_size (p : List ByteArray) : (ofL (pathL p)).size = (pathL p).length := by rw [← size_list, ofL_list]
theorem rin01_calls (w : World) (f : ByteArray) (p : List ByteArray) (c : Int) (hc : (c == 0) = false) (h1 : f.size ≤ 1000000) (h2 : (pathL p).length ≤ 1000000000) :
    Calls Tryz.prog 24 #[.string f, erV (some (p, c))] w fun e w' => e = .returned (erV (some (f :: p, c))) ∧ Below w.heap.size w w' := by
  have HP := Lib.hid (path_in f p)
  have hs : (ofL (pathL p)).size ≤ 1000000000 := by rw [path_size]; exact h2
  simp only [erV, eCells]
  generalize ofL (pathL p) = t at *
  generalize ofL (pathL (f :: p)) = u at *
  have hz : ¬ 9223372036854775807 < 1 + f.size + t.size := by omega
  clear h2
  go_enter Tryz.func24, Tryz.ntmps24
  go_wp2_with fail
  refine bodyPost_ret (res_E' rfl _ _ (w.heap.size + 1) #[.int .i64 c, .int .i64 (-1), .string (⟨#[47]⟩ ++ f ++ t)] rfl (heap_new_at _ _ _ (World.size_alloc _ _).symm) rfl) rfl ?_
  exact ⟨by rw [HP.out], ((Below.refl _ _).alloc (Nat.le_refl _) _).alloc (by simp) _⟩

theorem row3_heap {w : World} {g E : Nat} {cs : Array Value} {a b c : Value} (h : w.heap[g]? = some (.cells cs E (0, 0))) (hs : cs.size = 3) :
    (((w.setCell ⟨g, 0, none⟩ a).setCell ⟨g, 1, none⟩ b).setCell ⟨g, 2, none⟩ c).heap[g]? = some (.cells #[a, b, c] E (0, 0)) := by
  rw [setCell_heap_at (setCell_heap_at (setCell_heap_at h))]
  obtain ⟨l⟩ := cs
  match l, hs with
  | [_, _, _], _ => rfl
theorem row3_below {w : World} {B g : Nat} {a b c : Value} {w0 : World} (h : Below B w0 w) (hB : B ≤ w0.heap.size) (hg : B ≤ g) : Below B w0 (((w.setCell ⟨g, 0, none⟩ a).setCell ⟨g, 1, none⟩ b).setCell ⟨g, 2, none⟩ c) :=
  h.trans (Fr.to_below (S := fun i => i = g) (((Fr.setCell (S := fun i => i = g) w ⟨g, 0, none⟩ a rfl).trans (Fr.setCell (S := fun i => i = g) _ ⟨g, 1, none⟩ b rfl)).trans (Fr.setCell (S := fun i => i = g) _ ⟨g, 2, none⟩ c rfl)) (Nat.le_trans hB h.size) (fun k hk e => by omega))
abbrev EZ : Array Value := #[.int .i64 0, .int .i64 0, .string ⟨#[]⟩]
set_option maxRecDepth 100000 in
set_option maxHeartbeats 4000000 in
theorem tell_nil (w : World) : Calls Tryz.prog 9 #[.nilIface] w fun e w' => e = .returned (erV none) ∧ Below w.heap.size w w' := by
  go_enter Tryz.func9, Tryz.ntmps9
  go_wp2_with fail
  refine (rnone_calls _).mono ?_
  rintro e w1 ⟨rfl, hb⟩
  have hr : w1.heap[w.heap.size]? = some (.cells EZ 36 (0, 0)) := (hb.block _ (by simp)).trans (heap_new_at w _ _ rfl)
  have HB := Lib.hid (((Below.refl w.heap.size w).alloc (Nat.le_refl _) (.cells EZ 36)).trans (hb.mono (by simp)))
  have hlt := blk_lt hr
  have k0 : w1.cell? ⟨w.heap.size, 0, none⟩ = some (.int .i64 0) := cell_at hr rfl
  have k1 : w1.cell? ⟨w.heap.size, 1, none⟩ = some (.int .i64 0) := cell_at hr rfl
  have k2 : w1.cell? ⟨w.heap.size, 2, none⟩ = some (.string ⟨#[]⟩) := cell_at hr rfl
  have kz : ∀ j, w1.frozen? ⟨w.heap.size, j, none⟩ = false := fun j => frozen_at hr
  have HR := Lib.hid hr
  clear hr hb
  simp only [erV, eCells]
  go_wp2_with fail
  refine bodyPost_ret (res_E' rfl _ _ w.heap.size #[.int .i64 0, .int .i64 (-1), .string ⟨#[]⟩] rfl ((heap_old_at _ _ _ (by simpa using hlt)).trans (row3_heap HR.out rfl)) rfl) rfl ?_
  exact ⟨rfl, (row3_below HB.out (Nat.le_refl _) (Nat.le_refl _)).alloc (by simp; omega) _⟩
end Go.Proofs.YtiehdfokcnphdaaGreatDoor
