/- PowerAsks: the levels made real, the statement's walk. -/
import Derived.Test.YtiehdfokcnphdaaGreatDoorPy
namespace Go.Proofs.YtiehdfokcnphdaaGreatDoor
open Go.RowKit

/-- The document's levels as the program's. -/
def realLv (x : L9) (e u : Sl) : Lv := ⟨x.n0, x.n1, x.n2, x.n3, x.n4, x.n5, x.n6, e, u⟩
set_option maxRecDepth 100000 in
set_option maxHeartbeats 3200000 in
theorem real_calls (w : World) (x : L9) (el ul : List Nm) (he : InN w x.ev.a x.ev.n el) (hu : InN w x.us.a x.us.n ul) (hel : el.length ≤ 1000000) (hul : ul.length ≤ 1000000) :
    Calls Tryz.prog 8 #[.agg x.cells] w fun e w' => ∃ se su : Sl, e = .returned (.agg (realLv x se su).cells) ∧ RowOf w' (fun k => w.heap.size ≤ k) 91 2 se (ncells el) ∧ RowOf w' (fun k => w.heap.size ≤ k) 91 2 su (ncells ul) ∧ Below w.heap.size w w' := by
  have hel2 : x.ev.n = el.length := he.1
  have hul2 : x.us.n = ul.length := hu.1
  have hE : ∀ W : World, Below w.heap.size w W → Calls Tryz.prog 19 #[.slice x.ev.a x.ev.n x.ev.c] W fun e w' => ∃ s : Sl, e = .returned (.slice s.a s.n s.c) ∧ RowOf w' (fun k => W.heap.size ≤ k) 91 2 s (ncells el) ∧ Below W.heap.size W w' := fun W h => by
    have h1 := he.below h rfl
    rw [hel2] at h1 ⊢
    exact named_calls W _ _ el h1 hel
  have hU : ∀ W : World, Below w.heap.size w W → Calls Tryz.prog 19 #[.slice x.us.a x.us.n x.us.c] W fun e w' => ∃ s : Sl, e = .returned (.slice s.a s.n s.c) ∧ RowOf w' (fun k => W.heap.size ≤ k) 91 2 s (ncells ul) ∧ Below W.heap.size W w' := fun W h => by
    have h1 := hu.below h rfl
    rw [hul2] at h1 ⊢
    exact named_calls W _ _ ul h1 hul
  have HE := Lib.hid hE
  have HU := Lib.hid hU
  clear hE hU he hu hel2 hul2 hel hul
  go_enter Tryz.func8, Tryz.ntmps8
  go_wp2_with fail
  obtain ⟨W2, hW2⟩ : ∃ W2, W2 = ((w.alloc (.cells x.cells 25)).alloc (.cells #[.int .i64 0, .int .i64 0, .int .i64 0, .int .i64 0, .int .i64 0, .int .i64 0, .int .i64 0, .slice none 0 0, .slice none 0 0] 33 (0, 0))).alloc (.cells #[.int .i64 x.n0, .int .i64 x.n1, .int .i64 x.n2, .int .i64 x.n3, .int .i64 x.n4, .int .i64 x.n5, .int .i64 x.n6] 22 (0, 0)) := ⟨_, rfl⟩
  rw [← hW2]
  have hcur : Below w.heap.size w W2 := by rw [hW2]; exact (((Below.refl _ _).alloc (Nat.le_refl _) _).alloc (by simp) _).alloc (by simp; omega) _
  have hs2 : W2.heap.size = w.heap.size + 3 := by rw [hW2]; simp
  have hx2 : W2.heap[w.heap.size]? = some (.cells x.cells 25 (0, 0)) := by rw [hW2]; exact (Below.heap_alloc _ _ _ (by simp; omega)).trans ((Below.heap_alloc _ _ _ (by simp)).trans (heap_new _ _))
  have hr2 : W2.heap[w.heap.size + 1]? = some (.cells #[.int .i64 0, .int .i64 0, .int .i64 0, .int .i64 0, .int .i64 0, .int .i64 0, .int .i64 0, .slice none 0 0, .slice none 0 0] 33 (0, 0)) := by
    rw [hW2]
    have := heap_new (w.alloc (.cells x.cells 25)) (.cells #[.int .i64 0, .int .i64 0, .int .i64 0, .int .i64 0, .int .i64 0, .int .i64 0, .int .i64 0, .slice none 0 0, .slice none 0 0] 33 (0, 0))
    rw [show (w.alloc (.cells x.cells 25)).heap.size = w.heap.size + 1 by simp] at this
    exact (Below.heap_alloc _ _ _ (by simp)).trans this
  have hn2 : W2.heap[w.heap.size + 2]? = some (.cells #[.int .i64 x.n0, .int .i64 x.n1, .int .i64 x.n2, .int .i64 x.n3, .int .i64 x.n4, .int .i64 x.n5, .int .i64 x.n6] 22 (0, 0)) := by
    rw [hW2]
    have := heap_new ((w.alloc (.cells x.cells 25)).alloc (.cells #[.int .i64 0, .int .i64 0, .int .i64 0, .int .i64 0, .int .i64 0, .int .i64 0, .int .i64 0, .slice none 0 0, .slice none 0 0] 33 (0, 0))) (.cells #[.int .i64 x.n0, .int .i64 x.n1, .int .i64 x.n2, .int .i64 x.n3, .int .i64 x.n4, .int .i64 x.n5, .int .i64 x.n6] 22 (0, 0))
    rw [show ((w.alloc (.cells x.cells 25)).alloc (.cells #[.int .i64 0, .int .i64 0, .int .i64 0, .int .i64 0, .int .i64 0, .int .i64 0, .int .i64 0, .slice none 0 0, .slice none 0 0] 33 (0, 0))).heap.size = w.heap.size + 2 by simp] at this
    exact this
  clear hW2
  have n0 := cell_at (j := 0) hn2 rfl
  have n1 := cell_at (j := 1) hn2 rfl
  have n2 := cell_at (j := 2) hn2 rfl
  have n3 := cell_at (j := 3) hn2 rfl
  have n4 := cell_at (j := 4) hn2 rfl
  have n5 := cell_at (j := 5) hn2 rfl
  have n6 := cell_at (j := 6) hn2 rfl
  have x7 := cell_at (j := 7) hx2 rfl
  have x8 := cell_at (j := 8) hx2 rfl
  have HCUR := Lib.hid hcur
  have HX2 := Lib.hid hx2
  have HR2 := Lib.hid hr2
  have HN2 := Lib.hid hn2
  clear hcur hx2 hr2 hn2
  go_region_held3 (fun W => W.cell? ⟨w.heap.size + 2, 0, none⟩ = some (.int .i64 x.n0) ∧ W.cell? ⟨w.heap.size + 2, 1, none⟩ = some (.int .i64 x.n1) ∧ W.cell? ⟨w.heap.size + 2, 2, none⟩ = some (.int .i64 x.n2) ∧ W.cell? ⟨w.heap.size + 2, 3, none⟩ = some (.int .i64 x.n3) ∧ W.cell? ⟨w.heap.size + 2, 4, none⟩ = some (.int .i64 x.n4) ∧ W.cell? ⟨w.heap.size + 2, 5, none⟩ = some (.int .i64 x.n5) ∧ W.cell? ⟨w.heap.size + 2, 6, none⟩ = some (.int .i64 x.n6) ∧ W.cell? ⟨w.heap.size, 7, none⟩ = some (.slice x.ev.a x.ev.n x.ev.c) ∧ W.cell? ⟨w.heap.size, 8, none⟩ = some (.slice x.us.a x.us.n x.us.c))
    (first | go_keep | exact ⟨n0, n1, n2, n3, n4, n5, n6, x7, x8⟩)
    ((go_simp; go_at_call 19
      first
      | (refine (HE.out _ HCwu.out).mono ?_; rintro e wz ⟨se, rfl, hrow, hb0⟩
         have hb : Below wu.heap.size wu wz := ⟨hb0.os, hb0.tape, hb0.output, hb0.size, hb0.block⟩
         have hbs := hb.size
         have gx := (hb.block w.heap.size (by omega)).trans GXwu.out
         have gr := (hb.block (w.heap.size + 1) (by omega)).trans GRwu.out
         have gn := (hb.block (w.heap.size + 2) (by omega)).trans GNwu.out
         have n0 := cell_at (j := 0) gn rfl
         have n1 := cell_at (j := 1) gn rfl
         have n2 := cell_at (j := 2) gn rfl
         have n3 := cell_at (j := 3) gn rfl
         have n4 := cell_at (j := 4) gn rfl
         have n5 := cell_at (j := 5) gn rfl
         have n6 := cell_at (j := 6) gn rfl
         have x7 := cell_at (j := 7) gx rfl
         have x8 := cell_at (j := 8) gx rfl
         have r0 := cell_at (j := 0) gr rfl
         have r1 := cell_at (j := 1) gr rfl
         have r2 := cell_at (j := 2) gr rfl
         have r3 := cell_at (j := 3) gr rfl
         have r4 := cell_at (j := 4) gr rfl
         have r5 := cell_at (j := 5) gr rfl
         have r6 := cell_at (j := 6) gr rfl
         have r7 := cell_at (j := 7) gr rfl
         have r8 := cell_at (j := 8) gr rfl
         have hfz := fun o => frozen_at (j := o) gr
         have hszwz : w.heap.size + 2 < wz.heap.size := by omega
         have HCwz := Lib.hid (HCUR.out.trans ((HBwu.out.trans (hb.mono HBwu.out.size)).mono HCUR.out.size))
         have GXwz := Lib.hid gx
         have GRwz := Lib.hid gr
         have GNwz := Lib.hid gn
         have ROWE := Lib.hid hrow
         have HBwz := Lib.hid hb
         clear hb hb0 hrow gx gr gn hbs)
      | (refine (HU.out _ HCwy.out).mono ?_; rintro e wz ⟨su, rfl, hrow, hb0⟩
         have hb : Below wy.heap.size wy wz := ⟨hb0.os, hb0.tape, hb0.output, hb0.size, hb0.block⟩
         have hbs := hb.size
         have gx := (hb.block w.heap.size (by omega)).trans GXwy.out
         have gr := (hb.block (w.heap.size + 1) (by omega)).trans GRwy.out
         have gn := (hb.block (w.heap.size + 2) (by omega)).trans GNwy.out
         have n0 := cell_at (j := 0) gn rfl
         have n1 := cell_at (j := 1) gn rfl
         have n2 := cell_at (j := 2) gn rfl
         have n3 := cell_at (j := 3) gn rfl
         have n4 := cell_at (j := 4) gn rfl
         have n5 := cell_at (j := 5) gn rfl
         have n6 := cell_at (j := 6) gn rfl
         have x7 := cell_at (j := 7) gx rfl
         have x8 := cell_at (j := 8) gx rfl
         have r0 := cell_at (j := 0) gr rfl
         have r1 := cell_at (j := 1) gr rfl
         have r2 := cell_at (j := 2) gr rfl
         have r3 := cell_at (j := 3) gr rfl
         have r4 := cell_at (j := 4) gr rfl
         have r5 := cell_at (j := 5) gr rfl
         have r6 := cell_at (j := 6) gr rfl
         have r7 := cell_at (j := 7) gr rfl
         have r8 := cell_at (j := 8) gr rfl
         have hfz := fun o => frozen_at (j := o) gr
         have hszwz : w.heap.size + 2 < wz.heap.size := by omega
         have HCwz := Lib.hid (HCUR.out.trans ((HBwy.out.trans (hb.mono HBwy.out.size)).mono HCUR.out.size))
         have GXwz := Lib.hid gx
         have GRwz := Lib.hid gr
         have GNwz := Lib.hid gn
         have ROWU := Lib.hid hrow
         have HBwz := Lib.hid hb
         clear hb hb0 hrow gx gr gn hbs)
      | (refine (HE.out _ HCUR.out.drew).mono ?_; rintro e wy ⟨se, rfl, hrow, hb0⟩
         have hb : Below W2.heap.size W2 wy := ⟨hb0.os, hb0.tape, hb0.output, hb0.size, hb0.block⟩
         have hbs := hb.size
         have gx := (hb.block w.heap.size (by omega)).trans HX2.out
         have gr := (hb.block (w.heap.size + 1) (by omega)).trans HR2.out
         have gn := (hb.block (w.heap.size + 2) (by omega)).trans HN2.out
         have n0 := cell_at (j := 0) gn rfl
         have n1 := cell_at (j := 1) gn rfl
         have n2 := cell_at (j := 2) gn rfl
         have n3 := cell_at (j := 3) gn rfl
         have n4 := cell_at (j := 4) gn rfl
         have n5 := cell_at (j := 5) gn rfl
         have n6 := cell_at (j := 6) gn rfl
         have x7 := cell_at (j := 7) gx rfl
         have x8 := cell_at (j := 8) gx rfl
         have r0 := cell_at (j := 0) gr rfl
         have r1 := cell_at (j := 1) gr rfl
         have r2 := cell_at (j := 2) gr rfl
         have r3 := cell_at (j := 3) gr rfl
         have r4 := cell_at (j := 4) gr rfl
         have r5 := cell_at (j := 5) gr rfl
         have r6 := cell_at (j := 6) gr rfl
         have r7 := cell_at (j := 7) gr rfl
         have r8 := cell_at (j := 8) gr rfl
         have hfz := fun o => frozen_at (j := o) gr
         have hszwy : w.heap.size + 2 < wy.heap.size := by omega
         have HCwy := Lib.hid (HCUR.out.trans (hb.mono HCUR.out.size))
         have GXwy := Lib.hid gx
         have GRwy := Lib.hid gr
         have GNwy := Lib.hid gn
         have ROWE := Lib.hid hrow
         have HBwy := Lib.hid hb
         clear hb hb0 hrow gx gr gn hbs)
      | (refine (HU.out _ HCUR.out.drew).mono ?_; rintro e wu ⟨su, rfl, hrow, hb0⟩
         have hb : Below W2.heap.size W2 wu := ⟨hb0.os, hb0.tape, hb0.output, hb0.size, hb0.block⟩
         have hbs := hb.size
         have gx := (hb.block w.heap.size (by omega)).trans HX2.out
         have gr := (hb.block (w.heap.size + 1) (by omega)).trans HR2.out
         have gn := (hb.block (w.heap.size + 2) (by omega)).trans HN2.out
         have n0 := cell_at (j := 0) gn rfl
         have n1 := cell_at (j := 1) gn rfl
         have n2 := cell_at (j := 2) gn rfl
         have n3 := cell_at (j := 3) gn rfl
         have n4 := cell_at (j := 4) gn rfl
         have n5 := cell_at (j := 5) gn rfl
         have n6 := cell_at (j := 6) gn rfl
         have x7 := cell_at (j := 7) gx rfl
         have x8 := cell_at (j := 8) gx rfl
         have r0 := cell_at (j := 0) gr rfl
         have r1 := cell_at (j := 1) gr rfl
         have r2 := cell_at (j := 2) gr rfl
         have r3 := cell_at (j := 3) gr rfl
         have r4 := cell_at (j := 4) gr rfl
         have r5 := cell_at (j := 5) gr rfl
         have r6 := cell_at (j := 6) gr rfl
         have r7 := cell_at (j := 7) gr rfl
         have r8 := cell_at (j := 8) gr rfl
         have hfz := fun o => frozen_at (j := o) gr
         have hszwu : w.heap.size + 2 < wu.heap.size := by omega
         have HCwu := Lib.hid (HCUR.out.trans (hb.mono HCUR.out.size))
         have GXwu := Lib.hid gx
         have GRwu := Lib.hid gr
         have GNwu := Lib.hid gn
         have ROWU := Lib.hid hrow
         have HBwu := Lib.hid hb
         clear hb hb0 hrow gx gr gn hbs)))
  all_goals
    go_wp2_with fail
    refine bodyPost_ret (results_lv rfl _ (w.heap.size + 1) _ rfl (nine_heap GRwz.out) rfl) rfl ?_
    have hst := setCells_grown (w.heap.size + 1) (realLv x se su).cells.toList 0 wz
    have ho : ∀ k, w.heap.size + 3 ≤ k → (wz.setCells (w.heap.size + 1) 0 (realLv x se su).cells.toList).heap[k]? = wz.heap[k]? := fun k hk => setCells_other _ _ _ wz k (by omega)
    have hE : RowOf (wz.setCells (w.heap.size + 1) 0 (realLv x se su).cells.toList) (fun k => w.heap.size ≤ k) 91 2 se (ncells el) :=
      ((ROWE.out.same HBwz.out.size (fun k hk _ => HBwz.out.block k hk)).same hst.size (fun k _ hk => ho k (by have : W2.heap.size ≤ k := hk; omega))).mono (fun k _ hk => by have : W2.heap.size ≤ k := hk; omega)
    have hyz := HBwy.out.size
    have hU : RowOf (wz.setCells (w.heap.size + 1) 0 (realLv x se su).cells.toList) (fun k => w.heap.size ≤ k) 91 2 su (ncells ul) :=
      (ROWU.out.same hst.size (fun k _ hk => ho k (by omega))).mono (fun k _ hk => by omega)
    have hB : Below w.heap.size w (wz.setCells (w.heap.size + 1) 0 (realLv x se su).cells.toList) := HCwz.out.grown hst HCwz.out.size (fun j hj => by injection hj with hj; omega)
    exact ⟨se, su, rfl, hE, hU, hB⟩
end Go.Proofs.YtiehdfokcnphdaaGreatDoor
