/- The document's table: a new one. -/
import Derived.Test.YtgnoaeldmpbjmaaGreatDoorRp
set_option linter.unusedVariables false
set_option linter.unusedSimpArgs false
namespace Go.Proofs.YtgnoaeldmpbjmaaGreatDoor
open Go.RowKit

structure Laid2 (w wv : World) : Prop where
  r : wv.heap[w.heap.size]? = some (.cells TZ 34 (0, 0))
  e : wv.heap[w.heap.size + 1]? = some (.cells EZ 36 (0, 0))
  b : Below w.heap.size w wv
theorem Laid2.next {w wv wx : World} (h : Laid2 w wv) (hb : Below wv.heap.size wv wx) : Laid2 w wx :=
  ⟨(hb.block _ (blk_lt h.r)).trans h.r, (hb.block _ (blk_lt h.e)).trans h.e, h.b.trans (hb.mono h.b.size)⟩
theorem laid2_made (w : World) : Laid2 w ((w.alloc (.cells TZ 34)).alloc (.cells EZ 36)) :=
  ⟨(heap_old_at _ _ _ (by simp)).trans (heap_new_at _ _ _ rfl), heap_new_at _ _ _ (by simp), ((Below.refl _ _).alloc (Nat.le_refl _) _).alloc (by simp) _⟩
theorem Laid2.fin {w wv : World} (h : Laid2 w wv) (x y z x2 y2 z2 : Value) :
    (row3 (row3 wv w.heap.size x y z) (w.heap.size + 1) x2 y2 z2).heap[w.heap.size]? = some (.cells #[x, y, z] 34 (0, 0)) ∧
    (row3 (row3 wv w.heap.size x y z) (w.heap.size + 1) x2 y2 z2).heap[w.heap.size + 1]? = some (.cells #[x2, y2, z2] 36 (0, 0)) ∧
    Below w.heap.size w (row3 (row3 wv w.heap.size x y z) (w.heap.size + 1) x2 y2 z2) :=
  ⟨(row3_other (by omega)).trans (row3_heap h.r rfl), row3_heap ((row3_other (by omega)).trans h.e) rfl, row3_below (row3_below h.b (Nat.le_refl _) (by omega)) (Nat.le_refl _) (by omega)⟩
abbrev slZ : Sl := ⟨none, 0, 0⟩
set_option maxRecDepth 100000 in
set_option maxHeartbeats 2000000 in
theorem rnew_server (w : World) (s : ByteArray) (n : Int) (hs : s.size ≤ 9223372036854775807) (h1 : serverB s.data.toList = false) :
    Calls Tryz.prog 10 #[.string s, .int .i64 n] w fun e w' => e = .returned (.tuple #[.agg TZ, erV (some ([sServer], 7))]) ∧ Below w.heap.size w w' := by
  have HL := Lib.hid (laid2_made w)
  go_enter Tryz.func10, Tryz.ntmps10
  go_wp2_with fail
  refine (rserver_calls _ s hs).mono ?_
  rintro e w1 ⟨rfl, hb⟩
  rw [h1]
  have HL1 := Lib.hid (HL.out.next hb)
  clear hb HL
  go_wp2_with fail
  refine (rerr_calls _ 7).mono ?_
  rintro e w2 ⟨rfl, hb⟩
  have HL2 := Lib.hid (HL1.out.next hb)
  clear hb
  go_wp2_with fail
  refine (rin01_calls _ sServer [] 7 rfl (by decide) (by simp [pathL])).mono ?_
  rintro e w3 ⟨rfl, hb⟩
  have hl := HL2.out.next hb
  have r0 := cell_at (j := 0) hl.r rfl
  have r1 := cell_at (j := 1) hl.r rfl
  have r2 := cell_at (j := 2) hl.r rfl
  have e0 := cell_at (j := 0) hl.e rfl
  have e1 := cell_at (j := 1) hl.e rfl
  have e2 := cell_at (j := 2) hl.e rfl
  have rz : ∀ j, w3.frozen? ⟨w.heap.size, j, none⟩ = false := fun j => frozen_at hl.r
  have ez : ∀ j, w3.frozen? ⟨w.heap.size + 1, j, none⟩ = false := fun j => frozen_at hl.e
  have HL3 := Lib.hid hl
  clear hb hl
  simp only [erV, eCells]
  go_wp2_with fail
  refine bodyPost_ret (res_TE rfl _ _ w.heap.size (w.heap.size + 1) #[.string ⟨#[]⟩, .int .i64 0, .slice none 0 0] #[.int .i64 7, .int .i64 (-1), .string (ofL (pathL [sServer]))] rfl (HL3.out.fin _ _ _ _ _ _).1 rfl rfl (HL3.out.fin _ _ _ _ _ _).2.1 rfl) rfl ?_
  exact ⟨rfl, (HL3.out.fin _ _ _ _ _ _).2.2⟩
set_option maxRecDepth 100000 in
set_option maxHeartbeats 2000000 in
theorem rnew_low (w : World) (s : ByteArray) (n : Int) (hs : s.size ≤ 9223372036854775807) (h1 : serverB s.data.toList = true) (hn : n < 1) :
    Calls Tryz.prog 10 #[.string s, .int .i64 n] w fun e w' => e = .returned (.tuple #[.agg TZ, erV (some ([sRoom], 8))]) ∧ Below w.heap.size w w' := by
  have g1 : decide (n < (1 : Int)) = true := by simp; omega
  clear hn
  have HL := Lib.hid (laid2_made w)
  go_enter Tryz.func10, Tryz.ntmps10
  go_wp2_with fail
  refine (rserver_calls _ s hs).mono ?_
  rintro e w1 ⟨rfl, hb⟩
  rw [h1]
  have HL1 := Lib.hid (HL.out.next hb)
  clear hb HL
  go_wp2_with fail
  refine (rerr_calls _ 8).mono ?_
  rintro e w2 ⟨rfl, hb⟩
  have HL2 := Lib.hid (HL1.out.next hb)
  clear hb
  go_wp2_with fail
  refine (rin01_calls _ sRoom [] 8 rfl (by decide) (by simp [pathL])).mono ?_
  rintro e w3 ⟨rfl, hb⟩
  have hl := HL2.out.next hb
  have r0 := cell_at (j := 0) hl.r rfl
  have r1 := cell_at (j := 1) hl.r rfl
  have r2 := cell_at (j := 2) hl.r rfl
  have e0 := cell_at (j := 0) hl.e rfl
  have e1 := cell_at (j := 1) hl.e rfl
  have e2 := cell_at (j := 2) hl.e rfl
  have rz : ∀ j, w3.frozen? ⟨w.heap.size, j, none⟩ = false := fun j => frozen_at hl.r
  have ez : ∀ j, w3.frozen? ⟨w.heap.size + 1, j, none⟩ = false := fun j => frozen_at hl.e
  have HL3 := Lib.hid hl
  clear hb hl
  simp only [erV, eCells]
  go_wp2_with fail
  refine bodyPost_ret (res_TE rfl _ _ w.heap.size (w.heap.size + 1) #[.string ⟨#[]⟩, .int .i64 0, .slice none 0 0] #[.int .i64 8, .int .i64 (-1), .string (ofL (pathL [sRoom]))] rfl (HL3.out.fin _ _ _ _ _ _).1 rfl rfl (HL3.out.fin _ _ _ _ _ _).2.1 rfl) rfl ?_
  exact ⟨rfl, (HL3.out.fin _ _ _ _ _ _).2.2⟩
set_option maxRecDepth 100000 in
set_option maxHeartbeats 2000000 in
theorem rnew_high (w : World) (s : ByteArray) (n : Int) (hs : s.size ≤ 9223372036854775807) (h1 : serverB s.data.toList = true) (hn : 400 < n) :
    Calls Tryz.prog 10 #[.string s, .int .i64 n] w fun e w' => e = .returned (.tuple #[.agg TZ, erV (some ([sRoom], 8))]) ∧ Below w.heap.size w w' := by
  have g1 : decide (n < (1 : Int)) = false := by simp; omega
  have g2 : decide ((400 : Int) < n) = true := by simp; omega
  clear hn
  have HL := Lib.hid (laid2_made w)
  go_enter Tryz.func10, Tryz.ntmps10
  go_wp2_with fail
  refine (rserver_calls _ s hs).mono ?_
  rintro e w1 ⟨rfl, hb⟩
  rw [h1]
  have HL1 := Lib.hid (HL.out.next hb)
  clear hb HL
  go_wp2_with fail
  refine (rerr_calls _ 8).mono ?_
  rintro e w2 ⟨rfl, hb⟩
  have HL2 := Lib.hid (HL1.out.next hb)
  clear hb
  go_wp2_with fail
  refine (rin01_calls _ sRoom [] 8 rfl (by decide) (by simp [pathL])).mono ?_
  rintro e w3 ⟨rfl, hb⟩
  have hl := HL2.out.next hb
  have r0 := cell_at (j := 0) hl.r rfl
  have r1 := cell_at (j := 1) hl.r rfl
  have r2 := cell_at (j := 2) hl.r rfl
  have e0 := cell_at (j := 0) hl.e rfl
  have e1 := cell_at (j := 1) hl.e rfl
  have e2 := cell_at (j := 2) hl.e rfl
  have rz : ∀ j, w3.frozen? ⟨w.heap.size, j, none⟩ = false := fun j => frozen_at hl.r
  have ez : ∀ j, w3.frozen? ⟨w.heap.size + 1, j, none⟩ = false := fun j => frozen_at hl.e
  have HL3 := Lib.hid hl
  clear hb hl
  simp only [erV, eCells]
  go_wp2_with fail
  refine bodyPost_ret (res_TE rfl _ _ w.heap.size (w.heap.size + 1) #[.string ⟨#[]⟩, .int .i64 0, .slice none 0 0] #[.int .i64 8, .int .i64 (-1), .string (ofL (pathL [sRoom]))] rfl (HL3.out.fin _ _ _ _ _ _).1 rfl rfl (HL3.out.fin _ _ _ _ _ _).2.1 rfl) rfl ?_
  exact ⟨rfl, (HL3.out.fin _ _ _ _ _ _).2.2⟩
set_option maxRecDepth 100000 in
set_option maxHeartbeats 2000000 in
theorem rnew_ok (w : World) (s : ByteArray) (n : Int) (hs : s.size ≤ 9223372036854775807) (h1 : serverB s.data.toList = true) (hn : 1 ≤ n) (hn2 : n ≤ 400) :
    Calls Tryz.prog 10 #[.string s, .int .i64 n] w fun e w' => e = .returned (.tuple #[.agg (tCells s n slZ), erV none]) ∧ Below w.heap.size w w' := by
  have g1 : decide (n < (1 : Int)) = false := by simp; omega
  have g2 : decide ((400 : Int) < n) = false := by simp; omega
  clear hn hn2
  have HL := Lib.hid (laid2_made w)
  go_enter Tryz.func10, Tryz.ntmps10
  go_wp2_with fail
  refine (rserver_calls _ s hs).mono ?_
  rintro e w1 ⟨rfl, hb⟩
  rw [h1]
  have HL1 := Lib.hid (HL.out.next hb)
  clear hb HL
  go_wp2_with fail
  refine (rnone_calls _).mono ?_
  rintro e w3 ⟨rfl, hb⟩
  have hl := HL1.out.next hb
  have r0 := cell_at (j := 0) hl.r rfl
  have r1 := cell_at (j := 1) hl.r rfl
  have r2 := cell_at (j := 2) hl.r rfl
  have e0 := cell_at (j := 0) hl.e rfl
  have e1 := cell_at (j := 1) hl.e rfl
  have e2 := cell_at (j := 2) hl.e rfl
  have rz : ∀ j, w3.frozen? ⟨w.heap.size, j, none⟩ = false := fun j => frozen_at hl.r
  have ez : ∀ j, w3.frozen? ⟨w.heap.size + 1, j, none⟩ = false := fun j => frozen_at hl.e
  have HL3 := Lib.hid hl
  clear hb hl
  simp only [erV, eCells]
  go_wp2_with fail
  refine bodyPost_ret (res_TE rfl _ _ w.heap.size (w.heap.size + 1) #[.string s, .int .i64 n, .slice none 0 0] #[.int .i64 0, .int .i64 (-1), .string ⟨#[]⟩] rfl (HL3.out.fin _ _ _ _ _ _).1 rfl rfl (HL3.out.fin _ _ _ _ _ _).2.1 rfl) rfl ?_
  exact ⟨rfl, (HL3.out.fin _ _ _ _ _ _).2.2⟩
end Go.Proofs.YtgnoaeldmpbjmaaGreatDoor
