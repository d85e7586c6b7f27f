/- The document's table: an alias is given. -/
import Derived.Test.YtgnoaeldmpbjmaaGreatDoorRq
import Derived.Deep.DeepCutAuto
set_option linter.unusedVariables false
set_option linter.unusedSimpArgs false
namespace Go.Proofs.YtgnoaeldmpbjmaaGreatDoor
open Go.RowKit

/-- What a call of Add has laid: the table's box, its results, three rows. -/
structure Add0 (w : World) (server : ByteArray) (most : Int) (a : Option Addr) (n c : Nat) (k room by_ : ByteArray) (wv : World) : Prop where
  l : Laid3 w server most a n c wv
  nm : wv.heap[w.heap.size + 1 + 1 + 1]? = some (.cells #[.string sAlias, .string sRoom, .string sUser] 9 (0, 0))
  tx : wv.heap[w.heap.size + 1 + 1 + 1 + 1]? = some (.cells #[.string k, .string room, .string by_] 9 (0, 0))
  kd : wv.heap[w.heap.size + 1 + 1 + 1 + 1 + 1]? = some (.cells #[.int .i64 3, .int .i64 1, .int .i64 2] 3 (0, 0))
theorem Add0.next {w wv wx : World} {server : ByteArray} {most : Int} {a : Option Addr} {n c : Nat} {k room by_ : ByteArray} (h : Add0 w server most a n c k room by_ wv) (hb : Below wv.heap.size wv wx) : Add0 w server most a n c k room by_ wx :=
  ⟨h.l.next hb, (hb.block _ (blk_lt h.nm)).trans h.nm, (hb.block _ (blk_lt h.tx)).trans h.tx, (hb.block _ (blk_lt h.kd)).trans h.kd⟩
theorem Add0.drew {w wv : World} {server : ByteArray} {most : Int} {a : Option Addr} {n c : Nat} {k room by_ : ByteArray} (h : Add0 w server most a n c k room by_ wv) : Add0 w server most a n c k room by_ wv.drew := ⟨h.l.drew, h.nm, h.tx, h.kd⟩
theorem add0_made (w : World) (server : ByteArray) (most : Int) (a : Option Addr) (n c : Nat) (k room by_ : ByteArray) : Add0 w server most a n c k room by_ ((((((w.alloc (.cells #[.string server, .int .i64 most, .slice a n c] 34)).alloc (.cells TZ 34)).alloc (.cells EZ 36)).alloc (.cells #[.string sAlias, .string sRoom, .string sUser] 9)).alloc (.cells #[.string k, .string room, .string by_] 9)).alloc (.cells #[.int .i64 3, .int .i64 1, .int .i64 2] 3)) :=
  ⟨(((laid3_made w server most a n c).alloc3 _).alloc3 _).alloc3 _, (heap_old_at _ _ _ (by simp)).trans ((heap_old_at _ _ _ (by simp)).trans (heap_new_at _ _ _ (by simp))), (heap_old_at _ _ _ (by simp)).trans (heap_new_at _ _ _ (by simp)), heap_new_at _ _ _ (by simp)⟩
set_option maxRecDepth 100000 in
set_option maxHeartbeats 4000000 in
theorem radd_alias (w : World) (server : ByteArray) (most : Int) (s : Sl) (k room by_ : ByteArray) (hk : k.size ≤ 9223372036854775807) (hro : room.size ≤ 9223372036854775807) (hby : by_.size ≤ 9223372036854775807) (h1 : isB 3 k.data.toList = false) :
    Calls Tryz.prog 34 #[.agg (tCells server most s), .string k, .string room, .string by_] w fun e w' => e = .returned (.tuple #[.agg (tCells server most s), erV (some ([sAlias], 7))]) ∧ Below w.heap.size w w' := by
  have HI := Lib.hid (fun W => show Calls Tryz.prog 57 #[.int .i64 3, .string k] W fun e w' => e = .returned (.bool false) ∧ Below W.heap.size W w' from h1 ▸ ris_calls W 3 k (by omega) (by omega) hk)
  obtain ⟨A, n, c⟩ := s
  have HA := Lib.hid (add0_made w server most A n c k room by_)
  clear hk hro hby h1
  simp only [tCells, Sl.val] at *
  go_enter Tryz.func34, Tryz.ntmps34
  go_wp2_with fail
  generalize (((((w.alloc (.cells #[.string server, .int .i64 most, .slice A n c] 34)).alloc (.cells TZ 34)).alloc (.cells EZ 36)).alloc (.cells #[.string sAlias, .string sRoom, .string sUser] 9)).alloc (.cells #[.string k, .string room, .string by_] 9)).alloc (.cells #[.int .i64 3, .int .i64 1, .int .i64 2] 3) = w0 at *
  have t0 := cell_at (j := 0) HA.out.l.t rfl
  have t1 := cell_at (j := 1) HA.out.l.t rfl
  have t2 := cell_at (j := 2) HA.out.l.t rfl
  have r0 := cell_at (j := 0) HA.out.l.r rfl
  have r1 := cell_at (j := 1) HA.out.l.r rfl
  have r2 := cell_at (j := 2) HA.out.l.r rfl
  have e0 := cell_at (j := 0) HA.out.l.e rfl
  have e1 := cell_at (j := 1) HA.out.l.e rfl
  have e2 := cell_at (j := 2) HA.out.l.e rfl
  have rz : ∀ j, w0.frozen? ⟨w.heap.size + 1, j, none⟩ = false := fun j => frozen_at HA.out.l.r
  have ez : ∀ j, w0.frozen? ⟨w.heap.size + 1 + 1, j, none⟩ = false := fun j => frozen_at HA.out.l.e
  have nmj : w0.cell? ⟨w.heap.size + 1 + 1 + 1, 0, none⟩ = some (.string sAlias) := cell_at HA.out.nm rfl
  have txj : w0.cell? ⟨w.heap.size + 1 + 1 + 1 + 1, 0, none⟩ = some (.string k) := cell_at HA.out.tx rfl
  have kdj : w0.cell? ⟨w.heap.size + 1 + 1 + 1 + 1 + 1, 0, none⟩ = some (.int .i64 3) := cell_at HA.out.kd rfl
  refine wp_loop_rounds 1 ?_
  rw [rounds_succ]
  go_wp2_with fail
  go_region_law (go_simp; go_at_call 57; refine (HI.out _).mono ?_; rintro e w1 ⟨rfl, hb⟩
                 have hl : Add0 w server most A n c k room by_ w1 := by first | exact HA.out.drew.next hb | exact HA.out.next hb
                 have t0 := cell_at (j := 0) hl.l.t rfl
                 have t1 := cell_at (j := 1) hl.l.t rfl
                 have t2 := cell_at (j := 2) hl.l.t rfl
                 have r0 := cell_at (j := 0) hl.l.r rfl
                 have r1 := cell_at (j := 1) hl.l.r rfl
                 have r2 := cell_at (j := 2) hl.l.r rfl
                 have e0 := cell_at (j := 0) hl.l.e rfl
                 have e1 := cell_at (j := 1) hl.l.e rfl
                 have e2 := cell_at (j := 2) hl.l.e rfl
                 have rz : ∀ j, w1.frozen? ⟨w.heap.size + 1, j, none⟩ = false := fun j => frozen_at hl.l.r
                 have ez : ∀ j, w1.frozen? ⟨w.heap.size + 1 + 1, j, none⟩ = false := fun j => frozen_at hl.l.e
                 have nmj : w1.cell? ⟨w.heap.size + 1 + 1 + 1, 0, none⟩ = some (.string sAlias) := cell_at hl.nm rfl
                 have HA1 := Lib.hid hl
                 clear hl hb)
  all_goals (go_wp2_with fail)
  all_goals
    go_region_law (first
      | (go_simp; go_at_call 20; refine (rerr_calls _ 7).mono ?_; rintro e wv ⟨rfl, hb⟩
         have hl : Add0 w server most A n c k room by_ wv := by first | exact HLV.out.next hb | exact HA1.out.drew.next hb | exact HA1.out.next hb
         have t0 := cell_at (j := 0) hl.l.t rfl
         have t1 := cell_at (j := 1) hl.l.t rfl
         have t2 := cell_at (j := 2) hl.l.t rfl
         have r0 := cell_at (j := 0) hl.l.r rfl
         have r1 := cell_at (j := 1) hl.l.r rfl
         have r2 := cell_at (j := 2) hl.l.r rfl
         have e0 := cell_at (j := 0) hl.l.e rfl
         have e1 := cell_at (j := 1) hl.l.e rfl
         have e2 := cell_at (j := 2) hl.l.e rfl
         have rz : ∀ j, wv.frozen? ⟨w.heap.size + 1, j, none⟩ = false := fun j => frozen_at hl.l.r
         have ez : ∀ j, wv.frozen? ⟨w.heap.size + 1 + 1, j, none⟩ = false := fun j => frozen_at hl.l.e
         have nmj : wv.cell? ⟨w.heap.size + 1 + 1 + 1, 0, none⟩ = some (.string sAlias) := cell_at hl.nm rfl
         have HLV := Lib.hid hl
         clear hl hb
         simp only [erV, eCells])
      | (go_simp; go_at_call 30; refine (rin01_calls _ sAlias [] 7 rfl (by decide) (by simp [pathL])).mono ?_; rintro e wv ⟨rfl, hb⟩
         have hl : Add0 w server most A n c k room by_ wv := by first | exact HLV.out.next hb | exact HA1.out.drew.next hb | exact HA1.out.next hb
         have t0 := cell_at (j := 0) hl.l.t rfl
         have t1 := cell_at (j := 1) hl.l.t rfl
         have t2 := cell_at (j := 2) hl.l.t rfl
         have r0 := cell_at (j := 0) hl.l.r rfl
         have r1 := cell_at (j := 1) hl.l.r rfl
         have r2 := cell_at (j := 2) hl.l.r rfl
         have e0 := cell_at (j := 0) hl.l.e rfl
         have e1 := cell_at (j := 1) hl.l.e rfl
         have e2 := cell_at (j := 2) hl.l.e rfl
         have rz : ∀ j, wv.frozen? ⟨w.heap.size + 1, j, none⟩ = false := fun j => frozen_at hl.l.r
         have ez : ∀ j, wv.frozen? ⟨w.heap.size + 1 + 1, j, none⟩ = false := fun j => frozen_at hl.l.e
         have nmj : wv.cell? ⟨w.heap.size + 1 + 1 + 1, 0, none⟩ = some (.string sAlias) := cell_at hl.nm rfl
         have HLV := Lib.hid hl
         clear hl hb
         simp only [erV, eCells]))
    all_goals (go_wp2_with fail)
    all_goals first
    | (refine bodyPost_ret (res_TE rfl _ _ (w.heap.size + 1) (w.heap.size + 1 + 1) #[.string server, .int .i64 most, .slice A n c] #[.int .i64 7, .int .i64 (-1), .string (ofL (pathL [sAlias]))] rfl (HLV.out.l.fin _ _ _ _ _ _).1 rfl rfl (HLV.out.l.fin _ _ _ _ _ _).2.1 rfl) rfl ?_
       exact ⟨rfl, (HLV.out.l.fin _ _ _ _ _ _).2.2⟩)
    | (refine bodyPost_ret (res_TE rfl _ _ (w.heap.size + 1) (w.heap.size + 1 + 1) #[.string server, .int .i64 most, .slice A n c] #[.int .i64 7, .int .i64 (-1), .string (ofL (pathL [sAlias]))] rfl (HLV.out.l.fin' _ _ _ _ _ _).1 rfl rfl (HLV.out.l.fin' _ _ _ _ _ _).2.1 rfl) rfl ?_
       exact ⟨rfl, (HLV.out.l.fin' _ _ _ _ _ _).2.2⟩)
end Go.Proofs.YtgnoaeldmpbjmaaGreatDoor
