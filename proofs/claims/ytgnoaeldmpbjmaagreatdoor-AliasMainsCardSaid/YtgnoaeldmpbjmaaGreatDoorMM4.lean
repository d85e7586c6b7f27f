/- The document's table: an alias is given. -/
import Derived.Test.YtgnoaeldmpbjmaaGreatDoorMM3
import Derived.Deep.DeepCutAuto
import Derived.StillTail
import Derived.OrdersHeld
import Derived.RegionTactic
import Derived.Lib.Hide
import Derived.OwnWalk
set_option linter.unusedVariables false
set_option linter.unusedSimpArgs false
namespace Go.Proofs.YtgnoaeldmpbjmaaGreatDoor
open Go.RowKit Go.Maps Go.Sort

set_option maxRecDepth 100000 in
set_option maxHeartbeats 4000000 in
theorem radd_room (w : World) (server : ByteArray) (most : Int) (s : Sl) (k room by_ : ByteArray) (hk : k.size ≤ 9223372036854775807) (hro : room.size ≤ 9223372036854775807) (hby : by_.size ≤ 9223372036854775807) (g0 : isB 3 k.data.toList = true) (g1 : isB 1 room.data.toList = false) :
    Calls Tryz.prog 34 #[.agg (tCells server most s), .string k, .string room, .string by_] w fun e w' => e = .returned (.tuple #[.agg (tCells server most s), erV (some ([sRoom], 7))]) ∧ Below w.heap.size w w' := by
  have HI0 := Lib.hid (fun W => show Calls Tryz.prog 57 #[.int .i64 3, .string k] W fun e w' => e = .returned (.bool true) ∧ Below W.heap.size W w' from g0 ▸ ris_calls W 3 k (by omega) (by omega) hk)
  have HI1 := Lib.hid (fun W => show Calls Tryz.prog 57 #[.int .i64 1, .string room] W fun e w' => e = .returned (.bool false) ∧ Below W.heap.size W w' from g1 ▸ ris_calls W 1 room (by omega) (by omega) hro)
  obtain ⟨A, n, c0⟩ := s
  have HA := Lib.hid (add0_made w server most A n c0 k room by_)
  clear hk hro hby g0 g1
  simp only [tCells, Sl.val] at *
  go_enter Tryz.func34, Tryz.ntmps34
  go_wp2_with fail
  generalize (((((w.alloc (.cells #[.string server, .int .i64 most, .slice A n c0] 34)).alloc (.cells TZ 34)).alloc (.cells EZ 36)).alloc (.cells #[.string sAlias, .string sRoom, .string sUser] 9)).alloc (.cells #[.string k, .string room, .string by_] 9)).alloc (.cells #[.int .i64 3, .int .i64 1, .int .i64 2] 3) = w0 at *
  refine wp_loop_rounds 2 ?_
  rw [rounds_succ]
  go_wp2_with fail
  have nmj : w0.cell? ⟨w.heap.size + 1 + 1 + 1, 0, none⟩ = some (.string sAlias) := cell_at HA.out.nm rfl
  have txj : w0.cell? ⟨w.heap.size + 1 + 1 + 1 + 1, 0, none⟩ = some (.string k) := cell_at HA.out.tx rfl
  have kdj : w0.cell? ⟨w.heap.size + 1 + 1 + 1 + 1 + 1, 0, none⟩ = some (.int .i64 3) := cell_at HA.out.kd rfl
  go_cut [35] (fun c wx => c = .bool false ∧ Add0 w server most A n c0 k room by_ wx)
  case first =>
    go_region_law (go_simp; go_at_call 57; refine (HI0.out _).mono ?_; rintro e wv ⟨rfl, hb⟩
                   have HLV := Lib.hid (show Add0 w server most A n c0 k room by_ wv by first | exact HA.out.drew.next hb | exact HA.out.next hb)
                   clear hb)
    all_goals
      go_wp2_with fail
      go_meet
      exact ⟨rfl, HLV.out⟩
  obtain ⟨hc0, hg0⟩ := hcut
  subst hc0
  have HG0 := Lib.hid hg0
  clear hg0 nmj txj kdj
  rename World => wg0
  go_wp2_with fail
  rw [rounds_succ]
  go_wp2_with fail
  have t0 := cell_at (j := 0) HG0.out.l.t rfl
  have t1 := cell_at (j := 1) HG0.out.l.t rfl
  have t2 := cell_at (j := 2) HG0.out.l.t rfl
  have r0 := cell_at (j := 0) HG0.out.l.r rfl
  have r1 := cell_at (j := 1) HG0.out.l.r rfl
  have r2 := cell_at (j := 2) HG0.out.l.r rfl
  have e0 := cell_at (j := 0) HG0.out.l.e rfl
  have e1 := cell_at (j := 1) HG0.out.l.e rfl
  have e2 := cell_at (j := 2) HG0.out.l.e rfl
  have rz : ∀ j, wg0.frozen? ⟨w.heap.size + 1, j, none⟩ = false := fun j => frozen_at HG0.out.l.r
  have ez : ∀ j, wg0.frozen? ⟨w.heap.size + 1 + 1, j, none⟩ = false := fun j => frozen_at HG0.out.l.e
  have nmj : wg0.cell? ⟨w.heap.size + 1 + 1 + 1, 1, none⟩ = some (.string sRoom) := cell_at HG0.out.nm rfl
  have txj : wg0.cell? ⟨w.heap.size + 1 + 1 + 1 + 1, 1, none⟩ = some (.string room) := cell_at HG0.out.tx rfl
  have kdj : wg0.cell? ⟨w.heap.size + 1 + 1 + 1 + 1 + 1, 1, none⟩ = some (.int .i64 1) := cell_at HG0.out.kd rfl
  go_region_law (go_simp; go_at_call 57; refine (HI1.out _).mono ?_; rintro e w1 ⟨rfl, hb⟩
                 have hl : Add0 w server most A n c0 k room by_ w1 := by first | exact HG0.out.drew.next hb | exact HG0.out.next hb
                 have t0 := cell_at (j := 0) hl.l.t rfl
                 have t1 := cell_at (j := 1) hl.l.t rfl
                 have t2 := cell_at (j := 2) hl.l.t rfl
                 have r0 := cell_at (j := 0) hl.l.r rfl
                 have r1 := cell_at (j := 1) hl.l.r rfl
                 have r2 := cell_at (j := 2) hl.l.r rfl
                 have e0 := cell_at (j := 0) hl.l.e rfl
                 have e1 := cell_at (j := 1) hl.l.e rfl
                 have e2 := cell_at (j := 2) hl.l.e rfl
                 have rz : ∀ j, w1.frozen? ⟨w.heap.size + 1, j, none⟩ = false := fun j => frozen_at hl.l.r
                 have ez : ∀ j, w1.frozen? ⟨w.heap.size + 1 + 1, j, none⟩ = false := fun j => frozen_at hl.l.e
                 have nmj : w1.cell? ⟨w.heap.size + 1 + 1 + 1, 1, none⟩ = some (.string sRoom) := cell_at hl.nm rfl
                 have HA1 := Lib.hid hl
                 clear hl hb)
  all_goals (go_wp2_with fail)
  all_goals
    go_region_law (first
      | (go_simp; go_at_call 20; refine (rerr_calls _ 7).mono ?_; rintro e wv ⟨rfl, hb⟩
         have hl : Add0 w server most A n c0 k room by_ wv := by first | exact HLV.out.drew.next hb | exact HLV.out.next hb | exact HA1.out.drew.next hb | exact HA1.out.next hb
         have t0 := cell_at (j := 0) hl.l.t rfl
         have t1 := cell_at (j := 1) hl.l.t rfl
         have t2 := cell_at (j := 2) hl.l.t rfl
         have r0 := cell_at (j := 0) hl.l.r rfl
         have r1 := cell_at (j := 1) hl.l.r rfl
         have r2 := cell_at (j := 2) hl.l.r rfl
         have e0 := cell_at (j := 0) hl.l.e rfl
         have e1 := cell_at (j := 1) hl.l.e rfl
         have e2 := cell_at (j := 2) hl.l.e rfl
         have rz : ∀ j, wv.frozen? ⟨w.heap.size + 1, j, none⟩ = false := fun j => frozen_at hl.l.r
         have ez : ∀ j, wv.frozen? ⟨w.heap.size + 1 + 1, j, none⟩ = false := fun j => frozen_at hl.l.e
         have nmj : wv.cell? ⟨w.heap.size + 1 + 1 + 1, 1, none⟩ = some (.string sRoom) := cell_at hl.nm rfl
         have HLV := Lib.hid hl
         clear hl hb
         simp only [erV, eCells])
      | (go_simp; go_at_call 30; refine (rin01_calls _ sRoom [] 7 rfl (by decide) (by simp [pathL])).mono ?_; rintro e wv ⟨rfl, hb⟩
         have hl : Add0 w server most A n c0 k room by_ wv := by first | exact HLV.out.drew.next hb | exact HLV.out.next hb | exact HA1.out.drew.next hb | exact HA1.out.next hb
         have t0 := cell_at (j := 0) hl.l.t rfl
         have t1 := cell_at (j := 1) hl.l.t rfl
         have t2 := cell_at (j := 2) hl.l.t rfl
         have r0 := cell_at (j := 0) hl.l.r rfl
         have r1 := cell_at (j := 1) hl.l.r rfl
         have r2 := cell_at (j := 2) hl.l.r rfl
         have e0 := cell_at (j := 0) hl.l.e rfl
         have e1 := cell_at (j := 1) hl.l.e rfl
         have e2 := cell_at (j := 2) hl.l.e rfl
         have rz : ∀ j, wv.frozen? ⟨w.heap.size + 1, j, none⟩ = false := fun j => frozen_at hl.l.r
         have ez : ∀ j, wv.frozen? ⟨w.heap.size + 1 + 1, j, none⟩ = false := fun j => frozen_at hl.l.e
         have nmj : wv.cell? ⟨w.heap.size + 1 + 1 + 1, 1, none⟩ = some (.string sRoom) := cell_at hl.nm rfl
         have HLV := Lib.hid hl
         clear hl hb
         simp only [erV, eCells]))
    all_goals (go_wp2_with fail)
    all_goals first
    | (refine bodyPost_ret (res_TE rfl _ _ (w.heap.size + 1) (w.heap.size + 1 + 1) #[.string server, .int .i64 most, .slice A n c0] #[.int .i64 7, .int .i64 (-1), .string (ofL (pathL [sRoom]))] rfl (HLV.out.l.fin _ _ _ _ _ _).1 rfl rfl (HLV.out.l.fin _ _ _ _ _ _).2.1 rfl) rfl ?_
       exact ⟨rfl, (HLV.out.l.fin _ _ _ _ _ _).2.2⟩)
    | (refine bodyPost_ret (res_TE rfl _ _ (w.heap.size + 1) (w.heap.size + 1 + 1) #[.string server, .int .i64 most, .slice A n c0] #[.int .i64 7, .int .i64 (-1), .string (ofL (pathL [sRoom]))] rfl (HLV.out.l.fin' _ _ _ _ _ _).1 rfl rfl (HLV.out.l.fin' _ _ _ _ _ _).2.1 rfl) rfl ?_
       exact ⟨rfl, (HLV.out.l.fin' _ _ _ _ _ _).2.2⟩)
set_option maxRecDepth 100000 in
set_option maxHeartbeats 4000000 in
theorem radd_user (w : World) (server : ByteArray) (most : Int) (s : Sl) (k room by_ : ByteArray) (hk : k.size ≤ 9223372036854775807) (hro : room.size ≤ 9223372036854775807) (hby : by_.size ≤ 9223372036854775807) (g0 : isB 3 k.data.toList = true) (g1 : isB 1 room.data.toList = true) (g2 : isB 2 by_.data.toList = false) :
    Calls Tryz.prog 34 #[.agg (tCells server most s), .string k, .string room, .string by_] w fun e w' => e = .returned (.tuple #[.agg (tCells server most s), erV (some ([sUser], 7))]) ∧ Below w.heap.size w w' := by
  have HI0 := Lib.hid (fun W => show Calls Tryz.prog 57 #[.int .i64 3, .string k] W fun e w' => e = .returned (.bool true) ∧ Below W.heap.size W w' from g0 ▸ ris_calls W 3 k (by omega) (by omega) hk)
  have HI1 := Lib.hid (fun W => show Calls Tryz.prog 57 #[.int .i64 1, .string room] W fun e w' => e = .returned (.bool true) ∧ Below W.heap.size W w' from g1 ▸ ris_calls W 1 room (by omega) (by omega) hro)
  have HI2 := Lib.hid (fun W => show Calls Tryz.prog 57 #[.int .i64 2, .string by_] W fun e w' => e = .returned (.bool false) ∧ Below W.heap.size W w' from g2 ▸ ris_calls W 2 by_ (by omega) (by omega) hby)
  obtain ⟨A, n, c0⟩ := s
  clear g2
  have HA := Lib.hid (add0_made w server most A n c0 k room by_)
  clear hk hro hby g0 g1
  simp only [tCells, Sl.val] at *
  go_enter Tryz.func34, Tryz.ntmps34
  go_wp2_with fail
  generalize (((((w.alloc (.cells #[.string server, .int .i64 most, .slice A n c0] 34)).alloc (.cells TZ 34)).alloc (.cells EZ 36)).alloc (.cells #[.string sAlias, .string sRoom, .string sUser] 9)).alloc (.cells #[.string k, .string room, .string by_] 9)).alloc (.cells #[.int .i64 3, .int .i64 1, .int .i64 2] 3) = w0 at *
  refine wp_loop_rounds 3 ?_
  rw [rounds_succ]
  go_wp2_with fail
  have nmj : w0.cell? ⟨w.heap.size + 1 + 1 + 1, 0, none⟩ = some (.string sAlias) := cell_at HA.out.nm rfl
  have txj : w0.cell? ⟨w.heap.size + 1 + 1 + 1 + 1, 0, none⟩ = some (.string k) := cell_at HA.out.tx rfl
  have kdj : w0.cell? ⟨w.heap.size + 1 + 1 + 1 + 1 + 1, 0, none⟩ = some (.int .i64 3) := cell_at HA.out.kd rfl
  go_cut [35] (fun c wx => c = .bool false ∧ Add0 w server most A n c0 k room by_ wx)
  case first =>
    go_region_law (go_simp; go_at_call 57; refine (HI0.out _).mono ?_; rintro e wv ⟨rfl, hb⟩
                   have HLV := Lib.hid (show Add0 w server most A n c0 k room by_ wv by first | exact HA.out.drew.next hb | exact HA.out.next hb)
                   clear hb)
    all_goals
      go_wp2_with fail
      go_meet
      exact ⟨rfl, HLV.out⟩
  obtain ⟨hc0, hg0⟩ := hcut
  subst hc0
  have HG0 := Lib.hid hg0
  clear hg0 nmj txj kdj
  rename World => wg0
  go_wp2_with fail
  rw [rounds_succ]
  go_wp2_with fail
  have nmj : wg0.cell? ⟨w.heap.size + 1 + 1 + 1, 1, none⟩ = some (.string sRoom) := cell_at HG0.out.nm rfl
  have txj : wg0.cell? ⟨w.heap.size + 1 + 1 + 1 + 1, 1, none⟩ = some (.string room) := cell_at HG0.out.tx rfl
  have kdj : wg0.cell? ⟨w.heap.size + 1 + 1 + 1 + 1 + 1, 1, none⟩ = some (.int .i64 1) := cell_at HG0.out.kd rfl
  go_cut [35] (fun c wx => c = .bool false ∧ Add0 w server most A n c0 k room by_ wx)
  case first =>
    go_region_law (go_simp; go_at_call 57; refine (HI1.out _).mono ?_; rintro e wv ⟨rfl, hb⟩
                   have HLV := Lib.hid (show Add0 w server most A n c0 k room by_ wv by first | exact HG0.out.drew.next hb | exact HG0.out.next hb)
                   clear hb)
    all_goals
      go_wp2_with fail
      go_meet
      exact ⟨rfl, HLV.out⟩
  obtain ⟨hc1, hg1⟩ := hcut
  subst hc1
  have HG1 := Lib.hid hg1
  clear hg1 nmj txj kdj
  rename World => wg1
  go_wp2_with fail
  rw [rounds_succ]
  go_wp2_with fail
  have t0 := cell_at (j := 0) HG1.out.l.t rfl
  have t1 := cell_at (j := 1) HG1.out.l.t rfl
  have t2 := cell_at (j := 2) HG1.out.l.t rfl
  have r0 := cell_at (j := 0) HG1.out.l.r rfl
  have r1 := cell_at (j := 1) HG1.out.l.r rfl
  have r2 := cell_at (j := 2) HG1.out.l.r rfl
  have e0 := cell_at (j := 0) HG1.out.l.e rfl
  have e1 := cell_at (j := 1) HG1.out.l.e rfl
  have e2 := cell_at (j := 2) HG1.out.l.e rfl
  have rz : ∀ j, wg1.frozen? ⟨w.heap.size + 1, j, none⟩ = false := fun j => frozen_at HG1.out.l.r
  have ez : ∀ j, wg1.frozen? ⟨w.heap.size + 1 + 1, j, none⟩ = false := fun j => frozen_at HG1.out.l.e
  have nmj : wg1.cell? ⟨w.heap.size + 1 + 1 + 1, 2, none⟩ = some (.string sUser) := cell_at HG1.out.nm rfl
  have txj : wg1.cell? ⟨w.heap.size + 1 + 1 + 1 + 1, 2, none⟩ = some (.string by_) := cell_at HG1.out.tx rfl
  have kdj : wg1.cell? ⟨w.heap.size + 1 + 1 + 1 + 1 + 1, 2, none⟩ = some (.int .i64 2) := cell_at HG1.out.kd rfl
  go_region_law (go_simp; go_at_call 57; refine (HI2.out _).mono ?_; rintro e w1 ⟨rfl, hb⟩
                 have hl : Add0 w server most A n c0 k room by_ w1 := by first | exact HG1.out.drew.next hb | exact HG1.out.next hb
                 have t0 := cell_at (j := 0) hl.l.t rfl
                 have t1 := cell_at (j := 1) hl.l.t rfl
                 have t2 := cell_at (j := 2) hl.l.t rfl
                 have r0 := cell_at (j := 0) hl.l.r rfl
                 have r1 := cell_at (j := 1) hl.l.r rfl
                 have r2 := cell_at (j := 2) hl.l.r rfl
                 have e0 := cell_at (j := 0) hl.l.e rfl
                 have e1 := cell_at (j := 1) hl.l.e rfl
                 have e2 := cell_at (j := 2) hl.l.e rfl
                 have rz : ∀ j, w1.frozen? ⟨w.heap.size + 1, j, none⟩ = false := fun j => frozen_at hl.l.r
                 have ez : ∀ j, w1.frozen? ⟨w.heap.size + 1 + 1, j, none⟩ = false := fun j => frozen_at hl.l.e
                 have nmj : w1.cell? ⟨w.heap.size + 1 + 1 + 1, 2, none⟩ = some (.string sUser) := cell_at hl.nm rfl
                 have HA1 := Lib.hid hl
                 clear hl hb)
  all_goals (go_wp2_with fail)
  all_goals
    go_region_law (first
      | (go_simp; go_at_call 20; refine (rerr_calls _ 7).mono ?_; rintro e wv ⟨rfl, hb⟩
         have hl : Add0 w server most A n c0 k room by_ wv := by first | exact HLV.out.drew.next hb | exact HLV.out.next hb | exact HA1.out.drew.next hb | exact HA1.out.next hb
         have t0 := cell_at (j := 0) hl.l.t rfl
         have t1 := cell_at (j := 1) hl.l.t rfl
         have t2 := cell_at (j := 2) hl.l.t rfl
         have r0 := cell_at (j := 0) hl.l.r rfl
         have r1 := cell_at (j := 1) hl.l.r rfl
         have r2 := cell_at (j := 2) hl.l.r rfl
         have e0 := cell_at (j := 0) hl.l.e rfl
         have e1 := cell_at (j := 1) hl.l.e rfl
         have e2 := cell_at (j := 2) hl.l.e rfl
         have rz : ∀ j, wv.frozen? ⟨w.heap.size + 1, j, none⟩ = false := fun j => frozen_at hl.l.r
         have ez : ∀ j, wv.frozen? ⟨w.heap.size + 1 + 1, j, none⟩ = false := fun j => frozen_at hl.l.e
         have nmj : wv.cell? ⟨w.heap.size + 1 + 1 + 1, 2, none⟩ = some (.string sUser) := cell_at hl.nm rfl
         have HLV := Lib.hid hl
         clear hl hb
         simp only [erV, eCells])
      | (go_simp; go_at_call 30; refine (rin01_calls _ sUser [] 7 rfl (by decide) (by simp [pathL])).mono ?_; rintro e wv ⟨rfl, hb⟩
         have hl : Add0 w server most A n c0 k room by_ wv := by first | exact HLV.out.drew.next hb | exact HLV.out.next hb | exact HA1.out.drew.next hb | exact HA1.out.next hb
         have t0 := cell_at (j := 0) hl.l.t rfl
         have t1 := cell_at (j := 1) hl.l.t rfl
         have t2 := cell_at (j := 2) hl.l.t rfl
         have r0 := cell_at (j := 0) hl.l.r rfl
         have r1 := cell_at (j := 1) hl.l.r rfl
         have r2 := cell_at (j := 2) hl.l.r rfl
         have e0 := cell_at (j := 0) hl.l.e rfl
         have e1 := cell_at (j := 1) hl.l.e rfl
         have e2 := cell_at (j := 2) hl.l.e rfl
         have rz : ∀ j, wv.frozen? ⟨w.heap.size + 1, j, none⟩ = false := fun j => frozen_at hl.l.r
         have ez : ∀ j, wv.frozen? ⟨w.heap.size + 1 + 1, j, none⟩ = false := fun j => frozen_at hl.l.e
         have nmj : wv.cell? ⟨w.heap.size + 1 + 1 + 1, 2, none⟩ = some (.string sUser) := cell_at hl.nm rfl
         have HLV := Lib.hid hl
         clear hl hb
         simp only [erV, eCells]))
    all_goals (go_wp2_with fail)
    all_goals first
    | (refine bodyPost_ret (res_TE rfl _ _ (w.heap.size + 1) (w.heap.size + 1 + 1) #[.string server, .int .i64 most, .slice A n c0] #[.int .i64 7, .int .i64 (-1), .string (ofL (pathL [sUser]))] rfl (HLV.out.l.fin _ _ _ _ _ _).1 rfl rfl (HLV.out.l.fin _ _ _ _ _ _).2.1 rfl) rfl ?_
       exact ⟨rfl, (HLV.out.l.fin _ _ _ _ _ _).2.2⟩)
    | (refine bodyPost_ret (res_TE rfl _ _ (w.heap.size + 1) (w.heap.size + 1 + 1) #[.string server, .int .i64 most, .slice A n c0] #[.int .i64 7, .int .i64 (-1), .string (ofL (pathL [sUser]))] rfl (HLV.out.l.fin' _ _ _ _ _ _).1 rfl rfl (HLV.out.l.fin' _ _ _ _ _ _).2.1 rfl) rfl ?_
       exact ⟨rfl, (HLV.out.l.fin' _ _ _ _ _ _).2.2⟩)
end Go.Proofs.YtgnoaeldmpbjmaaGreatDoor
/- The document's table: an alias is given. -/
set_option linter.unusedVariables false
set_option linter.unusedSimpArgs false
namespace Go.Proofs.YtgnoaeldmpbjmaaGreatDoor
open Go.RowKit Go.Maps Go.Sort

theorem rof4_calls (w : World) (s : ByteArray) (hs : s.size ≤ 9223372036854775807) :
    Calls Tryz.prog 58 #[.string s] w fun e w' => e = .returned (.string (ofL (ofB s.data.toList))) ∧ Below w.heap.size w w' := by
  have HS := Lib.hid (rsplit_calls w s hs)
  have HR := Lib.hid (show ofB s.data.toList = match splitB s.data.toList with | some (_, _, h) => h | none => [] from rfl)
  clear hs
  go_enter Tryz.func58, Tryz.ntmps58
  go_wp2_with fail
  refine HS.out.mono ?_
  rintro e w1 ⟨rfl, hb⟩
  have HB := Lib.hid hb
  clear hb HS
  generalize splitB s.data.toList = x at *
  match x with
  | none =>
    unfold rsplitV
    go_wp2_with fail
    go_ret
    exact ⟨by rw [HR.out]; rfl, HB.out⟩
  | some (k, p, h) =>
    unfold rsplitV
    go_wp2_with fail
    go_ret
    exact ⟨by rw [HR.out]; rfl, HB.out⟩
set_option maxRecDepth 100000 in
set_option maxHeartbeats 4000000 in
theorem radd_server (w : World) (server : ByteArray) (most : Int) (s : Sl) (k room by_ : ByteArray) (hk : k.size ≤ 9223372036854775807) (hro : room.size ≤ 9223372036854775807) (hby : by_.size ≤ 9223372036854775807) (g0 : isB 3 k.data.toList = true) (g1 : isB 1 room.data.toList = true) (g2 : isB 2 by_.data.toList = true) (h4 : ((ofL (ofB k.data.toList)).toList == server.toList) = false) :
    Calls Tryz.prog 34 #[.agg (tCells server most s), .string k, .string room, .string by_] w fun e w' => e = .returned (.tuple #[.agg (tCells server most s), erV (some ([sAlias], 22))]) ∧ Below w.heap.size w w' := by
  have HI0 := Lib.hid (fun W => show Calls Tryz.prog 57 #[.int .i64 3, .string k] W fun e w' => e = .returned (.bool true) ∧ Below W.heap.size W w' from g0 ▸ ris_calls W 3 k (by omega) (by omega) hk)
  have HI1 := Lib.hid (fun W => show Calls Tryz.prog 57 #[.int .i64 1, .string room] W fun e w' => e = .returned (.bool true) ∧ Below W.heap.size W w' from g1 ▸ ris_calls W 1 room (by omega) (by omega) hro)
  have HI2 := Lib.hid (fun W => show Calls Tryz.prog 57 #[.int .i64 2, .string by_] W fun e w' => e = .returned (.bool true) ∧ Below W.heap.size W w' from g2 ▸ ris_calls W 2 by_ (by omega) (by omega) hby)
  have HO := Lib.hid (fun W => rof4_calls W k hk)
  obtain ⟨A, n, c0⟩ := s
  clear g2
  have HA := Lib.hid (add0_made w server most A n c0 k room by_)
  clear hk hro hby g0 g1
  simp only [tCells, Sl.val] at *
  go_enter Tryz.func34, Tryz.ntmps34
  go_wp2_with fail
  generalize (((((w.alloc (.cells #[.string server, .int .i64 most, .slice A n c0] 34)).alloc (.cells TZ 34)).alloc (.cells EZ 36)).alloc (.cells #[.string sAlias, .string sRoom, .string sUser] 9)).alloc (.cells #[.string k, .string room, .string by_] 9)).alloc (.cells #[.int .i64 3, .int .i64 1, .int .i64 2] 3) = w0 at *
  refine wp_loop_rounds 4 ?_
  rw [rounds_succ]
  go_wp2_with fail
  have nmj : w0.cell? ⟨w.heap.size + 1 + 1 + 1, 0, none⟩ = some (.string sAlias) := cell_at HA.out.nm rfl
  have txj : w0.cell? ⟨w.heap.size + 1 + 1 + 1 + 1, 0, none⟩ = some (.string k) := cell_at HA.out.tx rfl
  have kdj : w0.cell? ⟨w.heap.size + 1 + 1 + 1 + 1 + 1, 0, none⟩ = some (.int .i64 3) := cell_at HA.out.kd rfl
  go_cut [35] (fun c wx => c = .bool false ∧ Add0 w server most A n c0 k room by_ wx)
  case first =>
    go_region_law (go_simp; go_at_call 57; refine (HI0.out _).mono ?_; rintro e wv ⟨rfl, hb⟩
                   have HLV := Lib.hid (show Add0 w server most A n c0 k room by_ wv by first | exact HA.out.drew.next hb | exact HA.out.next hb)
                   clear hb)
    all_goals
      go_wp2_with fail
      go_meet
      exact ⟨rfl, HLV.out⟩
  obtain ⟨hc0, hg0⟩ := hcut
  subst hc0
  have HG0 := Lib.hid hg0
  clear hg0 nmj txj kdj
  rename World => wg0
  go_wp2_with fail
  rw [rounds_succ]
  go_wp2_with fail
  have nmj : wg0.cell? ⟨w.heap.size + 1 + 1 + 1, 1, none⟩ = some (.string sRoom) := cell_at HG0.out.nm rfl
  have txj : wg0.cell? ⟨w.heap.size + 1 + 1 + 1 + 1, 1, none⟩ = some (.string room) := cell_at HG0.out.tx rfl
  have kdj : wg0.cell? ⟨w.heap.size + 1 + 1 + 1 + 1 + 1, 1, none⟩ = some (.int .i64 1) := cell_at HG0.out.kd rfl
  go_cut [35] (fun c wx => c = .bool false ∧ Add0 w server most A n c0 k room by_ wx)
  case first =>
    go_region_law (go_simp; go_at_call 57; refine (HI1.out _).mono ?_; rintro e wv ⟨rfl, hb⟩
                   have HLV := Lib.hid (show Add0 w server most A n c0 k room by_ wv by first | exact HG0.out.drew.next hb | exact HG0.out.next hb)
                   clear hb)
    all_goals
      go_wp2_with fail
      go_meet
      exact ⟨rfl, HLV.out⟩
  obtain ⟨hc1, hg1⟩ := hcut
  subst hc1
  have HG1 := Lib.hid hg1
  clear hg1 nmj txj kdj
  rename World => wg1
  go_wp2_with fail
  rw [rounds_succ]
  go_wp2_with fail
  have nmj : wg1.cell? ⟨w.heap.size + 1 + 1 + 1, 2, none⟩ = some (.string sUser) := cell_at HG1.out.nm rfl
  have txj : wg1.cell? ⟨w.heap.size + 1 + 1 + 1 + 1, 2, none⟩ = some (.string by_) := cell_at HG1.out.tx rfl
  have kdj : wg1.cell? ⟨w.heap.size + 1 + 1 + 1 + 1 + 1, 2, none⟩ = some (.int .i64 2) := cell_at HG1.out.kd rfl
  go_cut [35] (fun c wx => c = .bool false ∧ Add0 w server most A n c0 k room by_ wx)
  case first =>
    go_region_law (go_simp; go_at_call 57; refine (HI2.out _).mono ?_; rintro e wv ⟨rfl, hb⟩
                   have HLV := Lib.hid (show Add0 w server most A n c0 k room by_ wv by first | exact HG1.out.drew.next hb | exact HG1.out.next hb)
                   clear hb)
    all_goals
      go_wp2_with fail
      go_meet
      exact ⟨rfl, HLV.out⟩
  obtain ⟨hc2, hg2⟩ := hcut
  subst hc2
  have HG2 := Lib.hid hg2
  clear hg2 nmj txj kdj
  rename World => wg2
  go_wp2_with fail
  rw [rounds_succ]
  go_wp2_with fail
  have t0 := cell_at (j := 0) HG2.out.l.t rfl
  go_cut [48] (fun c wx => c = .bool true ∧ Add0 w server most A n c0 k room by_ wx)
  case first =>
    go_region_law (go_simp; go_at_call 58; refine (HO.out _).mono ?_; rintro e wv ⟨rfl, hb⟩
                   have hl : Add0 w server most A n c0 k room by_ wv := by first | exact HG2.out.drew.next hb | exact HG2.out.next hb
                   have t0v := cell_at (j := 0) hl.l.t rfl
                   have HLV := Lib.hid hl
                   clear hl hb)
    all_goals
      go_wp2_with fail
      go_meet
      exact ⟨rfl, HLV.out⟩
  obtain ⟨hc3, hg3⟩ := hcut
  subst hc3
  have HG3 := Lib.hid hg3
  clear hg3 t0
  rename World => wg3
  have t0 := cell_at (j := 0) HG3.out.l.t rfl
  have t1 := cell_at (j := 1) HG3.out.l.t rfl
  have t2 := cell_at (j := 2) HG3.out.l.t rfl
  have r0 := cell_at (j := 0) HG3.out.l.r rfl
  have r1 := cell_at (j := 1) HG3.out.l.r rfl
  have r2 := cell_at (j := 2) HG3.out.l.r rfl
  have e0 := cell_at (j := 0) HG3.out.l.e rfl
  have e1 := cell_at (j := 1) HG3.out.l.e rfl
  have e2 := cell_at (j := 2) HG3.out.l.e rfl
  have rz : ∀ j, wg3.frozen? ⟨w.heap.size + 1, j, none⟩ = false := fun j => frozen_at HG3.out.l.r
  have ez : ∀ j, wg3.frozen? ⟨w.heap.size + 1 + 1, j, none⟩ = false := fun j => frozen_at HG3.out.l.e
  go_wp2_with fail
  go_region_law (first
    | (go_simp; go_at_call 20; refine (rerr_calls _ 22).mono ?_; rintro e wv ⟨rfl, hb⟩
       have hl : Add0 w server most A n c0 k room by_ wv := by first | exact HLV.out.drew.next hb | exact HLV.out.next hb | exact HG3.out.drew.next hb | exact HG3.out.next hb
       have t0 := cell_at (j := 0) hl.l.t rfl
       have t1 := cell_at (j := 1) hl.l.t rfl
       have t2 := cell_at (j := 2) hl.l.t rfl
       have r0 := cell_at (j := 0) hl.l.r rfl
       have r1 := cell_at (j := 1) hl.l.r rfl
       have r2 := cell_at (j := 2) hl.l.r rfl
       have e0 := cell_at (j := 0) hl.l.e rfl
       have e1 := cell_at (j := 1) hl.l.e rfl
       have e2 := cell_at (j := 2) hl.l.e rfl
       have rz : ∀ j, wv.frozen? ⟨w.heap.size + 1, j, none⟩ = false := fun j => frozen_at hl.l.r
       have ez : ∀ j, wv.frozen? ⟨w.heap.size + 1 + 1, j, none⟩ = false := fun j => frozen_at hl.l.e
       skip
       have HLV := Lib.hid hl
       clear hl hb
       simp only [erV, eCells])
    | (go_simp; go_at_call 30; refine (rin01_calls _ sAlias [] 22 rfl (by decide) (by simp [pathL])).mono ?_; rintro e wv ⟨rfl, hb⟩
       have hl : Add0 w server most A n c0 k room by_ wv := by first | exact HLV.out.drew.next hb | exact HLV.out.next hb | exact HG3.out.drew.next hb | exact HG3.out.next hb
       have t0 := cell_at (j := 0) hl.l.t rfl
       have t1 := cell_at (j := 1) hl.l.t rfl
       have t2 := cell_at (j := 2) hl.l.t rfl
       have r0 := cell_at (j := 0) hl.l.r rfl
       have r1 := cell_at (j := 1) hl.l.r rfl
       have r2 := cell_at (j := 2) hl.l.r rfl
       have e0 := cell_at (j := 0) hl.l.e rfl
       have e1 := cell_at (j := 1) hl.l.e rfl
       have e2 := cell_at (j := 2) hl.l.e rfl
       have rz : ∀ j, wv.frozen? ⟨w.heap.size + 1, j, none⟩ = false := fun j => frozen_at hl.l.r
       have ez : ∀ j, wv.frozen? ⟨w.heap.size + 1 + 1, j, none⟩ = false := fun j => frozen_at hl.l.e
       skip
       have HLV := Lib.hid hl
       clear hl hb
       simp only [erV, eCells]))
  all_goals (go_wp2_with fail)
  all_goals first
  | (refine bodyPost_ret (res_TE rfl _ _ (w.heap.size + 1) (w.heap.size + 1 + 1) #[.string server, .int .i64 most, .slice A n c0] #[.int .i64 22, .int .i64 (-1), .string (ofL (pathL [sAlias]))] rfl (HLV.out.l.fin _ _ _ _ _ _).1 rfl rfl (HLV.out.l.fin _ _ _ _ _ _).2.1 rfl) rfl ?_
     exact ⟨rfl, (HLV.out.l.fin _ _ _ _ _ _).2.2⟩)
  | (refine bodyPost_ret (res_TE rfl _ _ (w.heap.size + 1) (w.heap.size + 1 + 1) #[.string server, .int .i64 most, .slice A n c0] #[.int .i64 22, .int .i64 (-1), .string (ofL (pathL [sAlias]))] rfl (HLV.out.l.fin' _ _ _ _ _ _).1 rfl rfl (HLV.out.l.fin' _ _ _ _ _ _).2.1 rfl) rfl ?_
     exact ⟨rfl, (HLV.out.l.fin' _ _ _ _ _ _).2.2⟩)
set_option maxRecDepth 100000 in
set_option maxHeartbeats 4000000 in
theorem radd_there (w : World) (server : ByteArray) (most : Int) (s : Sl) (k room by_ : ByteArray) (hk : k.size ≤ 9223372036854775807) (hro : room.size ≤ 9223372036854775807) (hby : by_.size ≤ 9223372036854775807) (g0 : isB 3 k.data.toList = true) (g1 : isB 1 room.data.toList = true) (g2 : isB 2 by_.data.toList = true) (h4 : ((ofL (ofB k.data.toList)).toList == server.toList) = true) (P : Nat → Prop) (l : List En) (hr : RowOf w P 105 3 s (rowsE l)) (hn : l.length ≤ 1000000) (i : Nat) (hi : idxE l k = i) :
    Calls Tryz.prog 34 #[.agg (tCells server most s), .string k, .string room, .string by_] w fun e w' => e = .returned (.tuple #[.agg (tCells server most s), erV (some ([], 15))]) ∧ Below w.heap.size w w' := by
  have HI0 := Lib.hid (fun W => show Calls Tryz.prog 57 #[.int .i64 3, .string k] W fun e w' => e = .returned (.bool true) ∧ Below W.heap.size W w' from g0 ▸ ris_calls W 3 k (by omega) (by omega) hk)
  have HI1 := Lib.hid (fun W => show Calls Tryz.prog 57 #[.int .i64 1, .string room] W fun e w' => e = .returned (.bool true) ∧ Below W.heap.size W w' from g1 ▸ ris_calls W 1 room (by omega) (by omega) hro)
  have HI2 := Lib.hid (fun W => show Calls Tryz.prog 57 #[.int .i64 2, .string by_] W fun e w' => e = .returned (.bool true) ∧ Below W.heap.size W w' from g2 ▸ ris_calls W 2 by_ (by omega) (by omega) hby)
  have HO := Lib.hid (fun W => rof4_calls W k hk)
  have HAT := Lib.hid (fun W h => rat_calls W server most s P l k (hr.same (Below.size (B := w.heap.size) h) (fun g hg _ => Below.block h g hg)) hn)
  have hnl : s.n = l.length := by have := hr.1; simpa using this
  obtain ⟨A, n, c0⟩ := s
  dsimp only at hnl
  subst hnl
  rw [hi] at HAT
  clear g2 hr hn hi
  have HA := Lib.hid (add0_made w server most A l.length c0 k room by_)
  clear hk hro hby g0 g1
  simp only [tCells, Sl.val] at *
  go_enter Tryz.func34, Tryz.ntmps34
  go_wp2_with fail
  generalize (((((w.alloc (.cells #[.string server, .int .i64 most, .slice A l.length c0] 34)).alloc (.cells TZ 34)).alloc (.cells EZ 36)).alloc (.cells #[.string sAlias, .string sRoom, .string sUser] 9)).alloc (.cells #[.string k, .string room, .string by_] 9)).alloc (.cells #[.int .i64 3, .int .i64 1, .int .i64 2] 3) = w0 at *
  refine wp_loop_rounds 4 ?_
  rw [rounds_succ]
  go_wp2_with fail
  have nmj : w0.cell? ⟨w.heap.size + 1 + 1 + 1, 0, none⟩ = some (.string sAlias) := cell_at HA.out.nm rfl
  have txj : w0.cell? ⟨w.heap.size + 1 + 1 + 1 + 1, 0, none⟩ = some (.string k) := cell_at HA.out.tx rfl
  have kdj : w0.cell? ⟨w.heap.size + 1 + 1 + 1 + 1 + 1, 0, none⟩ = some (.int .i64 3) := cell_at HA.out.kd rfl
  go_cut [35] (fun c wx => c = .bool false ∧ Add0 w server most A l.length c0 k room by_ wx)
  case first =>
    go_region_law (go_simp; go_at_call 57; refine (HI0.out _).mono ?_; rintro e wv ⟨rfl, hb⟩
                   have HLV := Lib.hid (show Add0 w server most A l.length c0 k room by_ wv by first | exact HA.out.drew.next hb | exact HA.out.next hb)
                   clear hb)
    all_goals
      go_wp2_with fail
      go_meet
      exact ⟨rfl, HLV.out⟩
  obtain ⟨hc0, hg0⟩ := hcut
  subst hc0
  have HG0 := Lib.hid hg0
  clear hg0 nmj txj kdj
  rename World => wg0
  go_wp2_with fail
  rw [rounds_succ]
  go_wp2_with fail
  have nmj : wg0.cell? ⟨w.heap.size + 1 + 1 + 1, 1, none⟩ = some (.string sRoom) := cell_at HG0.out.nm rfl
  have txj : wg0.cell? ⟨w.heap.size + 1 + 1 + 1 + 1, 1, none⟩ = some (.string room) := cell_at HG0.out.tx rfl
  have kdj : wg0.cell? ⟨w.heap.size + 1 + 1 + 1 + 1 + 1, 1, none⟩ = some (.int .i64 1) := cell_at HG0.out.kd rfl
  go_cut [35] (fun c wx => c = .bool false ∧ Add0 w server most A l.length c0 k room by_ wx)
  case first =>
    go_region_law (go_simp; go_at_call 57; refine (HI1.out _).mono ?_; rintro e wv ⟨rfl, hb⟩
                   have HLV := Lib.hid (show Add0 w server most A l.length c0 k room by_ wv by first | exact HG0.out.drew.next hb | exact HG0.out.next hb)
                   clear hb)
    all_goals
      go_wp2_with fail
      go_meet
      exact ⟨rfl, HLV.out⟩
  obtain ⟨hc1, hg1⟩ := hcut
  subst hc1
  have HG1 := Lib.hid hg1
  clear hg1 nmj txj kdj
  rename World => wg1
  go_wp2_with fail
  rw [rounds_succ]
  go_wp2_with fail
  have nmj : wg1.cell? ⟨w.heap.size + 1 + 1 + 1, 2, none⟩ = some (.string sUser) := cell_at HG1.out.nm rfl
  have txj : wg1.cell? ⟨w.heap.size + 1 + 1 + 1 + 1, 2, none⟩ = some (.string by_) := cell_at HG1.out.tx rfl
  have kdj : wg1.cell? ⟨w.heap.size + 1 + 1 + 1 + 1 + 1, 2, none⟩ = some (.int .i64 2) := cell_at HG1.out.kd rfl
  go_cut [35] (fun c wx => c = .bool false ∧ Add0 w server most A l.length c0 k room by_ wx)
  case first =>
    go_region_law (go_simp; go_at_call 57; refine (HI2.out _).mono ?_; rintro e wv ⟨rfl, hb⟩
                   have HLV := Lib.hid (show Add0 w server most A l.length c0 k room by_ wv by first | exact HG1.out.drew.next hb | exact HG1.out.next hb)
                   clear hb)
    all_goals
      go_wp2_with fail
      go_meet
      exact ⟨rfl, HLV.out⟩
  obtain ⟨hc2, hg2⟩ := hcut
  subst hc2
  have HG2 := Lib.hid hg2
  clear hg2 nmj txj kdj
  rename World => wg2
  go_wp2_with fail
  rw [rounds_succ]
  go_wp2_with fail
  have t0 := cell_at (j := 0) HG2.out.l.t rfl
  go_cut [48] (fun c wx => c = .bool false ∧ Add0 w server most A l.length c0 k room by_ wx)
  case first =>
    go_region_law (go_simp; go_at_call 58; refine (HO.out _).mono ?_; rintro e wv ⟨rfl, hb⟩
                   have hl : Add0 w server most A l.length c0 k room by_ wv := by first | exact HG2.out.drew.next hb | exact HG2.out.next hb
                   have t0v := cell_at (j := 0) hl.l.t rfl
                   have HLV := Lib.hid hl
                   clear hl hb)
    all_goals
      go_wp2_with fail
      go_meet
      exact ⟨rfl, HLV.out⟩
  obtain ⟨hc3, hg3⟩ := hcut
  subst hc3
  have HG3 := Lib.hid hg3
  clear hg3 t0
  rename World => wg3
  have t0 := cell_at (j := 0) HG3.out.l.t rfl
  have t1 := cell_at (j := 1) HG3.out.l.t rfl
  have t2 := cell_at (j := 2) HG3.out.l.t rfl
  have r0 := cell_at (j := 0) HG3.out.l.r rfl
  have r1 := cell_at (j := 1) HG3.out.l.r rfl
  have r2 := cell_at (j := 2) HG3.out.l.r rfl
  have e0 := cell_at (j := 0) HG3.out.l.e rfl
  have e1 := cell_at (j := 1) HG3.out.l.e rfl
  have e2 := cell_at (j := 2) HG3.out.l.e rfl
  have rz : ∀ j, wg3.frozen? ⟨w.heap.size + 1, j, none⟩ = false := fun j => frozen_at HG3.out.l.r
  have ez : ∀ j, wg3.frozen? ⟨w.heap.size + 1 + 1, j, none⟩ = false := fun j => frozen_at HG3.out.l.e
  go_wp2_with fail
  refine (HAT.out _ HG3.out.l.b).mono ?_
  rintro e wg4 ⟨rfl, hb⟩
  have hg4 : Add0 w server most A l.length c0 k room by_ wg4 := HG3.out.next hb
  clear t0 t1 t2 r0 r1 r2 e0 e1 e2 rz ez
  have t0 := cell_at (j := 0) hg4.l.t rfl
  have t1 := cell_at (j := 1) hg4.l.t rfl
  have t2 := cell_at (j := 2) hg4.l.t rfl
  have r0 := cell_at (j := 0) hg4.l.r rfl
  have r1 := cell_at (j := 1) hg4.l.r rfl
  have r2 := cell_at (j := 2) hg4.l.r rfl
  have e0 := cell_at (j := 0) hg4.l.e rfl
  have e1 := cell_at (j := 1) hg4.l.e rfl
  have e2 := cell_at (j := 2) hg4.l.e rfl
  have rz : ∀ j, wg4.frozen? ⟨w.heap.size + 1, j, none⟩ = false := fun j => frozen_at hg4.l.r
  have ez : ∀ j, wg4.frozen? ⟨w.heap.size + 1 + 1, j, none⟩ = false := fun j => frozen_at hg4.l.e
  have tz : ∀ j, wg4.frozen? ⟨w.heap.size, j, none⟩ = false := fun j => frozen_at hg4.l.t
  have HG4 := Lib.hid hg4
  clear hb hg4
  go_wp2_with fail
  go_region_law (go_simp; go_at_call 20; refine (rerr_calls _ 15).mono ?_; rintro e wv ⟨rfl, hb⟩
                 have hl : Add0 w server most A l.length c0 k room by_ wv := by first | exact HG4.out.drew.next hb | exact HG4.out.next hb
                 have t0 := cell_at (j := 0) hl.l.t rfl
                 have t1 := cell_at (j := 1) hl.l.t rfl
                 have t2 := cell_at (j := 2) hl.l.t rfl
                 have r0 := cell_at (j := 0) hl.l.r rfl
                 have r1 := cell_at (j := 1) hl.l.r rfl
                 have r2 := cell_at (j := 2) hl.l.r rfl
                 have e0 := cell_at (j := 0) hl.l.e rfl
                 have e1 := cell_at (j := 1) hl.l.e rfl
                 have e2 := cell_at (j := 2) hl.l.e rfl
                 have rz : ∀ j, wv.frozen? ⟨w.heap.size + 1, j, none⟩ = false := fun j => frozen_at hl.l.r
                 have ez : ∀ j, wv.frozen? ⟨w.heap.size + 1 + 1, j, none⟩ = false := fun j => frozen_at hl.l.e
                 skip
                 have HLV := Lib.hid hl
                 clear hl hb
                 simp only [erV, eCells])
  all_goals (go_wp2_with fail)
  all_goals first
  | (refine bodyPost_ret (res_TE rfl _ _ (w.heap.size + 1) (w.heap.size + 1 + 1) #[.string server, .int .i64 most, .slice A l.length c0] #[.int .i64 15, .int .i64 (-1), .string (ofL (pathL []))] rfl (HLV.out.l.fin _ _ _ _ _ _).1 rfl rfl (HLV.out.l.fin _ _ _ _ _ _).2.1 rfl) rfl ?_
     exact ⟨rfl, (HLV.out.l.fin _ _ _ _ _ _).2.2⟩)
  | (refine bodyPost_ret (res_TE rfl _ _ (w.heap.size + 1) (w.heap.size + 1 + 1) #[.string server, .int .i64 most, .slice A l.length c0] #[.int .i64 15, .int .i64 (-1), .string (ofL (pathL []))] rfl (HLV.out.l.fin' _ _ _ _ _ _).1 rfl rfl (HLV.out.l.fin' _ _ _ _ _ _).2.1 rfl) rfl ?_
     exact ⟨rfl, (HLV.out.l.fin' _ _ _ _ _ _).2.2⟩)
set_option maxRecDepth 100000 in
set_option maxHeartbeats 4000000 in
theorem radd_full (w : World) (server : ByteArray) (most : Int) (s : Sl) (k room by_ : ByteArray) (hk : k.size ≤ 9223372036854775807) (hro : room.size ≤ 9223372036854775807) (hby : by_.size ≤ 9223372036854775807) (g0 : isB 3 k.data.toList = true) (g1 : isB 1 room.data.toList = true) (g2 : isB 2 by_.data.toList = true) (h4 : ((ofL (ofB k.data.toList)).toList == server.toList) = true) (P : Nat → Prop) (l : List En) (hr : RowOf w P 105 3 s (rowsE l)) (hn : l.length ≤ 1000000) (hi : idxE l k = -1) (hf : most ≤ l.length) :
    Calls Tryz.prog 34 #[.agg (tCells server most s), .string k, .string room, .string by_] w fun e w' => e = .returned (.tuple #[.agg (tCells server most s), erV (some ([], 14))]) ∧ Below w.heap.size w w' := by
  have HI0 := Lib.hid (fun W => show Calls Tryz.prog 57 #[.int .i64 3, .string k] W fun e w' => e = .returned (.bool true) ∧ Below W.heap.size W w' from g0 ▸ ris_calls W 3 k (by omega) (by omega) hk)
  have HI1 := Lib.hid (fun W => show Calls Tryz.prog 57 #[.int .i64 1, .string room] W fun e w' => e = .returned (.bool true) ∧ Below W.heap.size W w' from g1 ▸ ris_calls W 1 room (by omega) (by omega) hro)
  have HI2 := Lib.hid (fun W => show Calls Tryz.prog 57 #[.int .i64 2, .string by_] W fun e w' => e = .returned (.bool true) ∧ Below W.heap.size W w' from g2 ▸ ris_calls W 2 by_ (by omega) (by omega) hby)
  have HO := Lib.hid (fun W => rof4_calls W k hk)
  have HAT := Lib.hid (fun W h => rat_calls W server most s P l k (hr.same (Below.size (B := w.heap.size) h) (fun g hg _ => Below.block h g hg)) hn)
  have hnl : s.n = l.length := by have := hr.1; simpa using this
  obtain ⟨A, n, c0⟩ := s
  dsimp only at hnl
  subst hnl
  rw [hi] at HAT
  clear g2 hr hn hi
  have HA := Lib.hid (add0_made w server most A l.length c0 k room by_)
  clear hk hro hby g0 g1
  simp only [tCells, Sl.val] at *
  go_enter Tryz.func34, Tryz.ntmps34
  go_wp2_with fail
  generalize (((((w.alloc (.cells #[.string server, .int .i64 most, .slice A l.length c0] 34)).alloc (.cells TZ 34)).alloc (.cells EZ 36)).alloc (.cells #[.string sAlias, .string sRoom, .string sUser] 9)).alloc (.cells #[.string k, .string room, .string by_] 9)).alloc (.cells #[.int .i64 3, .int .i64 1, .int .i64 2] 3) = w0 at *
  refine wp_loop_rounds 4 ?_
  rw [rounds_succ]
  go_wp2_with fail
  have nmj : w0.cell? ⟨w.heap.size + 1 + 1 + 1, 0, none⟩ = some (.string sAlias) := cell_at HA.out.nm rfl
  have txj : w0.cell? ⟨w.heap.size + 1 + 1 + 1 + 1, 0, none⟩ = some (.string k) := cell_at HA.out.tx rfl
  have kdj : w0.cell? ⟨w.heap.size + 1 + 1 + 1 + 1 + 1, 0, none⟩ = some (.int .i64 3) := cell_at HA.out.kd rfl
  go_cut [35] (fun c wx => c = .bool false ∧ Add0 w server most A l.length c0 k room by_ wx)
  case first =>
    go_region_law (go_simp; go_at_call 57; refine (HI0.out _).mono ?_; rintro e wv ⟨rfl, hb⟩
                   have HLV := Lib.hid (show Add0 w server most A l.length c0 k room by_ wv by first | exact HA.out.drew.next hb | exact HA.out.next hb)
                   clear hb)
    all_goals
      go_wp2_with fail
      go_meet
      exact ⟨rfl, HLV.out⟩
  obtain ⟨hc0, hg0⟩ := hcut
  subst hc0
  have HG0 := Lib.hid hg0
  clear hg0 nmj txj kdj
  rename World => wg0
  go_wp2_with fail
  rw [rounds_succ]
  go_wp2_with fail
  have nmj : wg0.cell? ⟨w.heap.size + 1 + 1 + 1, 1, none⟩ = some (.string sRoom) := cell_at HG0.out.nm rfl
  have txj : wg0.cell? ⟨w.heap.size + 1 + 1 + 1 + 1, 1, none⟩ = some (.string room) := cell_at HG0.out.tx rfl
  have kdj : wg0.cell? ⟨w.heap.size + 1 + 1 + 1 + 1 + 1, 1, none⟩ = some (.int .i64 1) := cell_at HG0.out.kd rfl
  go_cut [35] (fun c wx => c = .bool false ∧ Add0 w server most A l.length c0 k room by_ wx)
  case first =>
    go_region_law (go_simp; go_at_call 57; refine (HI1.out _).mono ?_; rintro e wv ⟨rfl, hb⟩
                   have HLV := Lib.hid (show Add0 w server most A l.length c0 k room by_ wv by first | exact HG0.out.drew.next hb | exact HG0.out.next hb)
                   clear hb)
    all_goals
      go_wp2_with fail
      go_meet
      exact ⟨rfl, HLV.out⟩
  obtain ⟨hc1, hg1⟩ := hcut
  subst hc1
  have HG1 := Lib.hid hg1
  clear hg1 nmj txj kdj
  rename World => wg1
  go_wp2_with fail
  rw [rounds_succ]
  go_wp2_with fail
  have nmj : wg1.cell? ⟨w.heap.size + 1 + 1 + 1, 2, none⟩ = some (.string sUser) := cell_at HG1.out.nm rfl
  have txj : wg1.cell? ⟨w.heap.size + 1 + 1 + 1 + 1, 2, none⟩ = some (.string by_) := cell_at HG1.out.tx rfl
  have kdj : wg1.cell? ⟨w.heap.size + 1 + 1 + 1 + 1 + 1, 2, none⟩ = some (.int .i64 2) := cell_at HG1.out.kd rfl
  go_cut [35] (fun c wx => c = .bool false ∧ Add0 w server most A l.length c0 k room by_ wx)
  case first =>
    go_region_law (go_simp; go_at_call 57; refine (HI2.out _).mono ?_; rintro e wv ⟨rfl, hb⟩
                   have HLV := Lib.hid (show Add0 w server most A l.length c0 k room by_ wv by first | exact HG1.out.drew.next hb | exact HG1.out.next hb)
                   clear hb)
    all_goals
      go_wp2_with fail
      go_meet
      exact ⟨rfl, HLV.out⟩
  obtain ⟨hc2, hg2⟩ := hcut
  subst hc2
  have HG2 := Lib.hid hg2
  clear hg2 nmj txj kdj
  rename World => wg2
  go_wp2_with fail
  rw [rounds_succ]
  go_wp2_with fail
  have t0 := cell_at (j := 0) HG2.out.l.t rfl
  go_cut [48] (fun c wx => c = .bool false ∧ Add0 w server most A l.length c0 k room by_ wx)
  case first =>
    go_region_law (go_simp; go_at_call 58; refine (HO.out _).mono ?_; rintro e wv ⟨rfl, hb⟩
                   have hl : Add0 w server most A l.length c0 k room by_ wv := by first | exact HG2.out.drew.next hb | exact HG2.out.next hb
                   have t0v := cell_at (j := 0) hl.l.t rfl
                   have HLV := Lib.hid hl
                   clear hl hb)
    all_goals
      go_wp2_with fail
      go_meet
      exact ⟨rfl, HLV.out⟩
  obtain ⟨hc3, hg3⟩ := hcut
  subst hc3
  have HG3 := Lib.hid hg3
  clear hg3 t0
  rename World => wg3
  have t0 := cell_at (j := 0) HG3.out.l.t rfl
  have t1 := cell_at (j := 1) HG3.out.l.t rfl
  have t2 := cell_at (j := 2) HG3.out.l.t rfl
  have r0 := cell_at (j := 0) HG3.out.l.r rfl
  have r1 := cell_at (j := 1) HG3.out.l.r rfl
  have r2 := cell_at (j := 2) HG3.out.l.r rfl
  have e0 := cell_at (j := 0) HG3.out.l.e rfl
  have e1 := cell_at (j := 1) HG3.out.l.e rfl
  have e2 := cell_at (j := 2) HG3.out.l.e rfl
  have rz : ∀ j, wg3.frozen? ⟨w.heap.size + 1, j, none⟩ = false := fun j => frozen_at HG3.out.l.r
  have ez : ∀ j, wg3.frozen? ⟨w.heap.size + 1 + 1, j, none⟩ = false := fun j => frozen_at HG3.out.l.e
  go_wp2_with fail
  refine (HAT.out _ HG3.out.l.b).mono ?_
  rintro e wg4 ⟨rfl, hb⟩
  have hg4 : Add0 w server most A l.length c0 k room by_ wg4 := HG3.out.next hb
  clear t0 t1 t2 r0 r1 r2 e0 e1 e2 rz ez
  have t0 := cell_at (j := 0) hg4.l.t rfl
  have t1 := cell_at (j := 1) hg4.l.t rfl
  have t2 := cell_at (j := 2) hg4.l.t rfl
  have r0 := cell_at (j := 0) hg4.l.r rfl
  have r1 := cell_at (j := 1) hg4.l.r rfl
  have r2 := cell_at (j := 2) hg4.l.r rfl
  have e0 := cell_at (j := 0) hg4.l.e rfl
  have e1 := cell_at (j := 1) hg4.l.e rfl
  have e2 := cell_at (j := 2) hg4.l.e rfl
  have rz : ∀ j, wg4.frozen? ⟨w.heap.size + 1, j, none⟩ = false := fun j => frozen_at hg4.l.r
  have ez : ∀ j, wg4.frozen? ⟨w.heap.size + 1 + 1, j, none⟩ = false := fun j => frozen_at hg4.l.e
  have tz : ∀ j, wg4.frozen? ⟨w.heap.size, j, none⟩ = false := fun j => frozen_at hg4.l.t
  have HG4 := Lib.hid hg4
  clear hb hg4
  go_wp2_with fail
  go_region_law (go_simp; go_at_call 20; refine (rerr_calls _ 14).mono ?_; rintro e wv ⟨rfl, hb⟩
                 have hl : Add0 w server most A l.length c0 k room by_ wv := by first | exact HG4.out.drew.next hb | exact HG4.out.next hb
                 have t0 := cell_at (j := 0) hl.l.t rfl
                 have t1 := cell_at (j := 1) hl.l.t rfl
                 have t2 := cell_at (j := 2) hl.l.t rfl
                 have r0 := cell_at (j := 0) hl.l.r rfl
                 have r1 := cell_at (j := 1) hl.l.r rfl
                 have r2 := cell_at (j := 2) hl.l.r rfl
                 have e0 := cell_at (j := 0) hl.l.e rfl
                 have e1 := cell_at (j := 1) hl.l.e rfl
                 have e2 := cell_at (j := 2) hl.l.e rfl
                 have rz : ∀ j, wv.frozen? ⟨w.heap.size + 1, j, none⟩ = false := fun j => frozen_at hl.l.r
                 have ez : ∀ j, wv.frozen? ⟨w.heap.size + 1 + 1, j, none⟩ = false := fun j => frozen_at hl.l.e
                 skip
                 have HLV := Lib.hid hl
                 clear hl hb
                 simp only [erV, eCells])
  all_goals (go_wp2_with fail)
  all_goals first
  | (refine bodyPost_ret (res_TE rfl _ _ (w.heap.size + 1) (w.heap.size + 1 + 1) #[.string server, .int .i64 most, .slice A l.length c0] #[.int .i64 14, .int .i64 (-1), .string (ofL (pathL []))] rfl (HLV.out.l.fin _ _ _ _ _ _).1 rfl rfl (HLV.out.l.fin _ _ _ _ _ _).2.1 rfl) rfl ?_
     exact ⟨rfl, (HLV.out.l.fin _ _ _ _ _ _).2.2⟩)
  | (refine bodyPost_ret (res_TE rfl _ _ (w.heap.size + 1) (w.heap.size + 1 + 1) #[.string server, .int .i64 most, .slice A l.length c0] #[.int .i64 14, .int .i64 (-1), .string (ofL (pathL []))] rfl (HLV.out.l.fin' _ _ _ _ _ _).1 rfl rfl (HLV.out.l.fin' _ _ _ _ _ _).2.1 rfl) rfl ?_
     exact ⟨rfl, (HLV.out.l.fin' _ _ _ _ _ _).2.2⟩)
end Go.Proofs.YtgnoaeldmpbjmaaGreatDoor
/- A region that draws, of loads beside calls and allocs, that ends with a store into a cell that it has read: loads are taken first, a condition S on the world holds behind each operation but those of the tail. No program is named. -/
set_option linter.unusedVariables false
namespace Go.Proofs.YtgnoaeldmpbjmaaGreatDoor

section
variable {P : Program} {ops : Array Oper} {Q : Exit → Act → World → Prop} {md : Region.Mode} {S : World → Prop} {n : Nat}

/-- Whatever order is picked; behind an operation ahead of the tail S holds. -/
def anyT (P : Program) (md : Region.Mode) (ops : Array Oper) (Q : Exit → Act → World → Prop) (S : World → Prop) (n : Nat) : Nat → Array Bool → Act → World → Prop
  | 0, listed, a, w => Region.ready md ops listed = [] ∧ Q .normal a w
  | f + 1, listed, a, w => (Region.ready md ops listed = [] → Q .normal a w) ∧
    ∀ i ∈ Region.ready md ops listed, wpOp P ops Q i (fun a' w' => (i < n → S w') ∧ anyT P md ops Q S n f (listed.setIfInBounds i true) a' w') a w
theorem any_of_T : ∀ (f : Nat) (listed : Array Bool) (a : Act) (w : World), anyT P md ops Q S n f listed a w → wpAny P md ops Q f listed a w
  | 0, _, _, _, h => h
  | f + 1, _, _, _, h => ⟨h.1, fun i hi => wpOp_mono (fun a' w' h' => any_of_T f _ a' w' h'.2) (h.2 i hi)⟩
/-- What the region's form must be. -/
structure TailOk (md : Region.Mode) (ops : Array Oper) (n : Nat) : Prop where
  sel : Region.noSelect ops = true
  sink : Region.sinkB md ops n = true
  chain : Region.chainB md ops n = true
  lt : n < ops.size
theorem anyT_first {i : Nat} {oi : Oper} {v : Value} (hk : TailOk md ops n) (hi : ops[i]? = some oi) (hin : i < n) (hQ : ∀ c a w, Q (.panic c) (a.put oi.dst v) w → Q (.panic c) a w) :
    ∀ (f : Nat) (listed : Array Bool) (a : Act) (w : World), HeadInv md ops n listed →
      (∀ j oj, ops[j]? = some oj → j ≠ i → listed.getD j true = false → (∀ e ∈ oj.after, Region.binds md e = true → e.on ≠ i) → oi.apart ops oj = true) →
      i ∈ Region.ready md ops listed → YieldsIf P ops S oi v a → S w →
      anyT P md ops Q S n f (listed.setIfInBounds i true) (a.put oi.dst v) w → anyT P md ops Q S n (f + 1) listed a w
  | 0, listed, a, w, inv, _, hr, hy, hS, H => by
    refine ⟨fun h => (by rw [h] at hr; cases hr), fun j hj => ?_⟩
    by_cases hji : j = i
    · subst hji
      exact hy.wpOp hi hS ⟨fun _ => hS, H⟩
    · have := ready_mono hj hji
      rw [H.1] at this
      cases this
  | f + 1, listed, a, w, inv, hfree, hr, hy, hS, H => by
    have hun := (mem_ready.1 hr).1
    refine ⟨fun h => (by rw [h] at hr; cases hr), fun j hj => ?_⟩
    have hjn : j < n := by
      rcases Nat.lt_or_ge j n with h | h
      · exact h
      · exact absurd hj (tail_waits hk.sink hk.chain hk.lt inv _ i rfl hin hun j h)
    by_cases hji : j = i
    · subst hji
      exact hy.wpOp hi hS ⟨fun _ => hS, H⟩
    · have h1 := H.2 j (ready_mono hj hji)
      obtain ⟨hjun, oj, hoj, hall⟩ := mem_ready.1 hj
      have hnot : ∀ e ∈ oj.after, Region.binds md e = true → e.on ≠ i := fun e he hb heq => by
        have h2 := hall e he hb
        rw [heq, getD_both hun] at h2
        cases h2
      have h2 := wpOp_putIf hoj (hfree j oj hoj hji hjun hnot) (fun cs b => Region.noSelect_spec hk.sel i oi cs b hi) (fun cs b => Region.noSelect_spec hk.sel j oj cs b hoj) hQ hy h1
      refine wpOp_mono (fun a' w' h3 => ⟨fun _ => h3.2.1 hjn, anyT_first hk hi hin hQ f (listed.setIfInBounds j true) a' w' (inv.set hj hjn) ?_ (ready_mono hr (Ne.symm hji)) h3.1 (h3.2.1 hjn) ?_⟩) h2
      · intro k ok hok hki hku hno
        refine hfree k ok hok hki ?_ hno
        by_cases hjk : j = k
        · subst hjk; exact hjun
        · rw [getD_set_ne true hjk] at hku; exact hku
      · rw [Array.setIfInBounds_comm _ _ hji]
        exact h3.2.2
/-- The walk's goal. -/
def WT (P : Program) (md : Region.Mode) (ops : Array Oper) (Q : Exit → Act → World → Prop) (S : World → Prop) (n : Nat) (f : Nat) (listed : Array Bool) (a : Act) (w : World) : Prop :=
  HeadInv md ops n listed → anyT P md ops Q S n f listed a w
theorem wt_start {id : Nat} {a : Act} {w : World} (S : World → Prop) (n : Nat) (hm : P.follows .mixedOrders = true) (hk : TailOk .any ops n)
    (h : RowKit.Hid (TailOk .any ops n) → WT P .any ops Q S n ops.size (Array.replicate ops.size false) a w.drew) : (Code.region id ops true).wp P Q a w :=
  wp_region_any hm (any_of_T (S := S) (n := n) _ _ _ _ (h (Lib.hid hk) ⟨by simp, fun j oj _ hl => (by rw [getD_replicate_false] at hl; cases hl), fun t _ ht => getD_in (by simpa using ht) (getD_replicate_false _ _)⟩))
theorem wt_take {i : Nat} {oi : Oper} {v : Value} {f : Nat} {listed : Array Bool} {a : Act} {w : World} (hk : TailOk md ops n) (hi : ops[i]? = some oi) (hin : i < n)
    (hf : Region.free md ops listed i = true) (hr : (Region.ready md ops listed).contains i = true) (hQ : ∀ c a w, Q (.panic c) (a.put oi.dst v) w → Q (.panic c) a w)
    (hS : S w) (hy : YieldsIf P ops S oi v a) (h : WT P md ops Q S n f (listed.setIfInBounds i true) (a.put oi.dst v) w) : WT P md ops Q S n (f + 1) listed a w := fun inv =>
  have hr' : i ∈ Region.ready md ops listed := by simpa using hr
  anyT_first hk hi hin hQ f listed a w inv (Region.free_spec hi hf) hr' hy hS (h (inv.set hr' hin))
def AllT (P : Program) (md : Region.Mode) (ops : Array Oper) (Q : Exit → Act → World → Prop) (S : World → Prop) (n f : Nat) (listed : Array Bool) (a : Act) (w : World) (rs : List Nat) : Prop :=
  ∀ i ∈ rs, i < n ∧ wpOp P ops Q i (fun a' w' => S w' ∧ WT P md ops Q S n f (listed.setIfInBounds i true) a' w') a w
theorem AllT.nil {f : Nat} {listed : Array Bool} {a : Act} {w : World} : AllT P md ops Q S n f listed a w [] := fun _ h => by cases h
theorem AllT.cons {f : Nat} {listed : Array Bool} {a : Act} {w : World} {i : Nat} {o : Oper} {rs : List Nat} (ho : ops[i]? = some o) (hin : i < n)
    (h : ∀ K' : Act → World → Prop, RowKit.Hid (∀ a w, S w → WT P md ops Q S n f (listed.setIfInBounds i true) a w → K' a w) → if Region.wanted o (yielded ops a.tmps) = true then Oper.wp P o a w K' Q else K' (a.put o.dst undef) w)
    (hs : AllT P md ops Q S n f listed a w rs) : AllT P md ops Q S n f listed a w (i :: rs) := fun j hj => by
  rcases List.mem_cons.1 hj with rfl | hj
  · exact ⟨hin, wpOp_step ho (fun K' hK => h K' (Lib.hid (fun a w hS hW => hK a w ⟨hS, hW⟩)))⟩
  · exact hs j hj
theorem wt_ready {rs : List Nat} {f : Nat} {listed : Array Bool} {a : Act} {w : World} (hr : Region.ready md ops listed = rs) (hne : rs ≠ []) (h : AllT P md ops Q S n f listed a w rs) : WT P md ops Q S n (f + 1) listed a w := fun inv =>
  ⟨fun h0 => absurd (hr ▸ h0) hne, fun i hi => by
    obtain ⟨hin, h1⟩ := h i (hr ▸ hi)
    exact wpOp_mono (fun a' w' h' => ⟨fun _ => h'.1, h'.2 (inv.set hi hin)⟩) h1⟩
/-- The tail: one operation, the last. -/
theorem wt_last {k f : Nat} {o : Oper} {listed : Array Bool} {a : Act} {w : World} (hr : Region.ready md ops listed = [k]) (hr2 : Region.ready md ops (listed.setIfInBounds k true) = []) (hkn : n ≤ k) (ho : ops[k]? = some o)
    (h : ∀ K' : Act → World → Prop, RowKit.Hid (∀ a w, Q .normal a w → K' a w) → if Region.wanted o (yielded ops a.tmps) = true then Oper.wp P o a w K' Q else K' (a.put o.dst undef) w) : WT P md ops Q S n (f + 1) listed a w := fun inv =>
  ⟨fun h0 => (by rw [hr] at h0; cases h0), fun i hi => by
    rw [hr] at hi
    have : i = k := by simpa using hi
    subst this
    refine wpOp_step ho (fun K' hK => h K' (Lib.hid (fun a w hq => hK a w ⟨fun h => absurd h (by omega), ?_⟩)))
    cases f with
    | zero => exact ⟨hr2, hq⟩
    | succ f => exact ⟨fun _ => hq, by rw [hr2]; simp⟩⟩
end
end Go.Proofs.YtgnoaeldmpbjmaaGreatDoor
