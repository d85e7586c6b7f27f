/- The document's table: an alias is given. -/
import Derived.Test.YtgnoaeldmpbjmaaGreatDoorRt
import Derived.Deep.DeepCutAuto
set_option linter.unusedVariables false
set_option linter.unusedSimpArgs false
namespace Go.Proofs.YtgnoaeldmpbjmaaGreatDoor
open Go.RowKit

theorem rof4_calls (w : World) (s : ByteArray) (hs : s.size ≤ 9223372036854775807) :
    Calls Tryz.prog 58 #[.string s] w fun e w' => e = .returned (.string (ofL (ofB s.data.toList))) ∧ Below w.heap.size w w' := by
  have HS := Lib.hid (rsplit_calls w s hs)
  have HR := Lib.hid (show ofB s.data.toList = match splitB s.data.toList with | some (_, _, h) => h | none => [] from rfl)
  clear hs
  go_enter Tryz.func58, Tryz.ntmps58
  go_wp2_with fail
  refine HS.out.mono ?_
  rintro e w1 ⟨rfl, hb⟩
  have HB := Lib.hid hb
  clear hb HS
  generalize splitB s.data.toList = x at *
  match x with
  | none =>
    unfold rsplitV
    go_wp2_with fail
    go_ret
    exact ⟨by rw [HR.out]; rfl, HB.out⟩
  | some (k, p, h) =>
    unfold rsplitV
    go_wp2_with fail
    go_ret
    exact ⟨by rw [HR.out]; rfl, HB.out⟩
set_option maxRecDepth 100000 in
set_option maxHeartbeats 4000000 in
theorem radd_server (w : World) (server : ByteArray) (most : Int) (s : Sl) (k room by_ : ByteArray) (hk : k.size ≤ 9223372036854775807) (hro : room.size ≤ 9223372036854775807) (hby : by_.size ≤ 9223372036854775807) (g0 : isB 3 k.data.toList = true) (g1 : isB 1 room.data.toList = true) (g2 : isB 2 by_.data.toList = true) (h4 : ((ofL (ofB k.data.toList)).toList == server.toList) = false) :
    Calls Tryz.prog 34 #[.agg (tCells server most s), .string k, .string room, .string by_] w fun e w' => e = .returned (.tuple #[.agg (tCells server most s), erV (some ([sAlias], 22))]) ∧ Below w.heap.size w w' := by
  have HI0 := Lib.hid (fun W => show Calls Tryz.prog 57 #[.int .i64 3, .string k] W fun e w' => e = .returned (.bool true) ∧ Below W.heap.size W w' from g0 ▸ ris_calls W 3 k (by omega) (by omega) hk)
  have HI1 := Lib.hid (fun W => show Calls Tryz.prog 57 #[.int .i64 1, .string room] W fun e w' => e = .returned (.bool true) ∧ Below W.heap.size W w' from g1 ▸ ris_calls W 1 room (by omega) (by omega) hro)
  have HI2 := Lib.hid (fun W => show Calls Tryz.prog 57 #[.int .i64 2, .string by_] W fun e w' => e = .returned (.bool true) ∧ Below W.heap.size W w' from g2 ▸ ris_calls W 2 by_ (by omega) (by omega) hby)
  have HO := Lib.hid (fun W => rof4_calls W k hk)
  obtain ⟨A, n, c0⟩ := s
  clear g2
  have HA := Lib.hid (add0_made w server most A n c0 k room by_)
  clear hk hro hby g0 g1
  simp only [tCells, Sl.val] at *
  go_enter Tryz.func34, Tryz.ntmps34
  go_wp2_with fail
  generalize (((((w.alloc (.cells #[.string server, .int .i64 most, .slice A n c0] 34)).alloc (.cells TZ 34)).alloc (.cells EZ 36)).alloc (.cells #[.string sAlias, .string sRoom, .string sUser] 9)).alloc (.cells #[.string k, .string room, .string by_] 9)).alloc (.cells #[.int .i64 3, .int .i64 1, .int .i64 2] 3) = w0 at *
  refine wp_loop_rounds 4 ?_
  rw [rounds_succ]
  go_wp2_with fail
  have nmj : w0.cell? ⟨w.heap.size + 1 + 1 + 1, 0, none⟩ = some (.string sAlias) := cell_at HA.out.nm rfl
  have txj : w0.cell? ⟨w.heap.size + 1 + 1 + 1 + 1, 0, none⟩ = some (.string k) := cell_at HA.out.tx rfl
  have kdj : w0.cell? ⟨w.heap.size + 1 + 1 + 1 + 1 + 1, 0, none⟩ = some (.int .i64 3) := cell_at HA.out.kd rfl
  go_cut [35] (fun c wx => c = .bool false ∧ Add0 w server most A n c0 k room by_ wx)
  case first =>
    go_region_law (go_simp; go_at_call 57; refine (HI0.out _).mono ?_; rintro e wv ⟨rfl, hb⟩
                   have HLV := Lib.hid (show Add0 w server most A n c0 k room by_ wv by first | exact HA.out.drew.next hb | exact HA.out.next hb)
                   clear hb)
    all_goals
      go_wp2_with fail
      go_meet
      exact ⟨rfl, HLV.out⟩
  obtain ⟨hc0, hg0⟩ := hcut
  subst hc0
  have HG0 := Lib.hid hg0
  clear hg0 nmj txj kdj
  rename World => wg0
  go_wp2_with fail
  rw [rounds_succ]
  go_wp2_with fail
  have nmj : wg0.cell? ⟨w.heap.size + 1 + 1 + 1, 1, none⟩ = some (.string sRoom) := cell_at HG0.out.nm rfl
  have txj : wg0.cell? ⟨w.heap.size + 1 + 1 + 1 + 1, 1, none⟩ = some (.string room) := cell_at HG0.out.tx rfl
  have kdj : wg0.cell? ⟨w.heap.size + 1 + 1 + 1 + 1 + 1, 1, none⟩ = some (.int .i64 1) := cell_at HG0.out.kd rfl
  go_cut [35] (fun c wx => c = .bool false ∧ Add0 w server most A n c0 k room by_ wx)
  case first =>
    go_region_law (go_simp; go_at_call 57; refine (HI1.out _).mono ?_; rintro e wv ⟨rfl, hb⟩
                   have HLV := Lib.hid (show Add0 w server most A n c0 k room by_ wv by first | exact HG0.out.drew.next hb | exact HG0.out.next hb)
                   clear hb)
    all_goals
      go_wp2_with fail
      go_meet
      exact ⟨rfl, HLV.out⟩
  obtain ⟨hc1, hg1⟩ := hcut
  subst hc1
  have HG1 := Lib.hid hg1
  clear hg1 nmj txj kdj
  rename World => wg1
  go_wp2_with fail
  rw [rounds_succ]
  go_wp2_with fail
  have nmj : wg1.cell? ⟨w.heap.size + 1 + 1 + 1, 2, none⟩ = some (.string sUser) := cell_at HG1.out.nm rfl
  have txj : wg1.cell? ⟨w.heap.size + 1 + 1 + 1 + 1, 2, none⟩ = some (.string by_) := cell_at HG1.out.tx rfl
  have kdj : wg1.cell? ⟨w.heap.size + 1 + 1 + 1 + 1 + 1, 2, none⟩ = some (.int .i64 2) := cell_at HG1.out.kd rfl
  go_cut [35] (fun c wx => c = .bool false ∧ Add0 w server most A n c0 k room by_ wx)
  case first =>
    go_region_law (go_simp; go_at_call 57; refine (HI2.out _).mono ?_; rintro e wv ⟨rfl, hb⟩
                   have HLV := Lib.hid (show Add0 w server most A n c0 k room by_ wv by first | exact HG1.out.drew.next hb | exact HG1.out.next hb)
                   clear hb)
    all_goals
      go_wp2_with fail
      go_meet
      exact ⟨rfl, HLV.out⟩
  obtain ⟨hc2, hg2⟩ := hcut
  subst hc2
  have HG2 := Lib.hid hg2
  clear hg2 nmj txj kdj
  rename World => wg2
  go_wp2_with fail
  rw [rounds_succ]
  go_wp2_with fail
  have t0 := cell_at (j := 0) HG2.out.l.t rfl
  go_cut [48] (fun c wx => c = .bool true ∧ Add0 w server most A n c0 k room by_ wx)
  case first =>
    go_region_law (go_simp; go_at_call 58; refine (HO.out _).mono ?_; rintro e wv ⟨rfl, hb⟩
                   have hl : Add0 w server most A n c0 k room by_ wv := by first | exact HG2.out.drew.next hb | exact HG2.out.next hb
                   have t0v := cell_at (j := 0) hl.l.t rfl
                   have HLV := Lib.hid hl
                   clear hl hb)
    all_goals
      go_wp2_with fail
      go_meet
      exact ⟨rfl, HLV.out⟩
  obtain ⟨hc3, hg3⟩ := hcut
  subst hc3
  have HG3 := Lib.hid hg3
  clear hg3 t0
  rename World => wg3
  have t0 := cell_at (j := 0) HG3.out.l.t rfl
  have t1 := cell_at (j := 1) HG3.out.l.t rfl
  have t2 := cell_at (j := 2) HG3.out.l.t rfl
  have r0 := cell_at (j := 0) HG3.out.l.r rfl
  have r1 := cell_at (j := 1) HG3.out.l.r rfl
  have r2 := cell_at (j := 2) HG3.out.l.r rfl
  have e0 := cell_at (j := 0) HG3.out.l.e rfl
  have e1 := cell_at (j := 1) HG3.out.l.e rfl
  have e2 := cell_at (j := 2) HG3.out.l.e rfl
  have rz : ∀ j, wg3.frozen? ⟨w.heap.size + 1, j, none⟩ = false := fun j => frozen_at HG3.out.l.r
  have ez : ∀ j, wg3.frozen? ⟨w.heap.size + 1 + 1, j, none⟩ = false := fun j => frozen_at HG3.out.l.e
  go_wp2_with fail
  go_region_law (first
    | (go_simp; go_at_call 20; refine (rerr_calls _ 22).mono ?_; rintro e wv ⟨rfl, hb⟩
       have hl : Add0 w server most A n c0 k room by_ wv := by first | exact HLV.out.drew.next hb | exact HLV.out.next hb | exact HG3.out.drew.next hb | exact HG3.out.next hb
       have t0 := cell_at (j := 0) hl.l.t rfl
       have t1 := cell_at (j := 1) hl.l.t rfl
       have t2 := cell_at (j := 2) hl.l.t rfl
       have r0 := cell_at (j := 0) hl.l.r rfl
       have r1 := cell_at (j := 1) hl.l.r rfl
       have r2 := cell_at (j := 2) hl.l.r rfl
       have e0 := cell_at (j := 0) hl.l.e rfl
       have e1 := cell_at (j := 1) hl.l.e rfl
       have e2 := cell_at (j := 2) hl.l.e rfl
       have rz : ∀ j, wv.frozen? ⟨w.heap.size + 1, j, none⟩ = false := fun j => frozen_at hl.l.r
       have ez : ∀ j, wv.frozen? ⟨w.heap.size + 1 + 1, j, none⟩ = false := fun j => frozen_at hl.l.e
       skip
       have HLV := Lib.hid hl
       clear hl hb
       simp only [erV, eCells])
    | (go_simp; go_at_call 30; refine (rin01_calls _ sAlias [] 22 rfl (by decide) (by simp [pathL])).mono ?_; rintro e wv ⟨rfl, hb⟩
       have hl : Add0 w server most A n c0 k room by_ wv := by first | exact HLV.out.drew.next hb | exact HLV.out.next hb | exact HG3.out.drew.next hb | exact HG3.out.next hb
       have t0 := cell_at (j := 0) hl.l.t rfl
       have t1 := cell_at (j := 1) hl.l.t rfl
       have t2 := cell_at (j := 2) hl.l.t rfl
       have r0 := cell_at (j := 0) hl.l.r rfl
       have r1 := cell_at (j := 1) hl.l.r rfl
       have r2 := cell_at (j := 2) hl.l.r rfl
       have e0 := cell_at (j := 0) hl.l.e rfl
       have e1 := cell_at (j := 1) hl.l.e rfl
       have e2 := cell_at (j := 2) hl.l.e rfl
       have rz : ∀ j, wv.frozen? ⟨w.heap.size + 1, j, none⟩ = false := fun j => frozen_at hl.l.r
       have ez : ∀ j, wv.frozen? ⟨w.heap.size + 1 + 1, j, none⟩ = false := fun j => frozen_at hl.l.e
       skip
       have HLV := Lib.hid hl
       clear hl hb
       simp only [erV, eCells]))
  all_goals (go_wp2_with fail)
  all_goals first
  | (refine bodyPost_ret (res_TE rfl _ _ (w.heap.size + 1) (w.heap.size + 1 + 1) #[.string server, .int .i64 most, .slice A n c0] #[.int .i64 22, .int .i64 (-1), .string (ofL (pathL [sAlias]))] rfl (HLV.out.l.fin _ _ _ _ _ _).1 rfl rfl (HLV.out.l.fin _ _ _ _ _ _).2.1 rfl) rfl ?_
     exact ⟨rfl, (HLV.out.l.fin _ _ _ _ _ _).2.2⟩)
  | (refine bodyPost_ret (res_TE rfl _ _ (w.heap.size + 1) (w.heap.size + 1 + 1) #[.string server, .int .i64 most, .slice A n c0] #[.int .i64 22, .int .i64 (-1), .string (ofL (pathL [sAlias]))] rfl (HLV.out.l.fin' _ _ _ _ _ _).1 rfl rfl (HLV.out.l.fin' _ _ _ _ _ _).2.1 rfl) rfl ?_
     exact ⟨rfl, (HLV.out.l.fin' _ _ _ _ _ _).2.2⟩)
set_option maxRecDepth 100000 in
set_option maxHeartbeats 4000000 in
theorem radd_there (w : World) (server : ByteArray) (most : Int) (s : Sl) (k room by_ : ByteArray) (hk : k.size ≤ 9223372036854775807) (hro : room.size ≤ 9223372036854775807) (hby : by_.size ≤ 9223372036854775807) (g0 : isB 3 k.data.toList = true) (g1 : isB 1 room.data.toList = true) (g2 : isB 2 by_.data.toList = true) (h4 : ((ofL (ofB k.data.toList)).toList == server.toList) = true) (P : Nat → Prop) (l : List En) (hr : RowOf w P 105 3 s (rowsE l)) (hn : l.length ≤ 1000000) (i : Nat) (hi : idxE l k = i) :
    Calls Tryz.prog 34 #[.agg (tCells server most s), .string k, .string room, .string by_] w fun e w' => e = .returned (.tuple #[.agg (tCells server most s), erV (some ([], 15))]) ∧ Below w.heap.size w w' := by
  have HI0 := Lib.hid (fun W => show Calls Tryz.prog 57 #[.int .i64 3, .string k] W fun e w' => e = .returned (.bool true) ∧ Below W.heap.size W w' from g0 ▸ ris_calls W 3 k (by omega) (by omega) hk)
  have HI1 := Lib.hid (fun W => show Calls Tryz.prog 57 #[.int .i64 1, .string room] W fun e w' => e = .returned (.bool true) ∧ Below W.heap.size W w' from g1 ▸ ris_calls W 1 room (by omega) (by omega) hro)
  have HI2 := Lib.hid (fun W => show Calls Tryz.prog 57 #[.int .i64 2, .string by_] W fun e w' => e = .returned (.bool true) ∧ Below W.heap.size W w' from g2 ▸ ris_calls W 2 by_ (by omega) (by omega) hby)
  have HO := Lib.hid (fun W => rof4_calls W k hk)
  have HAT := Lib.hid (fun W h => rat_calls W server most s P l k (hr.same (Below.size (B := w.heap.size) h) (fun g hg _ => Below.block h g hg)) hn)
  have hnl : s.n = l.length := by have := hr.1; simpa using this
  obtain ⟨A, n, c0⟩ := s
  dsimp only at hnl
  subst hnl
  rw [hi] at HAT
  clear g2 hr hn hi
  have HA := Lib.hid (add0_made w server most A l.length c0 k room by_)
  clear hk hro hby g0 g1
  simp only [tCells, Sl.val] at *
  go_enter Tryz.func34, Tryz.ntmps34
  go_wp2_with fail
  generalize (((((w.alloc (.cells #[.string server, .int .i64 most, .slice A l.length c0] 34)).alloc (.cells TZ 34)).alloc (.cells EZ 36)).alloc (.cells #[.string sAlias, .string sRoom, .string sUser] 9)).alloc (.cells #[.string k, .string room, .string by_] 9)).alloc (.cells #[.int .i64 3, .int .i64 1, .int .i64 2] 3) = w0 at *
  refine wp_loop_rounds 4 ?_
  rw [rounds_succ]
  go_wp2_with fail
  have nmj : w0.cell? ⟨w.heap.size + 1 + 1 + 1, 0, none⟩ = some (.string sAlias) := cell_at HA.out.nm rfl
  have txj : w0.cell? ⟨w.heap.size + 1 + 1 + 1 + 1, 0, none⟩ = some (.string k) := cell_at HA.out.tx rfl
  have kdj : w0.cell? ⟨w.heap.size + 1 + 1 + 1 + 1 + 1, 0, none⟩ = some (.int .i64 3) := cell_at HA.out.kd rfl
  go_cut [35] (fun c wx => c = .bool false ∧ Add0 w server most A l.length c0 k room by_ wx)
  case first =>
    go_region_law (go_simp; go_at_call 57; refine (HI0.out _).mono ?_; rintro e wv ⟨rfl, hb⟩
                   have HLV := Lib.hid (show Add0 w server most A l.length c0 k room by_ wv by first | exact HA.out.drew.next hb | exact HA.out.next hb)
                   clear hb)
    all_goals
      go_wp2_with fail
      go_meet
      exact ⟨rfl, HLV.out⟩
  obtain ⟨hc0, hg0⟩ := hcut
  subst hc0
  have HG0 := Lib.hid hg0
  clear hg0 nmj txj kdj
  rename World => wg0
  go_wp2_with fail
  rw [rounds_succ]
  go_wp2_with fail
  have nmj : wg0.cell? ⟨w.heap.size + 1 + 1 + 1, 1, none⟩ = some (.string sRoom) := cell_at HG0.out.nm rfl
  have txj : wg0.cell? ⟨w.heap.size + 1 + 1 + 1 + 1, 1, none⟩ = some (.string room) := cell_at HG0.out.tx rfl
  have kdj : wg0.cell? ⟨w.heap.size + 1 + 1 + 1 + 1 + 1, 1, none⟩ = some (.int .i64 1) := cell_at HG0.out.kd rfl
  go_cut [35] (fun c wx => c = .bool false ∧ Add0 w server most A l.length c0 k room by_ wx)
  case first =>
    go_region_law (go_simp; go_at_call 57; refine (HI1.out _).mono ?_; rintro e wv ⟨rfl, hb⟩
                   have HLV := Lib.hid (show Add0 w server most A l.length c0 k room by_ wv by first | exact HG0.out.drew.next hb | exact HG0.out.next hb)
                   clear hb)
    all_goals
      go_wp2_with fail
      go_meet
      exact ⟨rfl, HLV.out⟩
  obtain ⟨hc1, hg1⟩ := hcut
  subst hc1
  have HG1 := Lib.hid hg1
  clear hg1 nmj txj kdj
  rename World => wg1
  go_wp2_with fail
  rw [rounds_succ]
  go_wp2_with fail
  have nmj : wg1.cell? ⟨w.heap.size + 1 + 1 + 1, 2, none⟩ = some (.string sUser) := cell_at HG1.out.nm rfl
  have txj : wg1.cell? ⟨w.heap.size + 1 + 1 + 1 + 1, 2, none⟩ = some (.string by_) := cell_at HG1.out.tx rfl
  have kdj : wg1.cell? ⟨w.heap.size + 1 + 1 + 1 + 1 + 1, 2, none⟩ = some (.int .i64 2) := cell_at HG1.out.kd rfl
  go_cut [35] (fun c wx => c = .bool false ∧ Add0 w server most A l.length c0 k room by_ wx)
  case first =>
    go_region_law (go_simp; go_at_call 57; refine (HI2.out _).mono ?_; rintro e wv ⟨rfl, hb⟩
                   have HLV := Lib.hid (show Add0 w server most A l.length c0 k room by_ wv by first | exact HG1.out.drew.next hb | exact HG1.out.next hb)
                   clear hb)
    all_goals
      go_wp2_with fail
      go_meet
      exact ⟨rfl, HLV.out⟩
  obtain ⟨hc2, hg2⟩ := hcut
  subst hc2
  have HG2 := Lib.hid hg2
  clear hg2 nmj txj kdj
  rename World => wg2
  go_wp2_with fail
  rw [rounds_succ]
  go_wp2_with fail
  have t0 := cell_at (j := 0) HG2.out.l.t rfl
  go_cut [48] (fun c wx => c = .bool false ∧ Add0 w server most A l.length c0 k room by_ wx)
  case first =>
    go_region_law (go_simp; go_at_call 58; refine (HO.out _).mono ?_; rintro e wv ⟨rfl, hb⟩
                   have hl : Add0 w server most A l.length c0 k room by_ wv := by first | exact HG2.out.drew.next hb | exact HG2.out.next hb
                   have t0v := cell_at (j := 0) hl.l.t rfl
                   have HLV := Lib.hid hl
                   clear hl hb)
    all_goals
      go_wp2_with fail
      go_meet
      exact ⟨rfl, HLV.out⟩
  obtain ⟨hc3, hg3⟩ := hcut
  subst hc3
  have HG3 := Lib.hid hg3
  clear hg3 t0
  rename World => wg3
  have t0 := cell_at (j := 0) HG3.out.l.t rfl
  have t1 := cell_at (j := 1) HG3.out.l.t rfl
  have t2 := cell_at (j := 2) HG3.out.l.t rfl
  have r0 := cell_at (j := 0) HG3.out.l.r rfl
  have r1 := cell_at (j := 1) HG3.out.l.r rfl
  have r2 := cell_at (j := 2) HG3.out.l.r rfl
  have e0 := cell_at (j := 0) HG3.out.l.e rfl
  have e1 := cell_at (j := 1) HG3.out.l.e rfl
  have e2 := cell_at (j := 2) HG3.out.l.e rfl
  have rz : ∀ j, wg3.frozen? ⟨w.heap.size + 1, j, none⟩ = false := fun j => frozen_at HG3.out.l.r
  have ez : ∀ j, wg3.frozen? ⟨w.heap.size + 1 + 1, j, none⟩ = false := fun j => frozen_at HG3.out.l.e
  go_wp2_with fail
  refine (HAT.out _ HG3.out.l.b).mono ?_
  rintro e wg4 ⟨rfl, hb⟩
  have hg4 : Add0 w server most A l.length c0 k room by_ wg4 := HG3.out.next hb
  clear t0 t1 t2 r0 r1 r2 e0 e1 e2 rz ez
  have t0 := cell_at (j := 0) hg4.l.t rfl
  have t1 := cell_at (j := 1) hg4.l.t rfl
  have t2 := cell_at (j := 2) hg4.l.t rfl
  have r0 := cell_at (j := 0) hg4.l.r rfl
  have r1 := cell_at (j := 1) hg4.l.r rfl
  have r2 := cell_at (j := 2) hg4.l.r rfl
  have e0 := cell_at (j := 0) hg4.l.e rfl
  have e1 := cell_at (j := 1) hg4.l.e rfl
  have e2 := cell_at (j := 2) hg4.l.e rfl
  have rz : ∀ j, wg4.frozen? ⟨w.heap.size + 1, j, none⟩ = false := fun j => frozen_at hg4.l.r
  have ez : ∀ j, wg4.frozen? ⟨w.heap.size + 1 + 1, j, none⟩ = false := fun j => frozen_at hg4.l.e
  have tz : ∀ j, wg4.frozen? ⟨w.heap.size, j, none⟩ = false := fun j => frozen_at hg4.l.t
  have HG4 := Lib.hid hg4
  clear hb hg4
  go_wp2_with fail
  go_region_law (go_simp; go_at_call 20; refine (rerr_calls _ 15).mono ?_; rintro e wv ⟨rfl, hb⟩
                 have hl : Add0 w server most A l.length c0 k room by_ wv := by first | exact HG4.out.drew.next hb | exact HG4.out.next hb
                 have t0 := cell_at (j := 0) hl.l.t rfl
                 have t1 := cell_at (j := 1) hl.l.t rfl
                 have t2 := cell_at (j := 2) hl.l.t rfl
                 have r0 := cell_at (j := 0) hl.l.r rfl
                 have r1 := cell_at (j := 1) hl.l.r rfl
                 have r2 := cell_at (j := 2) hl.l.r rfl
                 have e0 := cell_at (j := 0) hl.l.e rfl
                 have e1 := cell_at (j := 1) hl.l.e rfl
                 have e2 := cell_at (j := 2) hl.l.e rfl
                 have rz : ∀ j, wv.frozen? ⟨w.heap.size + 1, j, none⟩ = false := fun j => frozen_at hl.l.r
                 have ez : ∀ j, wv.frozen? ⟨w.heap.size + 1 + 1, j, none⟩ = false := fun j => frozen_at hl.l.e
                 skip
                 have HLV := Lib.hid hl
                 clear hl hb
                 simp only [erV, eCells])
  all_goals (go_wp2_with fail)
  all_goals first
  | (refine bodyPost_ret (res_TE rfl _ _ (w.heap.size + 1) (w.heap.size + 1 + 1) #[.string server, .int .i64 most, .slice A l.length c0] #[.int .i64 15, .int .i64 (-1), .string (ofL (pathL []))] rfl (HLV.out.l.fin _ _ _ _ _ _).1 rfl rfl (HLV.out.l.fin _ _ _ _ _ _).2.1 rfl) rfl ?_
     exact ⟨rfl, (HLV.out.l.fin _ _ _ _ _ _).2.2⟩)
  | (refine bodyPost_ret (res_TE rfl _ _ (w.heap.size + 1) (w.heap.size + 1 + 1) #[.string server, .int .i64 most, .slice A l.length c0] #[.int .i64 15, .int .i64 (-1), .string (ofL (pathL []))] rfl (HLV.out.l.fin' _ _ _ _ _ _).1 rfl rfl (HLV.out.l.fin' _ _ _ _ _ _).2.1 rfl) rfl ?_
     exact ⟨rfl, (HLV.out.l.fin' _ _ _ _ _ _).2.2⟩)
set_option maxRecDepth 100000 in
set_option maxHeartbeats 4000000 in
theorem radd_full (w : World) (server : ByteArray) (most : Int) (s : Sl) (k room by_ : ByteArray) (hk : k.size ≤ 9223372036854775807) (hro : room.size ≤ 9223372036854775807) (hby : by_.size ≤ 9223372036854775807) (g0 : isB 3 k.data.toList = true) (g1 : isB 1 room.data.toList = true) (g2 : isB 2 by_.data.toList = true) (h4 : ((ofL (ofB k.data.toList)).toList == server.toList) = true) (P : Nat → Prop) (l : List En) (hr : RowOf w P 105 3 s (rowsE l)) (hn : l.length ≤ 1000000) (hi : idxE l k = -1) (hf : most ≤ l.length) :
    Calls Tryz.prog 34 #[.agg (tCells server most s), .string k, .string room, .string by_] w fun e w' => e = .returned (.tuple #[.agg (tCells server most s), erV (some ([], 14))]) ∧ Below w.heap.size w w' := by
  have HI0 := Lib.hid (fun W => show Calls Tryz.prog 57 #[.int .i64 3, .string k] W fun e w' => e = .returned (.bool true) ∧ Below W.heap.size W w' from g0 ▸ ris_calls W 3 k (by omega) (by omega) hk)
  have HI1 := Lib.hid (fun W => show Calls Tryz.prog 57 #[.int .i64 1, .string room] W fun e w' => e = .returned (.bool true) ∧ Below W.heap.size W w' from g1 ▸ ris_calls W 1 room (by omega) (by omega) hro)
  have HI2 := Lib.hid (fun W => show Calls Tryz.prog 57 #[.int .i64 2, .string by_] W fun e w' => e = .returned (.bool true) ∧ Below W.heap.size W w' from g2 ▸ ris_calls W 2 by_ (by omega) (by omega) hby)
  have HO := Lib.hid (fun W => rof4_calls W k hk)
  have HAT := Lib.hid (fun W h => rat_calls W server most s P l k (hr.same (Below.size (B := w.heap.size) h) (fun g hg _ => Below.block h g hg)) hn)
  have hnl : s.n = l.length := by have := hr.1; simpa using this
  obtain ⟨A, n, c0⟩ := s
  dsimp only at hnl
  subst hnl
  rw [hi] at HAT
  clear g2 hr hn hi
  have HA := Lib.hid (add0_made w server most A l.length c0 k room by_)
  clear hk hro hby g0 g1
  simp only [tCells, Sl.val] at *
  go_enter Tryz.func34, Tryz.ntmps34
  go_wp2_with fail
  generalize (((((w.alloc (.cells #[.string server, .int .i64 most, .slice A l.length c0] 34)).alloc (.cells TZ 34)).alloc (.cells EZ 36)).alloc (.cells #[.string sAlias, .string sRoom, .string sUser] 9)).alloc (.cells #[.string k, .string room, .string by_] 9)).alloc (.cells #[.int .i64 3, .int .i64 1, .int .i64 2] 3) = w0 at *
  refine wp_loop_rounds 4 ?_
  rw [rounds_succ]
  go_wp2_with fail
  have nmj : w0.cell? ⟨w.heap.size + 1 + 1 + 1, 0, none⟩ = some (.string sAlias) := cell_at HA.out.nm rfl
  have txj : w0.cell? ⟨w.heap.size + 1 + 1 + 1 + 1, 0, none⟩ = some (.string k) := cell_at HA.out.tx rfl
  have kdj : w0.cell? ⟨w.heap.size + 1 + 1 + 1 + 1 + 1, 0, none⟩ = some (.int .i64 3) := cell_at HA.out.kd rfl
  go_cut [35] (fun c wx => c = .bool false ∧ Add0 w server most A l.length c0 k room by_ wx)
  case first =>
    go_region_law (go_simp; go_at_call 57; refine (HI0.out _).mono ?_; rintro e wv ⟨rfl, hb⟩
                   have HLV := Lib.hid (show Add0 w server most A l.length c0 k room by_ wv by first | exact HA.out.drew.next hb | exact HA.out.next hb)
                   clear hb)
    all_goals
      go_wp2_with fail
      go_meet
      exact ⟨rfl, HLV.out⟩
  obtain ⟨hc0, hg0⟩ := hcut
  subst hc0
  have HG0 := Lib.hid hg0
  clear hg0 nmj txj kdj
  rename World => wg0
  go_wp2_with fail
  rw [rounds_succ]
  go_wp2_with fail
  have nmj : wg0.cell? ⟨w.heap.size + 1 + 1 + 1, 1, none⟩ = some (.string sRoom) := cell_at HG0.out.nm rfl
  have txj : wg0.cell? ⟨w.heap.size + 1 + 1 + 1 + 1, 1, none⟩ = some (.string room) := cell_at HG0.out.tx rfl
  have kdj : wg0.cell? ⟨w.heap.size + 1 + 1 + 1 + 1 + 1, 1, none⟩ = some (.int .i64 1) := cell_at HG0.out.kd rfl
  go_cut [35] (fun c wx => c = .bool false ∧ Add0 w server most A l.length c0 k room by_ wx)
  case first =>
    go_region_law (go_simp; go_at_call 57; refine (HI1.out _).mono ?_; rintro e wv ⟨rfl, hb⟩
                   have HLV := Lib.hid (show Add0 w server most A l.length c0 k room by_ wv by first | exact HG0.out.drew.next hb | exact HG0.out.next hb)
                   clear hb)
    all_goals
      go_wp2_with fail
      go_meet
      exact ⟨rfl, HLV.out⟩
  obtain ⟨hc1, hg1⟩ := hcut
  subst hc1
  have HG1 := Lib.hid hg1
  clear hg1 nmj txj kdj
  rename World => wg1
  go_wp2_with fail
  rw [rounds_succ]
  go_wp2_with fail
  have nmj : wg1.cell? ⟨w.heap.size + 1 + 1 + 1, 2, none⟩ = some (.string sUser) := cell_at HG1.out.nm rfl
  have txj : wg1.cell? ⟨w.heap.size + 1 + 1 + 1 + 1, 2, none⟩ = some (.string by_) := cell_at HG1.out.tx rfl
  have kdj : wg1.cell? ⟨w.heap.size + 1 + 1 + 1 + 1 + 1, 2, none⟩ = some (.int .i64 2) := cell_at HG1.out.kd rfl
  go_cut [35] (fun c wx => c = .bool false ∧ Add0 w server most A l.length c0 k room by_ wx)
  case first =>
    go_region_law (go_simp; go_at_call 57; refine (HI2.out _).mono ?_; rintro e wv ⟨rfl, hb⟩
                   have HLV := Lib.hid (show Add0 w server most A l.length c0 k room by_ wv by first | exact HG1.out.drew.next hb | exact HG1.out.next hb)
                   clear hb)
    all_goals
      go_wp2_with fail
      go_meet
      exact ⟨rfl, HLV.out⟩
  obtain ⟨hc2, hg2⟩ := hcut
  subst hc2
  have HG2 := Lib.hid hg2
  clear hg2 nmj txj kdj
  rename World => wg2
  go_wp2_with fail
  rw [rounds_succ]
  go_wp2_with fail
  have t0 := cell_at (j := 0) HG2.out.l.t rfl
  go_cut [48] (fun c wx => c = .bool false ∧ Add0 w server most A l.length c0 k room by_ wx)
  case first =>
    go_region_law (go_simp; go_at_call 58; refine (HO.out _).mono ?_; rintro e wv ⟨rfl, hb⟩
                   have hl : Add0 w server most A l.length c0 k room by_ wv := by first | exact HG2.out.drew.next hb | exact HG2.out.next hb
                   have t0v := cell_at (j := 0) hl.l.t rfl
                   have HLV := Lib.hid hl
                   clear hl hb)
    all_goals
      go_wp2_with fail
      go_meet
      exact ⟨rfl, HLV.out⟩
  obtain ⟨hc3, hg3⟩ := hcut
  subst hc3
  have HG3 := Lib.hid hg3
  clear hg3 t0
  rename World => wg3
  have t0 := cell_at (j := 0) HG3.out.l.t rfl
  have t1 := cell_at (j := 1) HG3.out.l.t rfl
  have t2 := cell_at (j := 2) HG3.out.l.t rfl
  have r0 := cell_at (j := 0) HG3.out.l.r rfl
  have r1 := cell_at (j := 1) HG3.out.l.r rfl
  have r2 := cell_at (j := 2) HG3.out.l.r rfl
  have e0 := cell_at (j := 0) HG3.out.l.e rfl
  have e1 := cell_at (j := 1) HG3.out.l.e rfl
  have e2 := cell_at (j := 2) HG3.out.l.e rfl
  have rz : ∀ j, wg3.frozen? ⟨w.heap.size + 1, j, none⟩ = false := fun j => frozen_at HG3.out.l.r
  have ez : ∀ j, wg3.frozen? ⟨w.heap.size + 1 + 1, j, none⟩ = false := fun j => frozen_at HG3.out.l.e
  go_wp2_with fail
  refine (HAT.out _ HG3.out.l.b).mono ?_
  rintro e wg4 ⟨rfl, hb⟩
  have hg4 : Add0 w server most A l.length c0 k room by_ wg4 := HG3.out.next hb
  clear t0 t1 t2 r0 r1 r2 e0 e1 e2 rz ez
  have t0 := cell_at (j := 0) hg4.l.t rfl
  have t1 := cell_at (j := 1) hg4.l.t rfl
  have t2 := cell_at (j := 2) hg4.l.t rfl
  have r0 := cell_at (j := 0) hg4.l.r rfl
  have r1 := cell_at (j := 1) hg4.l.r rfl
  have r2 := cell_at (j := 2) hg4.l.r rfl
  have e0 := cell_at (j := 0) hg4.l.e rfl
  have e1 := cell_at (j := 1) hg4.l.e rfl
  have e2 := cell_at (j := 2) hg4.l.e rfl
  have rz : ∀ j, wg4.frozen? ⟨w.heap.size + 1, j, none⟩ = false := fun j => frozen_at hg4.l.r
  have ez : ∀ j, wg4.frozen? ⟨w.heap.size + 1 + 1, j, none⟩ = false := fun j => frozen_at hg4.l.e
  have tz : ∀ j, wg4.frozen? ⟨w.heap.size, j, none⟩ = false := fun j => frozen_at hg4.l.t
  have HG4 := Lib.hid hg4
  clear hb hg4
  go_wp2_with fail
  go_region_law (go_simp; go_at_call 20; refine (rerr_calls _ 14).mono ?_; rintro e wv ⟨rfl, hb⟩
                 have hl : Add0 w server most A l.length c0 k room by_ wv := by first | exact HG4.out.drew.next hb | exact HG4.out.next hb
                 have t0 := cell_at (j := 0) hl.l.t rfl
                 have t1 := cell_at (j := 1) hl.l.t rfl
                 have t2 := cell_at (j := 2) hl.l.t rfl
                 have r0 := cell_at (j := 0) hl.l.r rfl
                 have r1 := cell_at (j := 1) hl.l.r rfl
                 have r2 := cell_at (j := 2) hl.l.r rfl
                 have e0 := cell_at (j := 0) hl.l.e rfl
                 have e1 := cell_at (j := 1) hl.l.e rfl
                 have e2 := cell_at (j := 2) hl.l.e rfl
                 have rz : ∀ j, wv.frozen? ⟨w.heap.size + 1, j, none⟩ = false := fun j => frozen_at hl.l.r
                 have ez : ∀ j, wv.frozen? ⟨w.heap.size + 1 + 1, j, none⟩ = false := fun j => frozen_at hl.l.e
                 skip
                 have HLV := Lib.hid hl
                 clear hl hb
                 simp only [erV, eCells])
  all_goals (go_wp2_with fail)
  all_goals first
  | (refine bodyPost_ret (res_TE rfl _ _ (w.heap.size + 1) (w.heap.size + 1 + 1) #[.string server, .int .i64 most, .slice A l.length c0] #[.int .i64 14, .int .i64 (-1), .string (ofL (pathL []))] rfl (HLV.out.l.fin _ _ _ _ _ _).1 rfl rfl (HLV.out.l.fin _ _ _ _ _ _).2.1 rfl) rfl ?_
     exact ⟨rfl, (HLV.out.l.fin _ _ _ _ _ _).2.2⟩)
  | (refine bodyPost_ret (res_TE rfl _ _ (w.heap.size + 1) (w.heap.size + 1 + 1) #[.string server, .int .i64 most, .slice A l.length c0] #[.int .i64 14, .int .i64 (-1), .string (ofL (pathL []))] rfl (HLV.out.l.fin' _ _ _ _ _ _).1 rfl rfl (HLV.out.l.fin' _ _ _ _ _ _).2.1 rfl) rfl ?_
     exact ⟨rfl, (HLV.out.l.fin' _ _ _ _ _ _).2.2⟩)
end Go.Proofs.YtgnoaeldmpbjmaaGreatDoor
