/- AliasPlays, the loop. -/
import Derived.Test.YtgnoaeldmpbjmaaGreatDoorPa
set_option linter.unusedVariables false
set_option linter.unusedSimpArgs false
namespace Go.Proofs.YtgnoaeldmpbjmaaGreatDoor
open Go.RowKit Go.Maps Go.Sort

set_option maxRecDepth 100000 in
set_option maxHeartbeats 8000000 in
theorem plays_in (w : World) (server : ByteArray) (room : Int) (a : Option Addr) (c : Nat) (l : List Ac) (hin : InA w a l.length l) (hsz : server.size ≤ 9223372036854775807) (hm : Mx w) (het : Et w) (hf : fewA l = true) (hl : server.size ≤ 150) (hn : newErr server room = none) : Calls Tryz.prog 4 #[.string server, .int .i64 room, .slice a l.length c] w fun e w' => e = .returned (.bool true) ∧ Below w.heap.size w w' := by
  have HP := Lib.hid hm.pos
  have HM := Lib.hid hm
  have HIN := Lib.hid hin
  have HF := Lib.hid hf
  have HET := Lib.hid het
  have HEP := Lib.hid het.pos
  have g0 : decide ((150 : Int) < (server.size : Int)) = false := by simp; omega
  have hs2 : server.size < 4294967281 := by omega
  have HN := Lib.hid hn
  clear hin hm het hf hl hn
  go_enter Tryz.func4, Tryz.ntmps4
  go_wp2_with fail
  refine (awake_calls w HM.out).mono ?_
  rintro e w1 ⟨rfl, hb⟩
  have HB := Lib.hid hb
  clear hb
  go_wp2_with fail
  have h2 := fewA_calls w1 a c l (HIN.out.below HB.out rfl)
  rw [HF.out] at h2
  refine h2.mono ?_
  rintro e w2 ⟨rfl, hb⟩
  have HB2 := Lib.hid (HB.out.trans (hb.mono HB.out.size))
  clear hb h2
  go_wp2_with fail
  have hs3 : serverB server.data.toList = true := by
    have := HN.out; unfold newErr at this; split at this
    · cases this
    · rename_i h; simpa using h
  have hr3 : 1 ≤ room ∧ room ≤ 400 := by
    have := HN.out; unfold newErr at this; rw [if_neg (by rw [hs3]; simp)] at this; split at this
    · cases this
    · rename_i h; omega
  refine (new_ok w2 server room hs2 (HM.out.below HB2.out HP.out) hs3 hr3.1 hr3.2).mono ?_
  rintro e w3 ⟨g, b, rfl, ht, hgw, hbw, hb⟩
  have HT3 := Lib.hid ht
  have hgw : w.heap.size ≤ g := Nat.le_trans HB2.out.size hgw
  have hbw : w.heap.size ≤ b := Nat.le_trans HB2.out.size hbw
  have HB3 := Lib.hid (HB2.out.trans (hb.mono HB2.out.size))
  have hgl := blk_lt ht.blk
  have hbl := ht.mp.lt
  clear hb ht
  go_wp2_with fail
  refine (rnew_ok w3 server room (by omega) hs3 hr3.1 hr3.2).mono ?_
  rintro e w4 ⟨rfl, hb⟩
  have hw34 := hb.size
  have HB4 := Lib.hid (HB3.out.trans (hb.mono HB3.out.size))
  have HT4 := Lib.hid (HT3.out.below hb)
  clear hb HT3
  obtain ⟨ec, hec⟩ : ∃ ec : Int, ec = 0 := ⟨0, rfl⟩
  obtain ⟨ep, hep⟩ : ∃ ep : ByteArray, ep = ⟨#[]⟩ := ⟨_, rfl⟩
  have hc1 : (ec != 0) = false := by simp [hec]
  simp only [erV, eCells, tCells, Sl.val]
  rw [← hep, show (Value.int IntKind.i64 0) = Value.int IntKind.i64 ec by rw [hec]]
  have HEPP := Lib.hid hep
  have HEC := Lib.hid hec
  clear hep hec
  go_wp2_with fail
  have he5 : ((w4.alloc (.cells #[.string server, .int .i64 room, .slice none 0 0] 34)).alloc (.cells #[.int .i64 ec, .int .i64 (-1), .string ep] 36)).heap[w4.heap.size + 1]? = some (.cells #[.int .i64 ec, .int .i64 (-1), .string ep] 36 (0, 0)) := heap_new_at _ _ _ (by simp)
  have ht5 : ((w4.alloc (.cells #[.string server, .int .i64 room, .slice none 0 0] 34)).alloc (.cells #[.int .i64 ec, .int .i64 (-1), .string ep] 36)).heap[w4.heap.size]? = some (.cells #[.string server, .int .i64 room, .slice none 0 0] 34 (0, 0)) := (heap_old_at _ _ _ (by simp)).trans (heap_new_at _ _ _ rfl)
  have hb5 : Below w4.heap.size w4 ((w4.alloc (.cells #[.string server, .int .i64 room, .slice none 0 0] 34)).alloc (.cells #[.int .i64 ec, .int .i64 (-1), .string ep] 36)) := ((Below.refl _ _).alloc (Nat.le_refl _) _).alloc (by simp) _
  generalize (w4.alloc (.cells #[.string server, .int .i64 room, .slice none 0 0] 34)).alloc (.cells #[.int .i64 ec, .int .i64 (-1), .string ep] 36) = w5 at *
  have e0 := cell_at (j := 0) he5 rfl
  have e1 := cell_at (j := 1) he5 rfl
  have e2 := cell_at (j := 2) he5 rfl
  have HE5 := Lib.hid he5
  have HT5 := Lib.hid ht5
  have HB5 := Lib.hid (HB4.out.trans (hb5.mono HB4.out.size))
  have HTB5 := Lib.hid (HT4.out.below hb5)
  clear he5 hb5 ht5
  refine wt_start (S := fun W => W.cell? ⟨w4.heap.size + 1, 0, none⟩ = some (.int .i64 ec) ∧ W.cell? ⟨w4.heap.size + 1, 1, none⟩ = some (.int .i64 (-1)) ∧ W.cell? ⟨w4.heap.size + 1, 2, none⟩ = some (.string ep)) 11 (by kernel_rfl) ⟨by kernel_rfl, by kernel_rfl, by kernel_rfl, by decide⟩ ?_
  intro HTK
  refine wt_take (i := 0) (v := ?_) HTK.out rfl (by decide) (by kernel_rfl) (by kernel_rfl) (fun _ _ _ h => h) (by exact ⟨e0, e1, e2⟩) (Or.inl ⟨by rfl, ?_⟩) ?_
  rotate_left
  · intro W hSw
    obtain ⟨m0, m1, m2⟩ := hSw
    go_simp
    try (with_reducible rfl)
  try simp only [List.getElem_toArray, List.getElem_cons_zero, List.getElem_cons_succ, Act.put, List.setIfInBounds_toArray, List.set_cons_zero, List.set_cons_succ]
  refine wt_take (i := 2) (v := ?_) HTK.out rfl (by decide) (by kernel_rfl) (by kernel_rfl) (fun _ _ _ h => h) (by exact ⟨e0, e1, e2⟩) (Or.inl ⟨by rfl, ?_⟩) ?_
  rotate_left
  · intro W hSw
    obtain ⟨m0, m1, m2⟩ := hSw
    go_simp
    try (with_reducible rfl)
  try simp only [List.getElem_toArray, List.getElem_cons_zero, List.getElem_cons_succ, Act.put, List.setIfInBounds_toArray, List.set_cons_zero, List.set_cons_succ]
  refine wt_ready (rs := [1]) (by kernel_rfl) (by simp) ?_
  refine AllT.cons rfl (by decide) (fun K hK => ?_) ?_
  · go_simp
    go_at_call 17
    refine (tell_nil w5.drew).mono ?_
    rintro e w6 ⟨rfl, hb⟩
    simp only [erV, eCells]
    rw [← HEPP.out, show (Value.int IntKind.i64 0) = Value.int IntKind.i64 ec by rw [HEC.out]]
    have he6 := (hb.block _ (by exact blk_lt HE5.out)).trans HE5.out
    have HT6 := Lib.hid ((hb.block _ (by exact blk_lt HT5.out)).trans HT5.out)
    have HB6 := Lib.hid (HB5.out.drew.trans (hb.mono HB5.out.size))
    have HTB6 := Lib.hid (show Tab w6 g b server room [] from (HTB5.out.same (w' := w5.drew) rfl rfl).below hb)
    clear hb
    have e0 := cell_at (j := 0) he6 rfl
    have e1 := cell_at (j := 1) he6 rfl
    have e2 := cell_at (j := 2) he6 rfl
    refine hK.out _ _ (by exact ⟨e0, e1, e2⟩) ?_
    clear hK K
    try simp only [List.getElem_toArray, List.getElem_cons_zero, List.getElem_cons_succ, Act.put, List.setIfInBounds_toArray, List.set_cons_zero, List.set_cons_succ]
    refine wt_take (i := 3) (v := ?_) HTK.out rfl (by decide) (by kernel_rfl) (by kernel_rfl) (fun _ _ _ h => h) (by exact ⟨e0, e1, e2⟩) (Or.inl ⟨by rfl, ?_⟩) ?_
    rotate_left
    · intro W hSw
      obtain ⟨m0, m1, m2⟩ := hSw
      go_simp
      try (with_reducible rfl)
    try simp only [List.getElem_toArray, List.getElem_cons_zero, List.getElem_cons_succ, Act.put, List.setIfInBounds_toArray, List.set_cons_zero, List.set_cons_succ]
    refine wt_take (i := 4) (v := ?_) HTK.out rfl (by decide) (by kernel_rfl) (by kernel_rfl) (fun _ _ _ h => h) (by exact ⟨e0, e1, e2⟩) (Or.inl ⟨by rfl, ?_⟩) ?_
    rotate_left
    · intro W hSw
      obtain ⟨m0, m1, m2⟩ := hSw
      go_simp
      try (with_reducible rfl)
    try simp only [List.getElem_toArray, List.getElem_cons_zero, List.getElem_cons_succ, Act.put, List.setIfInBounds_toArray, List.set_cons_zero, List.set_cons_succ]
    refine wt_take (i := 5) (v := ?_) HTK.out rfl (by decide) (by kernel_rfl) (by kernel_rfl) (fun _ _ _ h => h) (by exact ⟨e0, e1, e2⟩) (Or.inl ⟨by rfl, ?_⟩) ?_
    rotate_left
    · intro W hSw
      obtain ⟨m0, m1, m2⟩ := hSw
      go_simp
      try (with_reducible rfl)
    try simp only [List.getElem_toArray, List.getElem_cons_zero, List.getElem_cons_succ, Act.put, List.setIfInBounds_toArray, List.set_cons_zero, List.set_cons_succ]
    refine wt_take (i := 6) (v := ?_) HTK.out rfl (by decide) (by kernel_rfl) (by kernel_rfl) (fun _ _ _ h => h) (by exact ⟨e0, e1, e2⟩) (Or.inl ⟨by rfl, ?_⟩) ?_
    rotate_left
    · intro W hSw
      obtain ⟨m0, m1, m2⟩ := hSw
      go_simp
      try (with_reducible rfl)
    try simp only [List.getElem_toArray, List.getElem_cons_zero, List.getElem_cons_succ, Act.put, List.setIfInBounds_toArray, List.set_cons_zero, List.set_cons_succ]
    refine wt_take (i := 7) (v := ?_) HTK.out rfl (by decide) (by kernel_rfl) (by kernel_rfl) (fun _ _ _ h => h) (by exact ⟨e0, e1, e2⟩) (Or.inl ⟨by rfl, ?_⟩) ?_
    rotate_left
    · intro W hSw
      obtain ⟨m0, m1, m2⟩ := hSw
      go_simp
      try (with_reducible rfl)
    try simp only [List.getElem_toArray, List.getElem_cons_zero, List.getElem_cons_succ, Act.put, List.setIfInBounds_toArray, List.set_cons_zero, List.set_cons_succ]
    refine wt_take (i := 8) (v := ?_) HTK.out rfl (by decide) (by kernel_rfl) (by kernel_rfl) (fun _ _ _ h => h) (by exact ⟨e0, e1, e2⟩) (Or.inl ⟨by rfl, ?_⟩) ?_
    rotate_left
    · intro W hSw
      obtain ⟨m0, m1, m2⟩ := hSw
      go_simp
      try (with_reducible rfl)
    try simp only [List.getElem_toArray, List.getElem_cons_zero, List.getElem_cons_succ, Act.put, List.setIfInBounds_toArray, List.set_cons_zero, List.set_cons_succ]
    refine wt_take (i := 9) (v := ?_) HTK.out rfl (by decide) (by kernel_rfl) (by kernel_rfl) (fun _ _ _ h => h) (by exact ⟨e0, e1, e2⟩) (Or.inl ⟨by rfl, ?_⟩) ?_
    rotate_left
    · intro W hSw
      obtain ⟨m0, m1, m2⟩ := hSw
      go_simp
      try (with_reducible rfl)
    try simp only [List.getElem_toArray, List.getElem_cons_zero, List.getElem_cons_succ, Act.put, List.setIfInBounds_toArray, List.set_cons_zero, List.set_cons_succ]
    refine wt_take (i := 10) (v := ?_) HTK.out rfl (by decide) (by kernel_rfl) (by kernel_rfl) (fun _ _ _ h => h) (by exact ⟨e0, e1, e2⟩) (Or.inl ⟨by rfl, ?_⟩) ?_
    rotate_left
    · intro W hSw
      obtain ⟨m0, m1, m2⟩ := hSw
      go_simp
      try (with_reducible rfl)
    try simp only [List.getElem_toArray, List.getElem_cons_zero, List.getElem_cons_succ, Act.put, List.setIfInBounds_toArray, List.set_cons_zero, List.set_cons_succ]
    refine wt_last (k := 11) (by kernel_rfl) (by kernel_rfl) (by decide) rfl (fun K hK => ?_)
    go_simp
    refine hK.out _ _ ?_
    clear hK K
    try simp only [List.getElem_toArray, List.getElem_cons_zero, List.getElem_cons_succ, Act.put, List.setIfInBounds_toArray, List.set_cons_zero, List.set_cons_succ]
    go_wp2_with fail
    go_loopw [59] (fun v wr => ∃ (i : Nat) (li : List En) (s : Sl), i ≤ l.length ∧ v = .int .i64 i ∧ li.length ≤ i ∧ RiseE li ∧ SmallE li ∧ Both (fun i => i ≠ b ∧ i ≠ w4.heap.size) w g b server room li s wr ∧ wr.heap[w4.heap.size]? = some (.cells #[.string server, .int .i64 room, s.val] 34 (0, 0))) (fun v _ => l.length - (intOf v).toNat)
    case atStart => exact ⟨0, [], slZ, by omega, rfl, by simp, List.Pairwise.nil, (fun x hx => by cases hx), ⟨HTB6.out, ⟨rfl, by simp, .inl ⟨rfl, rfl⟩⟩, fun i h => h.1, HB6.out, hgw, hbw⟩, HT6.out⟩
    case round =>
      obtain ⟨i, li, ⟨A, n, c'⟩, hi, rfl, hlen, hrise, hsmall, hboth, ht9⟩ := hrel
      by_cases hlt : i < l.length
      · have hy : l[i]? = some l[i] := List.getElem?_eq_getElem hlt
        have hyok : okA l[i] = true := by
          have := HF.out
          unfold fewA at this
          rw [Bool.and_eq_true, List.all_eq_true] at this
          exact this.1 _ (List.getElem_mem hlt)
        have h40 : l.length ≤ 40 := by
          have := HF.out
          unfold fewA at this
          rw [Bool.and_eq_true] at this
          simpa using this.2
        obtain ⟨x, rfl, hxl, hcc⟩ := (HIN.out.below hboth.bel rfl).2.2.2 (by omega)
        generalize l[i] = y at hy hyok
        obtain ⟨c0, c1, c2, c3, c4⟩ := hcc i y hy
        have hys : y.a.size ≤ 150 ∧ y.r.size ≤ 150 ∧ y.b.size ≤ 150 := by
          unfold okA at hyok
          simp only [Bool.and_eq_true, decide_eq_true_eq] at hyok
          exact ⟨hyok.1.1, hyok.1.2, hyok.2⟩
        have t0 := cell_at (j := 0) ht9 rfl
        have t1 := cell_at (j := 1) ht9 rfl
        have t2 := cell_at (j := 2) ht9 rfl
        have tz : ∀ j, wr.frozen? ⟨w4.heap.size, j, none⟩ = false := fun j => frozen_at ht9
        have h9lt := blk_lt ht9
        have HBO := Lib.hid hboth
        have HT9 := Lib.hid ht9
        have HRI := Lib.hid hrise
        have HSM := Lib.hid hsmall
        have hbs := hboth.bel.size
        obtain ⟨yd, ym, ya, yr, yb⟩ := y
        have HYS := Lib.hid hys
        clear hy hyok hcc hboth ht9 hrise hsmall hys
        go_wp2_with fail
        have hbA : Below wr.heap.size wr (wr.alloc (.cells #[.bool yd, .bool ym, .string ya, .string yr, .string yb] 40)) := (Below.refl _ _).alloc (Nat.le_refl _) _
        have hac : (wr.alloc (.cells #[.bool yd, .bool ym, .string ya, .string yr, .string yb] 40)).heap[wr.heap.size]? = some (.cells #[.bool yd, .bool ym, .string ya, .string yr, .string yb] 40 (0, 0)) := heap_new_at _ _ _ rfl
        have ht9 := (hbA.block _ h9lt).trans HT9.out
        refine (do_calls (fun i => i ≠ b ∧ i ≠ w4.heap.size) w _ g b server room li ⟨A, n, c'⟩ ⟨yd, ym, ya, yr, yb⟩ (HBO.out.below hbA) HET.out HM.out HRI.out (by omega) (by have := HYS.out.1; simp only at this ⊢; omega) (by have := HYS.out.2.1; simp only at this ⊢; omega) (by have := HYS.out.2.2; simp only at this ⊢; omega)).mono ?_
        rintro e wd ⟨⟨A', n', c''⟩, rfl, hbd, hfr⟩
        have hacd := (hfr.block _ (blk_lt hac) (by show ¬ wr.heap.size = b; omega)).trans hac
        have ht9d := (hfr.block _ (blk_lt ht9) (by show ¬ w4.heap.size = b; omega)).trans ht9
        have hszd : wr.heap.size + 1 ≤ wd.heap.size := by have := hfr.size; simpa using this
        have HBD := Lib.hid (show Both (fun i => i ≠ b ∧ i ≠ w4.heap.size) w g b server room (doL server room li ⟨yd, ym, ya, yr, yb⟩) ⟨A', n', c''⟩ wd from ⟨hbd.t, hbd.r.mono (fun i _ h => by rcases h with h | h; (exact h); (simp at h; omega)), fun i h => h.1, hbd.bel, hbd.hg, hbd.hb⟩)
        have HLI := Lib.hid (And.intro (rise_do HRI.out server room ⟨yd, ym, ya, yr, yb⟩) (And.intro (small_do HSM.out server room ⟨yd, ym, ya, yr, yb⟩ (by have := HYS.out.1; unfold maxLen; simp only at this ⊢; omega)) (by have := doL_length server room li ⟨yd, ym, ya, yr, yb⟩; omega : (doL server room li ⟨yd, ym, ya, yr, yb⟩).length ≤ i + 1)))
        generalize doL server room li ⟨yd, ym, ya, yr, yb⟩ = lj at *
        have HAC := Lib.hid hacd
        have HT9D := Lib.hid ht9d
        clear hbA hac ht9 hbd hfr hacd ht9d c0 c1 c2 c3 c4 t0 t1 t2 tz HRI HSM HBO HT9
        have hwA : (wd.alloc (.cells #[.string server, .int .i64 room, .slice A' n' c''] 34)).heap[w4.heap.size]? = some (.cells #[.string server, .int .i64 room, .slice A n c'] 34 (0, 0)) := (heap_old_at _ _ _ (blk_lt HT9D.out)).trans HT9D.out
        have t0d := cell_at (j := 0) hwA rfl
        have t1d := cell_at (j := 1) hwA rfl
        have t2d := cell_at (j := 2) hwA rfl
        have tzd : ∀ j, (wd.alloc (.cells #[.string server, .int .i64 room, .slice A' n' c''] 34)).frozen? ⟨w4.heap.size, j, none⟩ = false := fun j => frozen_at hwA
        clear hwA
        simp only [tCells, Sl.val] at *
        go_wp2_with fail
        have h9d := blk_lt HT9D.out
        have haf : ((((wd.alloc (.cells #[.string server, .int .i64 room, .slice A' n' c''] 34)).setCell ⟨w4.heap.size, 0, none⟩ (.string server)).setCell ⟨w4.heap.size, 1, none⟩ (.int .i64 room)).setCell ⟨w4.heap.size, 2, none⟩ (.slice A' n' c'')).heap[w4.heap.size]? = some (.cells #[.string server, .int .i64 room, .slice A' n' c''] 34 (0, 0)) := row3_heap ((heap_old_at _ _ _ h9d).trans HT9D.out) rfl
        have hoth : ∀ k o, wd.heap[k]? = some o → k ≠ w4.heap.size → ((((wd.alloc (.cells #[.string server, .int .i64 room, .slice A' n' c''] 34)).setCell ⟨w4.heap.size, 0, none⟩ (.string server)).setCell ⟨w4.heap.size, 1, none⟩ (.int .i64 room)).setCell ⟨w4.heap.size, 2, none⟩ (.slice A' n' c'')).heap[k]? = some o := fun k o h hk => (row3_other hk).trans ((heap_old_at _ _ _ (blk_lt h)).trans h)
        have hsf : wd.heap.size ≤ ((((wd.alloc (.cells #[.string server, .int .i64 room, .slice A' n' c''] 34)).setCell ⟨w4.heap.size, 0, none⟩ (.string server)).setCell ⟨w4.heap.size, 1, none⟩ (.int .i64 room)).setCell ⟨w4.heap.size, 2, none⟩ (.slice A' n' c'')).heap.size := by simp [World.setCell]
        have hacf := hoth _ _ HAC.out (by omega)
        have hbf : Both (fun i => i ≠ b ∧ i ≠ w4.heap.size) w g b server room lj ⟨A', n', c''⟩ ((((wd.alloc (.cells #[.string server, .int .i64 room, .slice A' n' c''] 34)).setCell ⟨w4.heap.size, 0, none⟩ (.string server)).setCell ⟨w4.heap.size, 1, none⟩ (.int .i64 room)).setCell ⟨w4.heap.size, 2, none⟩ (.slice A' n' c'')) :=
          ⟨HBD.out.t.same ((hoth _ _ HBD.out.t.blk (by omega)).trans HBD.out.t.blk.symm) ((row3_other (by omega)).trans (heap_old_at _ _ _ HBD.out.t.mp.lt)), HBD.out.r.same hsf (fun k hk h => (row3_other h.2).trans (heap_old_at _ _ _ hk)), HBD.out.hP, row3_below (HBD.out.bel.alloc HBD.out.bel.size _) (Nat.le_refl _) (by have := HB4.out.size; omega), HBD.out.hg, HBD.out.hb⟩
        generalize (((wd.alloc (.cells #[.string server, .int .i64 room, .slice A' n' c''] 34)).setCell ⟨w4.heap.size, 0, none⟩ (.string server)).setCell ⟨w4.heap.size, 1, none⟩ (.int .i64 room)).setCell ⟨w4.heap.size, 2, none⟩ (.slice A' n' c'') = wf at *
        have f0 := cell_at (j := 0) haf rfl
        have f1 := cell_at (j := 1) haf rfl
        have f2 := cell_at (j := 2) haf rfl
        have HAF := Lib.hid haf
        have HACF := Lib.hid hacf
        have HBF := Lib.hid hbf
        clear haf hoth hacf hbf HBD HAC HT9D t0d t1d t2d tzd
        refine (both_is _ w wf g b server room lj ⟨A', n', c''⟩ HBF.out HLI.out.1 HLI.out.2.1 (by have := HLI.out.2.2; omega)).mono ?_
        rintro e wi ⟨rfl, hbi⟩
        have HACI := Lib.hid ((hbi.block _ (blk_lt HACF.out)).trans HACF.out)
        have HAI := Lib.hid ((hbi.block _ (blk_lt HAF.out)).trans HAF.out)
        have HBI := Lib.hid (HBF.out.below hbi)
        have a2 := cell_at (j := 2) HACI.out rfl
        clear hbi f0 f1 f2 HBF HAF HACF
        go_wp2_with fail
        refine (get_calls wi g b server room lj ya HBI.out.t (by have := HYS.out.1; unfold maxLen; omega)).mono ?_
        rintro e wg ⟨rfl, hbg⟩
        have HACG := Lib.hid ((hbg.block _ (blk_lt HACI.out)).trans HACI.out)
        have HAG := Lib.hid ((hbg.block _ (blk_lt HAI.out)).trans HAI.out)
        have HBG := Lib.hid (HBI.out.below hbg)
        clear hbg a2 HACI HAI HBI
        rcases idx_get lj ya with ⟨hg, hix⟩ | ⟨k, z, s1, s2, q1, q2, q3, hg, hix, q4, q5⟩
        · rw [hg]
          have HIX := Lib.hid hix
          clear hg hix
          unfold getV errNone
          simp only [enZ]
          have hWb : Below wg.heap.size wg (wg.alloc (.cells #[.string ⟨#[]⟩, .string ⟨#[]⟩, .string ⟨#[]⟩] 49)) := (Below.refl _ _).alloc (Nat.le_refl _) _
          have hAW := (hWb.block _ (blk_lt HAG.out)).trans HAG.out
          have hCW := (hWb.block _ (blk_lt HACG.out)).trans HACG.out
          have hGW : (wg.alloc (.cells #[.string ⟨#[]⟩, .string ⟨#[]⟩, .string ⟨#[]⟩] 49)).heap[wg.heap.size]? = some (.cells #[.string ⟨#[]⟩, .string ⟨#[]⟩, .string ⟨#[]⟩] 49 (0, 0)) := heap_new_at _ _ _ rfl
          have t0 := cell_at (j := 0) hAW rfl
          have t1 := cell_at (j := 1) hAW rfl
          have t2 := cell_at (j := 2) hAW rfl
          have a2 := cell_at (j := 2) hCW rfl
          have HBW := Lib.hid (HBG.out.below hWb)
          have HAW := Lib.hid hAW
          have HGW := Lib.hid hGW
          clear hWb hAW hCW hGW HAG HACG HBG
          go_wp2_with fail
          refine (rat_calls _ server room ⟨A', n', c''⟩ _ lj ya HBW.out.r (by have := HLI.out.2.2; omega)).mono ?_
          rintro e wa ⟨rfl, hb⟩
          have hGA := (hb.block _ (blk_lt HGW.out)).trans HGW.out
          have HAA := Lib.hid ((hb.block _ (blk_lt HAW.out)).trans HAW.out)
          have HBA := Lib.hid (HBW.out.below hb)
          have HGA := Lib.hid hGA
          clear hb hGA t0 t1 t2 a2 HAW HGW HBW
          rw [HIX.out]
          go_wp2_with fail
          refine (tell_calls wa (fun _ => False) (.iface 67 (.int .i64 16)) (some ([], 16)) (ErrV.code wa (fun _ => False) 16) (HET.out.below HBA.out.bel HEP.out) (by simp [pathOf, pathL])).mono ?_
          rintro e wb ⟨rfl, hb⟩
          have HGB := Lib.hid ((hb.block _ (blk_lt HGA.out)).trans HGA.out)
          have HAB := Lib.hid ((hb.block _ (blk_lt HAA.out)).trans HAA.out)
          have HBB := Lib.hid (HBA.out.below hb)
          clear hb HGA HAA HBA
          simp only [erV, eCells]
          go_wp2_with fail
          refine (rerr_calls wb 16).mono ?_
          rintro e wz ⟨rfl, hb⟩
          have hGZ := (hb.block _ (blk_lt HGB.out)).trans HGB.out
          have v0 := cell_at (j := 0) hGZ rfl
          have v1 := cell_at (j := 1) hGZ rfl
          have v2 := cell_at (j := 2) hGZ rfl
          have HAZ := Lib.hid ((hb.block _ (blk_lt HAB.out)).trans HAB.out)
          have HBZ := Lib.hid (HBB.out.below hb)
          clear hb hGZ HGB HAB HBB
          simp only [erV, eCells]
          go_wp2_with fail
          exact ⟨⟨i + 1, lj, ⟨A', n', c''⟩, by omega, by go_num, HLI.out.2.2, HLI.out.1, HLI.out.2.1, HBZ.out, HAZ.out⟩, by simp [intOf]; omega⟩
        · rw [hg]
          have HIX := Lib.hid hix
          clear hg hix q1 q2 q3 q4 q5
          obtain ⟨za, zr, zb⟩ := z
          unfold getV
          have hWb : Below wg.heap.size wg (wg.alloc (.cells #[.string za, .string zr, .string zb] 49)) := (Below.refl _ _).alloc (Nat.le_refl _) _
          have hAW := (hWb.block _ (blk_lt HAG.out)).trans HAG.out
          have hCW := (hWb.block _ (blk_lt HACG.out)).trans HACG.out
          have hGW : (wg.alloc (.cells #[.string za, .string zr, .string zb] 49)).heap[wg.heap.size]? = some (.cells #[.string za, .string zr, .string zb] 49 (0, 0)) := heap_new_at _ _ _ rfl
          have t0 := cell_at (j := 0) hAW rfl
          have t1 := cell_at (j := 1) hAW rfl
          have t2 := cell_at (j := 2) hAW rfl
          have a2 := cell_at (j := 2) hCW rfl
          have HBW := Lib.hid (HBG.out.below hWb)
          have HAW := Lib.hid hAW
          have HGW := Lib.hid hGW
          clear hWb hAW hCW hGW HAG HACG HBG
          go_wp2_with fail
          refine (rat_calls _ server room ⟨A', n', c''⟩ _ lj ya HBW.out.r (by have := HLI.out.2.2; omega)).mono ?_
          rintro e wa ⟨rfl, hb⟩
          have hGA := (hb.block _ (blk_lt HGW.out)).trans HGW.out
          have HAA := Lib.hid ((hb.block _ (blk_lt HAW.out)).trans HAW.out)
          have HBA := Lib.hid (HBW.out.below hb)
          have HGA := Lib.hid hGA
          clear hb hGA t0 t1 t2 a2 HAW HGW HBW
          rw [HIX.out]
          go_wp2_with fail
          refine (tell_calls wa (fun _ => False) .nilIface none (errV_nil wa (fun _ => False)) (HET.out.below HBA.out.bel HEP.out) (by simp [pathOf, pathL])).mono ?_
          rintro e wb ⟨rfl, hb⟩
          have HGB := Lib.hid ((hb.block _ (blk_lt HGA.out)).trans HGA.out)
          have HAB := Lib.hid ((hb.block _ (blk_lt HAA.out)).trans HAA.out)
          have HBB := Lib.hid (HBA.out.below hb)
          clear hb HGA HAA HBA
          simp only [erV, eCells]
          go_wp2_with fail
          refine (rerr_calls wb 16).mono ?_
          rintro e wz ⟨rfl, hb⟩
          have hGZ := (hb.block _ (blk_lt HGB.out)).trans HGB.out
          have v0 := cell_at (j := 0) hGZ rfl
          have v1 := cell_at (j := 1) hGZ rfl
          have v2 := cell_at (j := 2) hGZ rfl
          have HAZ := Lib.hid ((hb.block _ (blk_lt HAB.out)).trans HAB.out)
          have HBZ := Lib.hid (HBB.out.below hb)
          clear hb hGZ HGB HAB HBB
          simp only [erV, eCells]
          go_wp2_with fail
          exact ⟨⟨i + 1, lj, ⟨A', n', c''⟩, by omega, by go_num, HLI.out.2.2, HLI.out.1, HLI.out.2.1, HBZ.out, HAZ.out⟩, by simp [intOf]; omega⟩
      · obtain rfl : i = l.length := by omega
        have HB := Lib.hid hboth.bel
        clear hboth ht9 hrise hsmall
        go_wp2_with fail
        go_ret
        exact ⟨rfl, HB.out⟩
  exact AllT.nil
end Go.Proofs.YtgnoaeldmpbjmaaGreatDoor
