/- AliasPlays, walked. -/
import Derived.Test.YtgnoaeldmpbjmaaGreatDoorBo
import Derived.Test.YtgnoaeldmpbjmaaGreatDoorOa
set_option linter.unusedVariables false
set_option linter.unusedSimpArgs false
namespace Go.Proofs.YtgnoaeldmpbjmaaGreatDoor
open Go.RowKit Go.Maps Go.Sort

theorem rnew_bad (w : World) (s : ByteArray) (n : Int) (hs : s.size ≤ 9223372036854775807) (hbad : newErr s n ≠ none) :
    Calls Tryz.prog 10 #[.string s, .int .i64 n] w fun e w' => e = .returned (.tuple #[.agg TZ, erV (newErr s n)]) ∧ Below w.heap.size w w' := by
  unfold newErr at hbad ⊢
  split
  · rename_i h; exact rnew_server w s n hs h
  · rename_i h
    rw [if_neg h] at hbad
    have h1 : serverB s.data.toList = true := by simpa using h
    split
    · rename_i h2
      rcases h2 with h2 | h2
      · exact rnew_low w s n hs h1 h2
      · exact rnew_high w s n hs h1 h2
    · rename_i h2
      rw [if_neg h2] at hbad
      exact absurd rfl hbad
theorem newErr_form {s : ByteArray} {n : Int} (h : newErr s n ≠ none) : ∃ p cd, newErr s n = some (p, cd) ∧ (cd == 0) = false ∧ (pathOf (newErr s n)).length ≤ 1000000 := by
  unfold newErr at h ⊢
  split
  · exact ⟨_, _, rfl, rfl, by simp [pathOf, pathL]⟩
  · rename_i h1
    rw [if_neg h1] at h
    split
    · exact ⟨_, _, rfl, rfl, by simp [pathOf, pathL]⟩
    · rename_i h2
      rw [if_neg h2] at h
      exact absurd rfl h
set_option maxRecDepth 100000 in
set_option maxHeartbeats 2000000 in
theorem plays_many (w : World) (server : ByteArray) (room : Int) (a : Option Addr) (c : Nat) (l : List Ac) (hin : InA w a l.length l) (hsz : server.size ≤ 9223372036854775807) (hm : Mx w) (het : Et w) (hf : fewA l = false) : Calls Tryz.prog 4 #[.string server, .int .i64 room, .slice a l.length c] w fun e w' => e = .returned (.bool true) ∧ Below w.heap.size w w' := by
  have HP := Lib.hid hm.pos
  have HM := Lib.hid hm
  have HIN := Lib.hid hin
  have HF := Lib.hid hf
  clear hin hm het hf
  go_enter Tryz.func4, Tryz.ntmps4
  go_wp2_with fail
  refine (awake_calls w HM.out).mono ?_
  rintro e w1 ⟨rfl, hb⟩
  have HB := Lib.hid hb
  clear hb
  go_wp2_with fail
  have h2 := fewA_calls w1 a c l (HIN.out.below HB.out rfl)
  rw [HF.out] at h2
  refine h2.mono ?_
  rintro e w2 ⟨rfl, hb⟩
  have HB2 := Lib.hid (HB.out.trans (hb.mono HB.out.size))
  clear hb h2
  go_wp2_with fail
  refine (awake_calls w2 (HM.out.below HB2.out HP.out)).mono ?_
  rintro e w3 ⟨rfl, hb⟩
  have HB3 := Lib.hid (HB2.out.trans (hb.mono HB2.out.size))
  clear hb
  go_wp2_with fail
  go_ret
  exact ⟨rfl, HB3.out⟩
set_option maxRecDepth 100000 in
set_option maxHeartbeats 2000000 in
theorem plays_long (w : World) (server : ByteArray) (room : Int) (a : Option Addr) (c : Nat) (l : List Ac) (hin : InA w a l.length l) (hsz : server.size ≤ 9223372036854775807) (hm : Mx w) (het : Et w) (hf : fewA l = true) (hl : 150 < server.size) : Calls Tryz.prog 4 #[.string server, .int .i64 room, .slice a l.length c] w fun e w' => e = .returned (.bool true) ∧ Below w.heap.size w w' := by
  have HP := Lib.hid hm.pos
  have HM := Lib.hid hm
  have HIN := Lib.hid hin
  have HF := Lib.hid hf
  have g0 : decide ((150 : Int) < (server.size : Int)) = true := by simp; omega
  clear hin hm het hf hl
  go_enter Tryz.func4, Tryz.ntmps4
  go_wp2_with fail
  refine (awake_calls w HM.out).mono ?_
  rintro e w1 ⟨rfl, hb⟩
  have HB := Lib.hid hb
  clear hb
  go_wp2_with fail
  have h2 := fewA_calls w1 a c l (HIN.out.below HB.out rfl)
  rw [HF.out] at h2
  refine h2.mono ?_
  rintro e w2 ⟨rfl, hb⟩
  have HB2 := Lib.hid (HB.out.trans (hb.mono HB.out.size))
  clear hb h2
  go_wp2_with fail
  refine (awake_calls w2 (HM.out.below HB2.out HP.out)).mono ?_
  rintro e w3 ⟨rfl, hb⟩
  have HB3 := Lib.hid (HB2.out.trans (hb.mono HB2.out.size))
  clear hb
  go_wp2_with fail
  go_ret
  exact ⟨rfl, HB3.out⟩
set_option maxRecDepth 100000 in
set_option maxHeartbeats 4000000 in
theorem plays_bad (w : World) (server : ByteArray) (room : Int) (a : Option Addr) (c : Nat) (l : List Ac) (hin : InA w a l.length l) (hsz : server.size ≤ 9223372036854775807) (hm : Mx w) (het : Et w) (hf : fewA l = true) (hl : server.size ≤ 150) (hn : newErr server room ≠ none) : Calls Tryz.prog 4 #[.string server, .int .i64 room, .slice a l.length c] w fun e w' => e = .returned (.bool true) ∧ Below w.heap.size w w' := by
  have HP := Lib.hid hm.pos
  have HM := Lib.hid hm
  have HIN := Lib.hid hin
  have HF := Lib.hid hf
  have HET := Lib.hid het
  have HEP := Lib.hid het.pos
  have g0 : decide ((150 : Int) < (server.size : Int)) = false := by simp; omega
  have hs2 : server.size < 4294967281 := by omega
  have HN := Lib.hid hn
  clear hin hm het hf hl hn
  go_enter Tryz.func4, Tryz.ntmps4
  go_wp2_with fail
  refine (awake_calls w HM.out).mono ?_
  rintro e w1 ⟨rfl, hb⟩
  have HB := Lib.hid hb
  clear hb
  go_wp2_with fail
  have h2 := fewA_calls w1 a c l (HIN.out.below HB.out rfl)
  rw [HF.out] at h2
  refine h2.mono ?_
  rintro e w2 ⟨rfl, hb⟩
  have HB2 := Lib.hid (HB.out.trans (hb.mono HB.out.size))
  clear hb h2
  go_wp2_with fail
  refine (new_bad w2 server room hs2 (HM.out.below HB2.out HP.out) HN.out).mono ?_
  rintro e w3 ⟨v, rfl, hv, hb⟩
  have HB3 := Lib.hid (HB2.out.trans (hb.mono HB2.out.size))
  have HV := Lib.hid hv
  clear hb hv
  go_wp2_with fail
  refine (rnew_bad w3 server room (by omega) HN.out).mono ?_
  rintro e w4 ⟨rfl, hb⟩
  have HB4 := Lib.hid (HB3.out.trans (hb.mono HB3.out.size))
  have HV4 := Lib.hid (HV.out.below hb)
  clear hb
  obtain ⟨p, ec, hne, hc0, hpl⟩ := newErr_form HN.out
  rw [hne] at HV4 hpl ⊢
  have HPL := Lib.hid hpl
  have hc1 : (ec != 0) = true := by simp [bne, hc0]
  clear hne hpl
  simp only [erV, eCells]
  generalize hep : ofL (pathL p) = ep
  have HEPP := Lib.hid hep
  clear hep
  go_wp2_with fail
  have he5 : ((w4.alloc (.cells TZ 34)).alloc (.cells #[.int .i64 ec, .int .i64 (-1), .string ep] 36)).heap[w4.heap.size + 1]? = some (.cells #[.int .i64 ec, .int .i64 (-1), .string ep] 36 (0, 0)) := heap_new_at _ _ _ (by simp)
  have hb5 : Below w4.heap.size w4 ((w4.alloc (.cells TZ 34)).alloc (.cells #[.int .i64 ec, .int .i64 (-1), .string ep] 36)) := ((Below.refl _ _).alloc (Nat.le_refl _) _).alloc (by simp) _
  generalize (w4.alloc (.cells TZ 34)).alloc (.cells #[.int .i64 ec, .int .i64 (-1), .string ep] 36) = w5 at *
  have e0 := cell_at (j := 0) he5 rfl
  have e1 := cell_at (j := 1) he5 rfl
  have e2 := cell_at (j := 2) he5 rfl
  have HE5 := Lib.hid he5
  have HB5 := Lib.hid (HB4.out.trans (hb5.mono HB4.out.size))
  have HV5 := Lib.hid (show ErrV w5.drew (fun g => w2.heap.size ≤ g) v (some (p, ec)) from HV4.out.below hb5.drew)
  clear he5 hb5
  refine wt_start (S := fun W => W.cell? ⟨w4.heap.size + 1, 0, none⟩ = some (.int .i64 ec) ∧ W.cell? ⟨w4.heap.size + 1, 1, none⟩ = some (.int .i64 (-1)) ∧ W.cell? ⟨w4.heap.size + 1, 2, none⟩ = some (.string ep)) 11 (by kernel_rfl) ⟨by kernel_rfl, by kernel_rfl, by kernel_rfl, by decide⟩ ?_
  intro HTK
  refine wt_take (i := 0) (v := ?_) HTK.out rfl (by decide) (by kernel_rfl) (by kernel_rfl) (fun _ _ _ h => h) (by exact ⟨e0, e1, e2⟩) (Or.inl ⟨by rfl, ?_⟩) ?_
  rotate_left
  · intro W hSw
    obtain ⟨m0, m1, m2⟩ := hSw
    go_simp
    try (with_reducible rfl)
  try simp only [List.getElem_toArray, List.getElem_cons_zero, List.getElem_cons_succ, Act.put, List.setIfInBounds_toArray, List.set_cons_zero, List.set_cons_succ]
  refine wt_take (i := 2) (v := ?_) HTK.out rfl (by decide) (by kernel_rfl) (by kernel_rfl) (fun _ _ _ h => h) (by exact ⟨e0, e1, e2⟩) (Or.inl ⟨by rfl, ?_⟩) ?_
  rotate_left
  · intro W hSw
    obtain ⟨m0, m1, m2⟩ := hSw
    go_simp
    try (with_reducible rfl)
  try simp only [List.getElem_toArray, List.getElem_cons_zero, List.getElem_cons_succ, Act.put, List.setIfInBounds_toArray, List.set_cons_zero, List.set_cons_succ]
  refine wt_ready (rs := [1]) (by kernel_rfl) (by simp) ?_
  refine AllT.cons rfl (by decide) (fun K hK => ?_) ?_
  · go_simp
    go_at_call 17
    refine (tell_calls w5.drew _ v _ HV5.out (HET.out.below HB5.out.drew HEP.out) HPL.out).mono ?_
    rintro e w6 ⟨rfl, hb⟩
    simp only [erV, eCells, HEPP.out]
    have he6 := (hb.block _ (by exact blk_lt HE5.out)).trans HE5.out
    have HB6 := Lib.hid (HB5.out.drew.trans (hb.mono HB5.out.size))
    clear hb
    have e0 := cell_at (j := 0) he6 rfl
    have e1 := cell_at (j := 1) he6 rfl
    have e2 := cell_at (j := 2) he6 rfl
    refine hK.out _ _ (by exact ⟨e0, e1, e2⟩) ?_
    clear hK K
    try simp only [List.getElem_toArray, List.getElem_cons_zero, List.getElem_cons_succ, Act.put, List.setIfInBounds_toArray, List.set_cons_zero, List.set_cons_succ]
    refine wt_take (i := 3) (v := ?_) HTK.out rfl (by decide) (by kernel_rfl) (by kernel_rfl) (fun _ _ _ h => h) (by exact ⟨e0, e1, e2⟩) (Or.inl ⟨by rfl, ?_⟩) ?_
    rotate_left
    · intro W hSw
      obtain ⟨m0, m1, m2⟩ := hSw
      go_simp
      try (with_reducible rfl)
    try simp only [List.getElem_toArray, List.getElem_cons_zero, List.getElem_cons_succ, Act.put, List.setIfInBounds_toArray, List.set_cons_zero, List.set_cons_succ]
    refine wt_take (i := 4) (v := ?_) HTK.out rfl (by decide) (by kernel_rfl) (by kernel_rfl) (fun _ _ _ h => h) (by exact ⟨e0, e1, e2⟩) (Or.inl ⟨by rfl, ?_⟩) ?_
    rotate_left
    · intro W hSw
      obtain ⟨m0, m1, m2⟩ := hSw
      go_simp
      try (with_reducible rfl)
    try simp only [List.getElem_toArray, List.getElem_cons_zero, List.getElem_cons_succ, Act.put, List.setIfInBounds_toArray, List.set_cons_zero, List.set_cons_succ]
    refine wt_take (i := 5) (v := ?_) HTK.out rfl (by decide) (by kernel_rfl) (by kernel_rfl) (fun _ _ _ h => h) (by exact ⟨e0, e1, e2⟩) (Or.inl ⟨by rfl, ?_⟩) ?_
    rotate_left
    · intro W hSw
      obtain ⟨m0, m1, m2⟩ := hSw
      go_simp
      try (with_reducible rfl)
    try simp only [List.getElem_toArray, List.getElem_cons_zero, List.getElem_cons_succ, Act.put, List.setIfInBounds_toArray, List.set_cons_zero, List.set_cons_succ]
    refine wt_take (i := 6) (v := ?_) HTK.out rfl (by decide) (by kernel_rfl) (by kernel_rfl) (fun _ _ _ h => h) (by exact ⟨e0, e1, e2⟩) (Or.inl ⟨by rfl, ?_⟩) ?_
    rotate_left
    · intro W hSw
      obtain ⟨m0, m1, m2⟩ := hSw
      go_simp
      try (with_reducible rfl)
    try simp only [List.getElem_toArray, List.getElem_cons_zero, List.getElem_cons_succ, Act.put, List.setIfInBounds_toArray, List.set_cons_zero, List.set_cons_succ]
    refine wt_take (i := 7) (v := ?_) HTK.out rfl (by decide) (by kernel_rfl) (by kernel_rfl) (fun _ _ _ h => h) (by exact ⟨e0, e1, e2⟩) (Or.inl ⟨by rfl, ?_⟩) ?_
    rotate_left
    · intro W hSw
      obtain ⟨m0, m1, m2⟩ := hSw
      go_simp
      try (with_reducible rfl)
    try simp only [List.getElem_toArray, List.getElem_cons_zero, List.getElem_cons_succ, Act.put, List.setIfInBounds_toArray, List.set_cons_zero, List.set_cons_succ]
    refine wt_take (i := 8) (v := ?_) HTK.out rfl (by decide) (by kernel_rfl) (by kernel_rfl) (fun _ _ _ h => h) (by exact ⟨e0, e1, e2⟩) (Or.inl ⟨by rfl, ?_⟩) ?_
    rotate_left
    · intro W hSw
      obtain ⟨m0, m1, m2⟩ := hSw
      go_simp
      try (with_reducible rfl)
    try simp only [List.getElem_toArray, List.getElem_cons_zero, List.getElem_cons_succ, Act.put, List.setIfInBounds_toArray, List.set_cons_zero, List.set_cons_succ]
    refine wt_take (i := 9) (v := ?_) HTK.out rfl (by decide) (by kernel_rfl) (by kernel_rfl) (fun _ _ _ h => h) (by exact ⟨e0, e1, e2⟩) (Or.inl ⟨by rfl, ?_⟩) ?_
    rotate_left
    · intro W hSw
      obtain ⟨m0, m1, m2⟩ := hSw
      go_simp
      try (with_reducible rfl)
    try simp only [List.getElem_toArray, List.getElem_cons_zero, List.getElem_cons_succ, Act.put, List.setIfInBounds_toArray, List.set_cons_zero, List.set_cons_succ]
    refine wt_take (i := 10) (v := ?_) HTK.out rfl (by decide) (by kernel_rfl) (by kernel_rfl) (fun _ _ _ h => h) (by exact ⟨e0, e1, e2⟩) (Or.inl ⟨by rfl, ?_⟩) ?_
    rotate_left
    · intro W hSw
      obtain ⟨m0, m1, m2⟩ := hSw
      go_simp
      try (with_reducible rfl)
    try simp only [List.getElem_toArray, List.getElem_cons_zero, List.getElem_cons_succ, Act.put, List.setIfInBounds_toArray, List.set_cons_zero, List.set_cons_succ]
    refine wt_last (k := 11) (by kernel_rfl) (by kernel_rfl) (by decide) rfl (fun K hK => ?_)
    go_simp
    refine hK.out _ _ ?_
    clear hK K
    try simp only [List.getElem_toArray, List.getElem_cons_zero, List.getElem_cons_succ, Act.put, List.setIfInBounds_toArray, List.set_cons_zero, List.set_cons_succ]
    go_wp2_with fail
    go_ret
    exact ⟨rfl, HB6.out⟩
  exact AllT.nil
end Go.Proofs.YtgnoaeldmpbjmaaGreatDoor
