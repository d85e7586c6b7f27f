/- PowerChanges, walked. -/
import Derived.Test.YtiehdfokcnphdaaGreatDoorRc
import Derived.Test.YtiehdfokcnphdaaGreatDoorAw
import Derived.Test.YtiehdfokcnphdaaGreatDoorLd
import Derived.Deep.DeepCutAuto
import Derived.Deep.Cut
set_option linter.unusedVariables false
set_option linter.unusedSimpArgs false
namespace Go.Proofs.YtiehdfokcnphdaaGreatDoor
open Go.RowKit Go.Shelf Go.Sort

theorem few_20 {l : List Nm} (h : fewB l = true) : l.length ≤ 20 := by
  unfold fewB at h
  rw [Bool.and_eq_true] at h
  simpa using h.2
theorem few_len {l : List Nm} (h : fewB l = true) : l.length ≤ 1000000 := by
  unfold fewB at h
  rw [Bool.and_eq_true] at h
  have := h.2
  simp at this
  omega
theorem few_name {l : List Nm} (h : fewB l = true) {z : Nm} (hz : z ∈ l) : z.name.size ≤ 100 := by
  unfold fewB at h
  rw [Bool.and_eq_true] at h
  have := List.all_eq_true.1 h.1 z hz
  simpa using this
theorem names_few {ex ux ey uy : List Nm} (h0 : fewB ex = true) (h1 : fewB ux = true) (h2 : fewB ey = true) (h3 : fewB uy = true) : ∀ z ∈ (ex ++ ey) ++ (ux ++ uy), z.name.size ≤ 100 := by
  intro z hz
  rcases List.mem_append.1 hz with hz | hz <;> rcases List.mem_append.1 hz with hz | hz
  · exact few_name h0 hz
  · exact few_name h2 hz
  · exact few_name h1 hz
  · exact few_name h3 hz
theorem num_real (x : L9) (s1 s2 t1 t2 : Sl) (j : Nat) : numAt (realLv x s1 s2) j = numAt (realLv x t1 t2) j := by
  match j with
  | 0 => rfl
  | 1 => rfl
  | 2 => rfl
  | 3 => rfl
  | 4 => rfl
  | 5 => rfl
  | 6 => rfl
  | _ + 7 => rfl
theorem docE_real (b : ByteArray) (p : Int) (x y : L9) (ex ux ey uy : List Nm) (s1 s2 t1 t2 : Sl) (pt : Pt) : docE b p (realLv x s1 s2) (realLv y t1 t2) ex ux ey uy pt = docE b p (realLv x noSl noSl) (realLv y noSl noSl) ex ux ey uy pt := by
  unfold docE
  cases pt.num with
  | none => rfl
  | some j => dsimp only; rw [num_real x s1 s2 noSl noSl, num_real y t1 t2 noSl noSl]
theorem docs_real (b : ByteArray) (p : Int) (x y : L9) (ex ux ey uy : List Nm) (s1 s2 t1 t2 : Sl) : docs b p (realLv x s1 s2) (realLv y t1 t2) ex ux ey uy pts = docs b p (realLv x noSl noSl) (realLv y noSl noSl) ex ux ey uy pts := by
  generalize pts = l
  induction l with
  | nil => rfl
  | cons pt l ih => unfold docs; rw [docE_real, ih]
theorem pts_short : ∀ pt ∈ pts, pt.key.size ≤ 100 := by
  intro pt hpt
  obtain ⟨i, hi⟩ := List.mem_iff_getElem?.1 hpt
  exact (pts_cells i pt hi).2.2
theorem path_one (a : ByteArray) : (pathL [a]).length = a.size + 1 := by
  have h1 : (pathL [a]).length = a.data.size + 1 := by simp [pathL]
  exact h1
theorem path_two (a b : ByteArray) : (pathL [a, b]).length = a.size + 1 + (b.size + 1) := by
  have h1 : (pathL [a, b]).length = a.data.size + 1 + (b.data.size + 1) := by simp [pathL]; omega
  exact h1
theorem docs_short (b : ByteArray) (p : Int) (x y : Lv) (ex ux ey uy : List Nm) (h : ∀ z ∈ (ex ++ ey) ++ (ux ++ uy), z.name.size ≤ 100) : (pathOf (docs b p x y ex ux ey uy pts)).length ≤ 1000000 := by
  have hk := pts_short
  revert hk
  generalize pts = l
  intro hk
  induction l with
  | nil => exact Nat.zero_le _
  | cons pt l ih =>
    have h0 := hk pt (by simp)
    unfold docs
    cases hd : docE b p x y ex ux ey uy pt with
    | none => exact ih (fun q hq => hk q (by simp [hq]))
    | some e =>
      show (pathL e.1).length ≤ _
      unfold docE at hd
      cases h1 : pt.num with
      | some j =>
        rw [h1] at hd
        dsimp only at hd
        split at hd
        · obtain rfl := Option.some.inj hd
          rw [path_one]; omega
        · cases hd
      | none =>
        rw [h1] at hd
        cases h2 : pt.lst with
        | none => rw [h2] at hd; cases hd
        | some j =>
          rw [h2] at hd
          dsimp only at hd
          obtain ⟨n, hn, rfl⟩ := Option.map_eq_some_iff.1 hd
          obtain ⟨z, hz, rfl⟩ := least_mem hn
          have : z.name.size ≤ 100 := by
            refine h z ?_
            by_cases hj : j = 8
            · rw [if_pos hj, if_pos hj] at hz; exact List.mem_append_right _ hz
            · rw [if_neg hj, if_neg hj] at hz; exact List.mem_append_left _ hz
          rw [path_two]; omega
theorem e_form (er : Er) : ∃ (c : Int) (s : ByteArray), erV er = .agg #[.int .i64 c, .int .i64 (-1), .string s] := by
  cases er with
  | none => exact ⟨0, ⟨#[]⟩, rfl⟩
  | some e => exact ⟨e.2, _, rfl⟩
set_option maxRecDepth 100000 in
set_option maxHeartbeats 8000000 in
theorem changes_calls (w : World) (x y : L9) (by_ : ByteArray) (ex ux ey uy : List Nm) (hex : InN w x.ev.a x.ev.n ex) (hux : InN w x.us.a x.us.n ux) (hey : InN w y.ev.a y.ev.n ey) (huy : InN w y.us.a y.us.n uy) (hm : Mx w) (het : Et w) :
    Calls Tryz.prog 3 #[.agg x.cells, .agg y.cells, .string by_] w fun e w' => e = .returned (.bool true) ∧ Below w.heap.size w w' := by
  have n1 : x.ev.n = ex.length := hex.1
  have n2 : x.us.n = ux.length := hux.1
  have n3 : y.ev.n = ey.length := hey.1
  have n4 : y.us.n = uy.length := huy.1
  have HEX0 := Lib.hid hex
  have HUX0 := Lib.hid hux
  have HEY0 := Lib.hid hey
  have HUY0 := Lib.hid huy
  rw [n1] at hex
  rw [n2] at hux
  rw [n3] at hey
  rw [n4] at huy
  have HEX := Lib.hid hex
  have HUX := Lib.hid hux
  have HEY := Lib.hid hey
  have HUY := Lib.hid huy
  have HP := Lib.hid hm.pos
  have HM := Lib.hid hm
  have HETP := Lib.hid het.pos
  have HET := Lib.hid het
  obtain ⟨wb, hwb⟩ : ∃ wb : World, wb = (w.alloc (.cells x.cells 25)).alloc (.cells y.cells 25) := ⟨_, rfl⟩
  have hb0 : Below w.heap.size w wb := by rw [hwb]; exact ((Below.refl _ _).alloc (Nat.le_refl _) _).alloc (by simp) _
  have HX := Lib.hid (show wb.heap[w.heap.size]? = some (.cells x.cells 25 (0, 0)) by rw [hwb]; exact (heap_old_at _ _ _ (by simp)).trans (heap_new_at _ _ _ rfl))
  have HY := Lib.hid (show wb.heap[w.heap.size + 1]? = some (.cells y.cells 25 (0, 0)) by rw [hwb]; exact heap_new_at _ _ _ (by simp))
  have HWB := Lib.hid hwb
  have HB1 := Lib.hid hb0
  clear hex hux hey huy hm het hwb hb0
  go_enter Tryz.func3, Tryz.ntmps3
  go_upto_region 1 with fail
  rw [← HWB.out]
  go_wp2_with fail
  refine (awake_calls wb (HM.out.below HB1.out HP.out)).mono ?_
  rintro e v0 ⟨rfl, hb⟩
  have HV0 := Lib.hid (HB1.out.trans (hb.mono HB1.out.size))
  have BB0 := Lib.hid hb
  clear hb
  have c7 : v0.cell? ⟨w.heap.size, 7, none⟩ = some (.slice x.ev.a x.ev.n x.ev.c) := cell_at (j := 7) ((BB0.out.block _ (blk_lt HX.out)).trans HX.out) rfl
  have c8 : v0.cell? ⟨w.heap.size, 8, none⟩ = some (.slice x.us.a x.us.n x.us.c) := cell_at (j := 8) ((BB0.out.block _ (blk_lt HX.out)).trans HX.out) rfl
  have d7 : v0.cell? ⟨w.heap.size + 1, 7, none⟩ = some (.slice y.ev.a y.ev.n y.ev.c) := cell_at (j := 7) ((BB0.out.block _ (blk_lt HY.out)).trans HY.out) rfl
  have d8 : v0.cell? ⟨w.heap.size + 1, 8, none⟩ = some (.slice y.us.a y.us.n y.us.c) := cell_at (j := 8) ((BB0.out.block _ (blk_lt HY.out)).trans HY.out) rfl
  have hlw : w.heap.size + 1 < v0.heap.size := Nat.lt_of_lt_of_le (blk_lt HY.out) BB0.out.size

  go_wp2_with fail
  have hcall := few_calls v0 x.ev.a x.ev.c ex (HEX.out.below HV0.out rfl)
  cases hfew : fewB ex with
  | false =>
    rw [hfew] at hcall
    refine hcall.mono ?_
    rintro e v1 ⟨rfl, hb⟩
    have HV1 := Lib.hid (HV0.out.trans (hb.mono HV0.out.size))
    clear hb hcall hfew
    clear c7 c8 d7 d8
    go_wp2_with fail
    refine (awake_calls v1 (HM.out.below HV1.out HP.out)).mono ?_
    rintro e wz ⟨rfl, hbz⟩
    have HBZ := Lib.hid (HV1.out.trans (hbz.mono HV1.out.size))
    clear hbz
    go_wp2_with fail
    go_ret
    exact ⟨rfl, HBZ.out⟩
  | true =>
    rw [hfew] at hcall
    have HFW0 := Lib.hid hfew
    refine hcall.mono ?_
    rintro e v1 ⟨rfl, hb⟩
    have HV1 := Lib.hid (HV0.out.trans (hb.mono HV0.out.size))
    have BB1 := Lib.hid (BB0.out.trans (hb.mono BB0.out.size))
    clear hb hcall hfew c7 c8 d7 d8 hlw
    have c7 : v1.cell? ⟨w.heap.size, 7, none⟩ = some (.slice x.ev.a x.ev.n x.ev.c) := cell_at (j := 7) ((BB1.out.block _ (blk_lt HX.out)).trans HX.out) rfl
    have c8 : v1.cell? ⟨w.heap.size, 8, none⟩ = some (.slice x.us.a x.us.n x.us.c) := cell_at (j := 8) ((BB1.out.block _ (blk_lt HX.out)).trans HX.out) rfl
    have d7 : v1.cell? ⟨w.heap.size + 1, 7, none⟩ = some (.slice y.ev.a y.ev.n y.ev.c) := cell_at (j := 7) ((BB1.out.block _ (blk_lt HY.out)).trans HY.out) rfl
    have d8 : v1.cell? ⟨w.heap.size + 1, 8, none⟩ = some (.slice y.us.a y.us.n y.us.c) := cell_at (j := 8) ((BB1.out.block _ (blk_lt HY.out)).trans HY.out) rfl
    have hlw : w.heap.size + 1 < v1.heap.size := Nat.lt_of_lt_of_le (blk_lt HY.out) BB1.out.size
    go_wp2_with fail
    have hcall := few_calls v1 x.us.a x.us.c ux (HUX.out.below HV1.out rfl)
    cases hfew : fewB ux with
    | false =>
      rw [hfew] at hcall
      refine hcall.mono ?_
      rintro e v2 ⟨rfl, hb⟩
      have HV2 := Lib.hid (HV1.out.trans (hb.mono HV1.out.size))
      clear hb hcall hfew
      clear c7 c8 d7 d8
      go_wp2_with fail
      refine (awake_calls v2 (HM.out.below HV2.out HP.out)).mono ?_
      rintro e wz ⟨rfl, hbz⟩
      have HBZ := Lib.hid (HV2.out.trans (hbz.mono HV2.out.size))
      clear hbz
      go_wp2_with fail
      go_ret
      exact ⟨rfl, HBZ.out⟩
    | true =>
      rw [hfew] at hcall
      have HFW1 := Lib.hid hfew
      refine hcall.mono ?_
      rintro e v2 ⟨rfl, hb⟩
      have HV2 := Lib.hid (HV1.out.trans (hb.mono HV1.out.size))
      have BB2 := Lib.hid (BB1.out.trans (hb.mono BB1.out.size))
      clear hb hcall hfew c7 c8 d7 d8 hlw
      have c7 : v2.cell? ⟨w.heap.size, 7, none⟩ = some (.slice x.ev.a x.ev.n x.ev.c) := cell_at (j := 7) ((BB2.out.block _ (blk_lt HX.out)).trans HX.out) rfl
      have c8 : v2.cell? ⟨w.heap.size, 8, none⟩ = some (.slice x.us.a x.us.n x.us.c) := cell_at (j := 8) ((BB2.out.block _ (blk_lt HX.out)).trans HX.out) rfl
      have d7 : v2.cell? ⟨w.heap.size + 1, 7, none⟩ = some (.slice y.ev.a y.ev.n y.ev.c) := cell_at (j := 7) ((BB2.out.block _ (blk_lt HY.out)).trans HY.out) rfl
      have d8 : v2.cell? ⟨w.heap.size + 1, 8, none⟩ = some (.slice y.us.a y.us.n y.us.c) := cell_at (j := 8) ((BB2.out.block _ (blk_lt HY.out)).trans HY.out) rfl
      have hlw : w.heap.size + 1 < v2.heap.size := Nat.lt_of_lt_of_le (blk_lt HY.out) BB2.out.size
      go_wp2_with fail
      have hcall := few_calls v2 y.ev.a y.ev.c ey (HEY.out.below HV2.out rfl)
      cases hfew : fewB ey with
      | false =>
        rw [hfew] at hcall
        refine hcall.mono ?_
        rintro e v3 ⟨rfl, hb⟩
        have HV3 := Lib.hid (HV2.out.trans (hb.mono HV2.out.size))
        clear hb hcall hfew
        clear c7 c8 d7 d8
        go_wp2_with fail
        refine (awake_calls v3 (HM.out.below HV3.out HP.out)).mono ?_
        rintro e wz ⟨rfl, hbz⟩
        have HBZ := Lib.hid (HV3.out.trans (hbz.mono HV3.out.size))
        clear hbz
        go_wp2_with fail
        go_ret
        exact ⟨rfl, HBZ.out⟩
      | true =>
        rw [hfew] at hcall
        have HFW2 := Lib.hid hfew
        refine hcall.mono ?_
        rintro e v3 ⟨rfl, hb⟩
        have HV3 := Lib.hid (HV2.out.trans (hb.mono HV2.out.size))
        have BB3 := Lib.hid (BB2.out.trans (hb.mono BB2.out.size))
        clear hb hcall hfew c7 c8 d7 d8 hlw
        have c7 : v3.cell? ⟨w.heap.size, 7, none⟩ = some (.slice x.ev.a x.ev.n x.ev.c) := cell_at (j := 7) ((BB3.out.block _ (blk_lt HX.out)).trans HX.out) rfl
        have c8 : v3.cell? ⟨w.heap.size, 8, none⟩ = some (.slice x.us.a x.us.n x.us.c) := cell_at (j := 8) ((BB3.out.block _ (blk_lt HX.out)).trans HX.out) rfl
        have d7 : v3.cell? ⟨w.heap.size + 1, 7, none⟩ = some (.slice y.ev.a y.ev.n y.ev.c) := cell_at (j := 7) ((BB3.out.block _ (blk_lt HY.out)).trans HY.out) rfl
        have d8 : v3.cell? ⟨w.heap.size + 1, 8, none⟩ = some (.slice y.us.a y.us.n y.us.c) := cell_at (j := 8) ((BB3.out.block _ (blk_lt HY.out)).trans HY.out) rfl
        have hlw : w.heap.size + 1 < v3.heap.size := Nat.lt_of_lt_of_le (blk_lt HY.out) BB3.out.size
        go_wp2_with fail
        have hcall := few_calls v3 y.us.a y.us.c uy (HUY.out.below HV3.out rfl)
        cases hfew : fewB uy with
        | false =>
          rw [hfew] at hcall
          refine hcall.mono ?_
          rintro e v4 ⟨rfl, hb⟩
          have HV4 := Lib.hid (HV3.out.trans (hb.mono HV3.out.size))
          clear hb hcall hfew
          clear c7 c8 d7 d8
          go_wp2_with fail
          refine (awake_calls v4 (HM.out.below HV4.out HP.out)).mono ?_
          rintro e wz ⟨rfl, hbz⟩
          have HBZ := Lib.hid (HV4.out.trans (hbz.mono HV4.out.size))
          clear hbz
          go_wp2_with fail
          go_ret
          exact ⟨rfl, HBZ.out⟩
        | true =>
          rw [hfew] at hcall
          have HFW3 := Lib.hid hfew
          refine hcall.mono ?_
          rintro e v4 ⟨rfl, hb⟩
          have HV4 := Lib.hid (HV3.out.trans (hb.mono HV3.out.size))
          have BB4 := Lib.hid (BB3.out.trans (hb.mono BB3.out.size))
          clear hb hcall hfew c7 c8 d7 d8 hlw
          have c7 : v4.cell? ⟨w.heap.size, 7, none⟩ = some (.slice x.ev.a x.ev.n x.ev.c) := cell_at (j := 7) ((BB4.out.block _ (blk_lt HX.out)).trans HX.out) rfl
          have c8 : v4.cell? ⟨w.heap.size, 8, none⟩ = some (.slice x.us.a x.us.n x.us.c) := cell_at (j := 8) ((BB4.out.block _ (blk_lt HX.out)).trans HX.out) rfl
          have d7 : v4.cell? ⟨w.heap.size + 1, 7, none⟩ = some (.slice y.ev.a y.ev.n y.ev.c) := cell_at (j := 7) ((BB4.out.block _ (blk_lt HY.out)).trans HY.out) rfl
          have d8 : v4.cell? ⟨w.heap.size + 1, 8, none⟩ = some (.slice y.us.a y.us.n y.us.c) := cell_at (j := 8) ((BB4.out.block _ (blk_lt HY.out)).trans HY.out) rfl
          have hlw : w.heap.size + 1 < v4.heap.size := Nat.lt_of_lt_of_le (blk_lt HY.out) BB4.out.size
          by_cases hbl : 100 < by_.size
          · have hn2 : decide ((100 : Int) < by_.size) = true := by simp; omega
            clear c7 c8 d7 d8
            go_wp2_with fail
            refine (awake_calls v4 (HM.out.below HV4.out HP.out)).mono ?_
            rintro e wz ⟨rfl, hbz⟩
            have HBZ := Lib.hid (HV4.out.trans (hbz.mono HV4.out.size))
            clear hbz
            go_wp2_with fail
            go_ret
            exact ⟨rfl, HBZ.out⟩
          · have hn2 : decide ((100 : Int) < by_.size) = false := by simp; omega
            clear hbl
            go_wp2_with fail
            refine (rising_calls v4 x.ev.a x.ev.c ex (HEX.out.below HV4.out rfl)).mono ?_
            rintro e v5 ⟨hsome, hb⟩
            obtain ⟨rb, rfl, hrise⟩ := hsome
            have HRS4 := Lib.hid hrise
            have HV5 := Lib.hid (HV4.out.trans (hb.mono HV4.out.size))
            have BB5 := Lib.hid (BB4.out.trans (hb.mono BB4.out.size))
            clear hb hrise c7 c8 d7 d8 hlw
            have c7 : v5.cell? ⟨w.heap.size, 7, none⟩ = some (.slice x.ev.a x.ev.n x.ev.c) := cell_at (j := 7) ((BB5.out.block _ (blk_lt HX.out)).trans HX.out) rfl
            have c8 : v5.cell? ⟨w.heap.size, 8, none⟩ = some (.slice x.us.a x.us.n x.us.c) := cell_at (j := 8) ((BB5.out.block _ (blk_lt HX.out)).trans HX.out) rfl
            have d7 : v5.cell? ⟨w.heap.size + 1, 7, none⟩ = some (.slice y.ev.a y.ev.n y.ev.c) := cell_at (j := 7) ((BB5.out.block _ (blk_lt HY.out)).trans HY.out) rfl
            have d8 : v5.cell? ⟨w.heap.size + 1, 8, none⟩ = some (.slice y.us.a y.us.n y.us.c) := cell_at (j := 8) ((BB5.out.block _ (blk_lt HY.out)).trans HY.out) rfl
            have hlw : w.heap.size + 1 < v5.heap.size := Nat.lt_of_lt_of_le (blk_lt HY.out) BB5.out.size
            cases rb with
            | false =>
              clear c7 c8 d7 d8
              go_wp2_with fail
              refine (awake_calls v5 (HM.out.below HV5.out HP.out)).mono ?_
              rintro e wz ⟨rfl, hbz⟩
              have HBZ := Lib.hid (HV5.out.trans (hbz.mono HV5.out.size))
              clear hbz
              go_wp2_with fail
              go_ret
              exact ⟨rfl, HBZ.out⟩
            | true =>
              go_wp2_with fail
              refine (rising_calls v5 x.us.a x.us.c ux (HUX.out.below HV5.out rfl)).mono ?_
              rintro e v6 ⟨hsome, hb⟩
              obtain ⟨rb, rfl, hrise⟩ := hsome
              have HRS5 := Lib.hid hrise
              have HV6 := Lib.hid (HV5.out.trans (hb.mono HV5.out.size))
              have BB6 := Lib.hid (BB5.out.trans (hb.mono BB5.out.size))
              clear hb hrise c7 c8 d7 d8 hlw
              have c7 : v6.cell? ⟨w.heap.size, 7, none⟩ = some (.slice x.ev.a x.ev.n x.ev.c) := cell_at (j := 7) ((BB6.out.block _ (blk_lt HX.out)).trans HX.out) rfl
              have c8 : v6.cell? ⟨w.heap.size, 8, none⟩ = some (.slice x.us.a x.us.n x.us.c) := cell_at (j := 8) ((BB6.out.block _ (blk_lt HX.out)).trans HX.out) rfl
              have d7 : v6.cell? ⟨w.heap.size + 1, 7, none⟩ = some (.slice y.ev.a y.ev.n y.ev.c) := cell_at (j := 7) ((BB6.out.block _ (blk_lt HY.out)).trans HY.out) rfl
              have d8 : v6.cell? ⟨w.heap.size + 1, 8, none⟩ = some (.slice y.us.a y.us.n y.us.c) := cell_at (j := 8) ((BB6.out.block _ (blk_lt HY.out)).trans HY.out) rfl
              have hlw : w.heap.size + 1 < v6.heap.size := Nat.lt_of_lt_of_le (blk_lt HY.out) BB6.out.size
              cases rb with
              | false =>
                clear c7 c8 d7 d8
                go_wp2_with fail
                refine (awake_calls v6 (HM.out.below HV6.out HP.out)).mono ?_
                rintro e wz ⟨rfl, hbz⟩
                have HBZ := Lib.hid (HV6.out.trans (hbz.mono HV6.out.size))
                clear hbz
                go_wp2_with fail
                go_ret
                exact ⟨rfl, HBZ.out⟩
              | true =>
                go_wp2_with fail
                refine (rising_calls v6 y.ev.a y.ev.c ey (HEY.out.below HV6.out rfl)).mono ?_
                rintro e v7 ⟨hsome, hb⟩
                obtain ⟨rb, rfl, hrise⟩ := hsome
                have HRS6 := Lib.hid hrise
                have HV7 := Lib.hid (HV6.out.trans (hb.mono HV6.out.size))
                have BB7 := Lib.hid (BB6.out.trans (hb.mono BB6.out.size))
                clear hb hrise c7 c8 d7 d8 hlw
                have c7 : v7.cell? ⟨w.heap.size, 7, none⟩ = some (.slice x.ev.a x.ev.n x.ev.c) := cell_at (j := 7) ((BB7.out.block _ (blk_lt HX.out)).trans HX.out) rfl
                have c8 : v7.cell? ⟨w.heap.size, 8, none⟩ = some (.slice x.us.a x.us.n x.us.c) := cell_at (j := 8) ((BB7.out.block _ (blk_lt HX.out)).trans HX.out) rfl
                have d7 : v7.cell? ⟨w.heap.size + 1, 7, none⟩ = some (.slice y.ev.a y.ev.n y.ev.c) := cell_at (j := 7) ((BB7.out.block _ (blk_lt HY.out)).trans HY.out) rfl
                have d8 : v7.cell? ⟨w.heap.size + 1, 8, none⟩ = some (.slice y.us.a y.us.n y.us.c) := cell_at (j := 8) ((BB7.out.block _ (blk_lt HY.out)).trans HY.out) rfl
                have hlw : w.heap.size + 1 < v7.heap.size := Nat.lt_of_lt_of_le (blk_lt HY.out) BB7.out.size
                cases rb with
                | false =>
                  clear c7 c8 d7 d8
                  go_wp2_with fail
                  refine (awake_calls v7 (HM.out.below HV7.out HP.out)).mono ?_
                  rintro e wz ⟨rfl, hbz⟩
                  have HBZ := Lib.hid (HV7.out.trans (hbz.mono HV7.out.size))
                  clear hbz
                  go_wp2_with fail
                  go_ret
                  exact ⟨rfl, HBZ.out⟩
                | true =>
                  go_wp2_with fail
                  refine (rising_calls v7 y.us.a y.us.c uy (HUY.out.below HV7.out rfl)).mono ?_
                  rintro e v8 ⟨hsome, hb⟩
                  obtain ⟨rb, rfl, hrise⟩ := hsome
                  have HRS7 := Lib.hid hrise
                  have HV8 := Lib.hid (HV7.out.trans (hb.mono HV7.out.size))
                  have BB8 := Lib.hid (BB7.out.trans (hb.mono BB7.out.size))
                  clear hb hrise c7 c8 d7 d8 hlw
                  have c7 : v8.cell? ⟨w.heap.size, 7, none⟩ = some (.slice x.ev.a x.ev.n x.ev.c) := cell_at (j := 7) ((BB8.out.block _ (blk_lt HX.out)).trans HX.out) rfl
                  have c8 : v8.cell? ⟨w.heap.size, 8, none⟩ = some (.slice x.us.a x.us.n x.us.c) := cell_at (j := 8) ((BB8.out.block _ (blk_lt HX.out)).trans HX.out) rfl
                  have d7 : v8.cell? ⟨w.heap.size + 1, 7, none⟩ = some (.slice y.ev.a y.ev.n y.ev.c) := cell_at (j := 7) ((BB8.out.block _ (blk_lt HY.out)).trans HY.out) rfl
                  have d8 : v8.cell? ⟨w.heap.size + 1, 8, none⟩ = some (.slice y.us.a y.us.n y.us.c) := cell_at (j := 8) ((BB8.out.block _ (blk_lt HY.out)).trans HY.out) rfl
                  have hlw : w.heap.size + 1 < v8.heap.size := Nat.lt_of_lt_of_le (blk_lt HY.out) BB8.out.size
                  cases rb with
                  | false =>
                    clear c7 c8 d7 d8
                    go_wp2_with fail
                    refine (awake_calls v8 (HM.out.below HV8.out HP.out)).mono ?_
                    rintro e wz ⟨rfl, hbz⟩
                    have HBZ := Lib.hid (HV8.out.trans (hbz.mono HV8.out.size))
                    clear hbz
                    go_wp2_with fail
                    go_ret
                    exact ⟨rfl, HBZ.out⟩
                  | true =>
                    go_upto_region 3 with fail
                    clear c7 c8 d7 d8 hlw
                    have HNM := Lib.hid (names_few HFW0.out HFW1.out HFW2.out HFW3.out)
                    obtain ⟨ER, hER0⟩ : ∃ ER, ER = docs by_ ((findN ux by_).getD x.n6) (realLv x noSl noSl) (realLv y noSl noSl) ex ux ey uy pts := ⟨_, rfl⟩
                    have HER := Lib.hid hER0
                    clear hER0
                    go_cut [7] (fun c7 wx => ErrV wx (fun g => v8.heap.size ≤ g) c7 ER ∧ Below v8.heap.size v8 wx)
                    case first =>
                      refine wt_start (S := fun W => Below v8.heap.size v8 W) 6 (by kernel_rfl) ⟨by kernel_rfl, by kernel_rfl, by kernel_rfl, by decide⟩ ?_
                      intro HTK
                      have S0 := Lib.hid (show Below v8.heap.size v8 v8.drew from (Below.refl _ _).drew)
                      have hX8 := (BB8.out.block _ (blk_lt HX.out)).trans HX.out
                      have hY8 := (BB8.out.block _ (blk_lt HY.out)).trans HY.out
                      refine wt_take (i := 0) (v := .agg x.cells) HTK.out rfl (by decide) (by kernel_rfl) (by kernel_rfl) (fun _ _ _ h => h) (by exact S0.out) (yieldsIf_load_at (by rfl) _ _ (by rfl) _ (by rfl) x.cells _ (fun W hSw => (Holds.of_block hX8).below hSw (by exact blk_lt hX8)) Tryz.underlying25 (by rfl) (sizeL9 _)) ?_
                      try simp only [List.getElem_toArray, List.getElem_cons_zero, List.getElem_cons_succ, Act.put, List.setIfInBounds_toArray, List.set_cons_zero, List.set_cons_succ]
                      refine wt_take (i := 2) (v := .agg y.cells) HTK.out rfl (by decide) (by kernel_rfl) (by kernel_rfl) (fun _ _ _ h => h) (by exact S0.out) (yieldsIf_load_at (by rfl) _ _ (by rfl) _ (by rfl) y.cells _ (fun W hSw => (Holds.of_block hY8).below hSw (by exact blk_lt hY8)) Tryz.underlying25 (by rfl) (sizeL9 _)) ?_
                      try simp only [List.getElem_toArray, List.getElem_cons_zero, List.getElem_cons_succ, Act.put, List.setIfInBounds_toArray, List.set_cons_zero, List.set_cons_succ]
                      refine wt_take (i := 4) (v := ?_) HTK.out rfl (by decide) (by kernel_rfl) (by kernel_rfl) (fun _ _ _ h => h) (by exact S0.out) (Or.inl ⟨by rfl, ?_⟩) ?_
                      rotate_left
                      · intro W hSw
                        try dsimp only at hSw
                        go_simp
                        try (with_reducible rfl)
                      try simp only [List.getElem_toArray, List.getElem_cons_zero, List.getElem_cons_succ, Act.put, List.setIfInBounds_toArray, List.set_cons_zero, List.set_cons_succ]
                      refine wt_ready (rs := [1]) (by kernel_rfl) (by simp) ?_
                      refine AllT.cons rfl (by decide) (fun K hK => ?_) ?_
                      · go_simp
                        go_at_call 8
                        refine (real_calls _ x ex ux (HEX0.out.below (HV8.out.trans (S0.out.mono HV8.out.size)) rfl) (HUX0.out.below (HV8.out.trans (S0.out.mono HV8.out.size)) rfl) (few_len HFW0.out) (few_len HFW1.out)).mono ?_
                        rintro e q1 ⟨ae, au, rfl, hr1, hr2, hbz⟩
                        have S1 := Lib.hid (S0.out.trans (hbz.mono S0.out.size))
                        have HRa := Lib.hid (⟨hr1.mono (fun g _ hg => Nat.le_trans S0.out.size hg), hr2.mono (fun g _ hg => Nat.le_trans S0.out.size hg)⟩ : RowOf q1 (fun g => v8.heap.size ≤ g) 91 2 ae (ncells ex) ∧ RowOf q1 (fun g => v8.heap.size ≤ g) 91 2 au (ncells ux))
                        clear hr1 hr2 hbz
                        refine hK.out _ _ (by exact S1.out) ?_
                        clear hK K
                        try simp only [List.getElem_toArray, List.getElem_cons_zero, List.getElem_cons_succ, Act.put, List.setIfInBounds_toArray, List.set_cons_zero, List.set_cons_succ]
                        refine wt_ready (rs := [3]) (by kernel_rfl) (by simp) ?_
                        refine AllT.cons rfl (by decide) (fun K hK => ?_) ?_
                        · go_simp
                          go_at_call 8
                          refine (real_calls _ y ey uy (HEY0.out.below (HV8.out.trans (S1.out.mono HV8.out.size)) rfl) (HUY0.out.below (HV8.out.trans (S1.out.mono HV8.out.size)) rfl) (few_len HFW2.out) (few_len HFW3.out)).mono ?_
                          rintro e q2 ⟨be, bu, rfl, hr1, hr2, hbz⟩
                          have S2 := Lib.hid (S1.out.trans (hbz.mono S1.out.size))
                          have HRb := Lib.hid (⟨hr1.mono (fun g _ hg => Nat.le_trans S1.out.size hg), hr2.mono (fun g _ hg => Nat.le_trans S1.out.size hg)⟩ : RowOf q2 (fun g => v8.heap.size ≤ g) 91 2 be (ncells ey) ∧ RowOf q2 (fun g => v8.heap.size ≤ g) 91 2 bu (ncells uy))
                          replace HRa := Lib.hid (And.intro (HRa.out.1.same hbz.size (fun g hg _ => hbz.block g hg)) (HRa.out.2.same hbz.size (fun g hg _ => hbz.block g hg)))
                          clear hr1 hr2 hbz
                          refine hK.out _ _ (by exact S2.out) ?_
                          clear hK K
                          try simp only [List.getElem_toArray, List.getElem_cons_zero, List.getElem_cons_succ, Act.put, List.setIfInBounds_toArray, List.set_cons_zero, List.set_cons_succ]
                          refine wt_ready (rs := [5]) (by kernel_rfl) (by simp) ?_
                          refine AllT.cons rfl (by decide) (fun K hK => ?_) ?_
                          · go_simp
                            go_at_call 7
                            refine (change_calls _ (realLv x ae au) (realLv y be bu) by_ _ ex ux ey uy HRa.out.1 HRa.out.2 HRb.out.1 HRb.out.2 (by have := few_20 HFW0.out; have := few_20 HFW2.out; omega) (by have := few_20 HFW1.out; have := few_20 HFW3.out; omega)).mono ?_
                            rintro e q3 ⟨v, er, rfl, hch, herr, hbz⟩
                            have S3 := Lib.hid (S2.out.trans (hbz.mono S2.out.size))
                            have her := che_docs hch
                            clear hch
                            have herr2 := herr.mono (Q := fun g => v8.heap.size ≤ g) (fun g _ hg => Nat.le_trans S2.out.size hg)
                            have hER : er = ER := by rw [HER.out, her]; exact docs_real _ _ _ _ _ _ _ _ _ _ _ _
                            rw [hER] at herr2
                            have HERR := Lib.hid herr2
                            clear her hER herr herr2 hbz
                            refine hK.out _ _ (by exact S3.out) ?_
                            clear hK K
                            try simp only [List.getElem_toArray, List.getElem_cons_zero, List.getElem_cons_succ, Act.put, List.setIfInBounds_toArray, List.set_cons_zero, List.set_cons_succ]
                            refine wt_last (k := 6) (by kernel_rfl) (by kernel_rfl) (by decide) rfl (fun K hK => ?_)
                            go_simp
                            refine hK.out _ _ ?_
                            clear hK K
                            try simp only [List.getElem_toArray, List.getElem_cons_zero, List.getElem_cons_succ, Act.put, List.setIfInBounds_toArray, List.set_cons_zero, List.set_cons_succ]
                            go_wp2_with fail
                            go_meet
                            exact ⟨HERR.out, S3.out⟩
                          exact AllT.nil
                        exact AllT.nil
                      exact AllT.nil
                    case rest =>
                      obtain ⟨herr, hbc⟩ := hcut
                      have HVC := Lib.hid (HV8.out.trans (hbc.mono HV8.out.size))
                      have hbbc := BB8.out.trans (hbc.mono BB8.out.size)
                      have hXC := (hbbc.block _ (blk_lt HX.out)).trans HX.out
                      have hYC := (hbbc.block _ (blk_lt HY.out)).trans HY.out
                      have hlxc := blk_lt hXC
                      have hlyc := blk_lt hYC
                      obtain ⟨cc, ss, hform⟩ := e_form ER
                      have HTELL := Lib.hid (show ∀ W, Below wc.heap.size wc W → Calls Tryz.prog 9 #[u7] W fun e w' => e = .returned (.agg #[.int .i64 cc, .int .i64 (-1), .string ss]) ∧ Below W.heap.size W w' from fun W hW => by
                        rw [← hform]
                        exact tell_calls W _ u7 ER (herr.below hW) (HET.out.below (HVC.out.trans (hW.mono HVC.out.size)) HETP.out) (by rw [HER.out]; exact docs_short _ _ _ _ _ _ _ _ HNM.out))
                      have HRCH := Lib.hid (show ∀ W, Below wc.heap.size wc W → Calls Tryz.prog 10 #[.agg x.cells, .agg y.cells, .string by_] W fun e w' => e = .returned (.agg #[.int .i64 cc, .int .i64 (-1), .string ss]) ∧ Below W.heap.size W w' from fun W hW => by
                        have hw := HVC.out.trans (hW.mono HVC.out.size)
                        have := rchange_calls W x y by_ ex ux ey uy (HEX0.out.below hw rfl) (HUX0.out.below hw rfl) (HEY0.out.below hw rfl) (HUY0.out.below hw rfl) (by have := few_20 HFW0.out; have := few_20 HFW2.out; omega) (by have := few_20 HFW1.out; have := few_20 HFW3.out; omega) HNM.out
                        rw [← HER.out] at this
                        rw [← hform]
                        exact this)
                      clear hform herr hbc hbbc
                      go_upto_region 4 with fail
                      refine wt_start (S := fun W => Below wc.heap.size wc W) 25 (by kernel_rfl) ⟨by kernel_rfl, by kernel_rfl, by kernel_rfl, by decide⟩ ?_
                      intro HTK
                      have S0 := Lib.hid (show Below wc.heap.size wc wc.drew from (Below.refl _ _).drew)
                      refine wt_take (i := 0) (v := ?_) HTK.out rfl (by decide) (by kernel_rfl) (by kernel_rfl) (fun _ _ _ h => h) (by exact S0.out) (Or.inl ⟨by rfl, ?_⟩) ?_
                      rotate_left
                      · intro W hSw
                        try dsimp only at hSw
                        go_simp
                        try (with_reducible rfl)
                      try simp only [List.getElem_toArray, List.getElem_cons_zero, List.getElem_cons_succ, Act.put, List.setIfInBounds_toArray, List.set_cons_zero, List.set_cons_succ]
                      refine wt_take (i := 2) (v := .agg x.cells) HTK.out rfl (by decide) (by kernel_rfl) (by kernel_rfl) (fun _ _ _ h => h) (by exact S0.out) (yieldsIf_load_at (by rfl) _ _ (by rfl) _ (by rfl) x.cells _ (fun W hSw => (Holds.of_block hXC).below hSw (by exact hlxc)) Tryz.underlying25 (by rfl) (sizeL9 _)) ?_
                      try simp only [List.getElem_toArray, List.getElem_cons_zero, List.getElem_cons_succ, Act.put, List.setIfInBounds_toArray, List.set_cons_zero, List.set_cons_succ]
                      refine wt_take (i := 3) (v := .agg y.cells) HTK.out rfl (by decide) (by kernel_rfl) (by kernel_rfl) (fun _ _ _ h => h) (by exact S0.out) (yieldsIf_load_at (by rfl) _ _ (by rfl) _ (by rfl) y.cells _ (fun W hSw => (Holds.of_block hYC).below hSw (by exact hlyc)) Tryz.underlying25 (by rfl) (sizeL9 _)) ?_
                      try simp only [List.getElem_toArray, List.getElem_cons_zero, List.getElem_cons_succ, Act.put, List.setIfInBounds_toArray, List.set_cons_zero, List.set_cons_succ]
                      refine wt_take (i := 4) (v := ?_) HTK.out rfl (by decide) (by kernel_rfl) (by kernel_rfl) (fun _ _ _ h => h) (by exact S0.out) (Or.inl ⟨by rfl, ?_⟩) ?_
                      rotate_left
                      · intro W hSw
                        try dsimp only at hSw
                        go_simp
                        try (with_reducible rfl)
                      try simp only [List.getElem_toArray, List.getElem_cons_zero, List.getElem_cons_succ, Act.put, List.setIfInBounds_toArray, List.set_cons_zero, List.set_cons_succ]
                      refine wt_ready (rs := [1]) (by kernel_rfl) (by simp) ?_
                      refine AllT.cons rfl (by decide) (fun K hK => ?_) ?_
                      · go_simp
                        go_at_call 9
                        refine (HTELL.out _ S0.out).mono ?_
                        rintro e r1 ⟨rfl, hbz⟩
                        have S1 := Lib.hid (S0.out.trans (hbz.mono S0.out.size))
                        clear hbz
                        refine hK.out _ _ (by exact S1.out) ?_
                        clear hK K
                        try simp only [List.getElem_toArray, List.getElem_cons_zero, List.getElem_cons_succ, Act.put, List.setIfInBounds_toArray, List.set_cons_zero, List.set_cons_succ]
                        refine wt_ready (rs := [5]) (by kernel_rfl) (by simp) ?_
                        refine AllT.cons rfl (by decide) (fun K hK => ?_) ?_
                        · go_simp
                          go_at_call 10
                          refine (HRCH.out _ S1.out).mono ?_
                          rintro e r2 ⟨rfl, hbz⟩
                          have S2 := Lib.hid (S1.out.trans (hbz.mono S1.out.size))
                          clear hbz
                          refine hK.out _ _ (by exact S2.out) ?_
                          clear hK K
                          try simp only [List.getElem_toArray, List.getElem_cons_zero, List.getElem_cons_succ, Act.put, List.setIfInBounds_toArray, List.set_cons_zero, List.set_cons_succ]
                          refine wt_take (i := 6) (v := ?_) HTK.out rfl (by decide) (by kernel_rfl) (by kernel_rfl) (fun _ _ _ h => h) (by exact S2.out) (Or.inl ⟨by rfl, ?_⟩) ?_
                          rotate_left
                          · intro W hSw
                            try dsimp only at hSw
                            go_simp
                            try (with_reducible rfl)
                          try simp only [List.getElem_toArray, List.getElem_cons_zero, List.getElem_cons_succ, Act.put, List.setIfInBounds_toArray, List.set_cons_zero, List.set_cons_succ]
                          refine wt_take (i := 7) (v := ?_) HTK.out rfl (by decide) (by kernel_rfl) (by kernel_rfl) (fun _ _ _ h => h) (by exact S2.out) (Or.inl ⟨by rfl, ?_⟩) ?_
                          rotate_left
                          · intro W hSw
                            try dsimp only at hSw
                            go_simp
                            try (with_reducible rfl)
                          try simp only [List.getElem_toArray, List.getElem_cons_zero, List.getElem_cons_succ, Act.put, List.setIfInBounds_toArray, List.set_cons_zero, List.set_cons_succ]
                          refine wt_take (i := 8) (v := .agg x.cells) HTK.out rfl (by decide) (by kernel_rfl) (by kernel_rfl) (fun _ _ _ h => h) (by exact S2.out) (yieldsIf_load_at (by rfl) _ _ (by rfl) _ (by rfl) x.cells _ (fun W hSw => (Holds.of_block hXC).below hSw (by exact hlxc)) Tryz.underlying25 (by rfl) (sizeL9 _)) ?_
                          try simp only [List.getElem_toArray, List.getElem_cons_zero, List.getElem_cons_succ, Act.put, List.setIfInBounds_toArray, List.set_cons_zero, List.set_cons_succ]
                          refine wt_take (i := 10) (v := .agg x.cells) HTK.out rfl (by decide) (by kernel_rfl) (by kernel_rfl) (fun _ _ _ h => h) (by exact S2.out) (yieldsIf_load_at (by rfl) _ _ (by rfl) _ (by rfl) x.cells _ (fun W hSw => (Holds.of_block hXC).below hSw (by exact hlxc)) Tryz.underlying25 (by rfl) (sizeL9 _)) ?_
                          try simp only [List.getElem_toArray, List.getElem_cons_zero, List.getElem_cons_succ, Act.put, List.setIfInBounds_toArray, List.set_cons_zero, List.set_cons_succ]
                          refine wt_take (i := 12) (v := ?_) HTK.out rfl (by decide) (by kernel_rfl) (by kernel_rfl) (fun _ _ _ h => h) (by exact S2.out) (Or.inl ⟨by rfl, ?_⟩) ?_
                          rotate_left
                          · intro W hSw
                            try dsimp only at hSw
                            go_simp
                            try (with_reducible rfl)
                          try simp only [List.getElem_toArray, List.getElem_cons_zero, List.getElem_cons_succ, Act.put, List.setIfInBounds_toArray, List.set_cons_zero, List.set_cons_succ]
                          refine wt_ready (rs := [9]) (by kernel_rfl) (by simp) ?_
                          refine AllT.cons rfl (by decide) (fun K hK => ?_) ?_
                          · go_simp
                            go_at_call 8
                            refine (real_calls _ x ex ux (HEX0.out.below (HVC.out.trans (S2.out.mono HVC.out.size)) rfl) (HUX0.out.below (HVC.out.trans (S2.out.mono HVC.out.size)) rfl) (few_len HFW0.out) (few_len HFW1.out)).mono ?_
                            rintro e r3 ⟨ce, cu, rfl, hr1, hr2, hbz⟩
                            have S3 := Lib.hid (S2.out.trans (hbz.mono S2.out.size))
                            have HRc := Lib.hid (⟨hr1.mono (fun g _ hg => Nat.le_trans S2.out.size hg), hr2.mono (fun g _ hg => Nat.le_trans S2.out.size hg)⟩ : RowOf r3 (fun g => wc.heap.size ≤ g) 91 2 ce (ncells ex) ∧ RowOf r3 (fun g => wc.heap.size ≤ g) 91 2 cu (ncells ux))
                            clear hr1 hr2 hbz
                            refine hK.out _ _ (by exact S3.out) ?_
                            clear hK K
                            try simp only [List.getElem_toArray, List.getElem_cons_zero, List.getElem_cons_succ, Act.put, List.setIfInBounds_toArray, List.set_cons_zero, List.set_cons_succ]
                            refine wt_ready (rs := [11]) (by kernel_rfl) (by simp) ?_
                            refine AllT.cons rfl (by decide) (fun K hK => ?_) ?_
                            · go_simp
                              go_at_call 8
                              refine (real_calls _ x ex ux (HEX0.out.below (HVC.out.trans (S3.out.mono HVC.out.size)) rfl) (HUX0.out.below (HVC.out.trans (S3.out.mono HVC.out.size)) rfl) (few_len HFW0.out) (few_len HFW1.out)).mono ?_
                              rintro e r4 ⟨c2e, c2u, rfl, hr1, hr2, hbz⟩
                              have S4 := Lib.hid (S3.out.trans (hbz.mono S3.out.size))
                              have HRc2 := Lib.hid (⟨hr1.mono (fun g _ hg => Nat.le_trans S3.out.size hg), hr2.mono (fun g _ hg => Nat.le_trans S3.out.size hg)⟩ : RowOf r4 (fun g => wc.heap.size ≤ g) 91 2 c2e (ncells ex) ∧ RowOf r4 (fun g => wc.heap.size ≤ g) 91 2 c2u (ncells ux))
                              replace HRc := Lib.hid (And.intro (HRc.out.1.same hbz.size (fun g hg _ => hbz.block g hg)) (HRc.out.2.same hbz.size (fun g hg _ => hbz.block g hg)))
                              clear hr1 hr2 hbz
                              refine hK.out _ _ (by exact S4.out) ?_
                              clear hK K
                              try simp only [List.getElem_toArray, List.getElem_cons_zero, List.getElem_cons_succ, Act.put, List.setIfInBounds_toArray, List.set_cons_zero, List.set_cons_succ]
                              refine wt_ready (rs := [13]) (by kernel_rfl) (by simp) ?_
                              refine AllT.cons rfl (by decide) (fun K hK => ?_) ?_
                              · go_simp
                                go_at_call 7
                                refine (change_calls _ (realLv x ce cu) (realLv x c2e c2u) by_ _ ex ux ex ux HRc.out.1 HRc.out.2 HRc2.out.1 HRc2.out.2 (by have := few_20 HFW0.out; have := few_20 HFW0.out; omega) (by have := few_20 HFW1.out; have := few_20 HFW1.out; omega)).mono ?_
                                rintro e r5 ⟨v, er, rfl, hch, herr, hbz⟩
                                have S5 := Lib.hid (S4.out.trans (hbz.mono S4.out.size))
                                have her := che_docs hch
                                clear hch
                                rw [docs_self _ _ _ _ _ _ (num_real x ce cu c2e c2u)] at her
                                rw [her] at herr
                                have hnil : v = .nilIface := herr
                                subst hnil
                                clear her herr hbz HRc HRc2
                                refine hK.out _ _ (by exact S5.out) ?_
                                clear hK K
                                try simp only [List.getElem_toArray, List.getElem_cons_zero, List.getElem_cons_succ, Act.put, List.setIfInBounds_toArray, List.set_cons_zero, List.set_cons_succ]
                                refine wt_take (i := 14) (v := ?_) HTK.out rfl (by decide) (by kernel_rfl) (by kernel_rfl) (fun _ _ _ h => h) (by exact S5.out) (Or.inl ⟨by rfl, ?_⟩) ?_
                                rotate_left
                                · intro W hSw
                                  try dsimp only at hSw
                                  go_simp
                                  try (with_reducible rfl)
                                try simp only [List.getElem_toArray, List.getElem_cons_zero, List.getElem_cons_succ, Act.put, List.setIfInBounds_toArray, List.set_cons_zero, List.set_cons_succ]
                                refine wt_take (i := 15) (v := ?_) HTK.out rfl (by decide) (by kernel_rfl) (by kernel_rfl) (fun _ _ _ h => h) (by exact S5.out) (Or.inl ⟨by rfl, ?_⟩) ?_
                                rotate_left
                                · intro W hSw
                                  try dsimp only at hSw
                                  go_simp
                                  try (with_reducible rfl)
                                try simp only [List.getElem_toArray, List.getElem_cons_zero, List.getElem_cons_succ, Act.put, List.setIfInBounds_toArray, List.set_cons_zero, List.set_cons_succ]
                                refine wt_take (i := 16) (v := ?_) HTK.out rfl (by decide) (by kernel_rfl) (by kernel_rfl) (fun _ _ _ h => h) (by exact S5.out) (Or.inl ⟨by rfl, ?_⟩) ?_
                                rotate_left
                                · intro W hSw
                                  try dsimp only at hSw
                                  go_simp
                                  try (with_reducible rfl)
                                try simp only [List.getElem_toArray, List.getElem_cons_zero, List.getElem_cons_succ, Act.put, List.setIfInBounds_toArray, List.set_cons_zero, List.set_cons_succ]
                                refine wt_take (i := 17) (v := .agg y.cells) HTK.out rfl (by decide) (by kernel_rfl) (by kernel_rfl) (fun _ _ _ h => h) (by exact S5.out) (yieldsIf_load_at (by rfl) _ _ (by rfl) _ (by rfl) y.cells _ (fun W hSw => (Holds.of_block hYC).below hSw (by exact hlyc)) Tryz.underlying25 (by rfl) (sizeL9 _)) ?_
                                try simp only [List.getElem_toArray, List.getElem_cons_zero, List.getElem_cons_succ, Act.put, List.setIfInBounds_toArray, List.set_cons_zero, List.set_cons_succ]
                                refine wt_take (i := 19) (v := .agg y.cells) HTK.out rfl (by decide) (by kernel_rfl) (by kernel_rfl) (fun _ _ _ h => h) (by exact S5.out) (yieldsIf_load_at (by rfl) _ _ (by rfl) _ (by rfl) y.cells _ (fun W hSw => (Holds.of_block hYC).below hSw (by exact hlyc)) Tryz.underlying25 (by rfl) (sizeL9 _)) ?_
                                try simp only [List.getElem_toArray, List.getElem_cons_zero, List.getElem_cons_succ, Act.put, List.setIfInBounds_toArray, List.set_cons_zero, List.set_cons_succ]
                                refine wt_take (i := 21) (v := ?_) HTK.out rfl (by decide) (by kernel_rfl) (by kernel_rfl) (fun _ _ _ h => h) (by exact S5.out) (Or.inl ⟨by rfl, ?_⟩) ?_
                                rotate_left
                                · intro W hSw
                                  try dsimp only at hSw
                                  go_simp
                                  try (with_reducible rfl)
                                try simp only [List.getElem_toArray, List.getElem_cons_zero, List.getElem_cons_succ, Act.put, List.setIfInBounds_toArray, List.set_cons_zero, List.set_cons_succ]
                                refine wt_ready (rs := [18]) (by kernel_rfl) (by simp) ?_
                                refine AllT.cons rfl (by decide) (fun K hK => ?_) ?_
                                · go_simp
                                  go_at_call 8
                                  refine (real_calls _ y ey uy (HEY0.out.below (HVC.out.trans (S5.out.mono HVC.out.size)) rfl) (HUY0.out.below (HVC.out.trans (S5.out.mono HVC.out.size)) rfl) (few_len HFW2.out) (few_len HFW3.out)).mono ?_
                                  rintro e r6 ⟨de, du, rfl, hr1, hr2, hbz⟩
                                  have S6 := Lib.hid (S5.out.trans (hbz.mono S5.out.size))
                                  have HRd := Lib.hid (⟨hr1.mono (fun g _ hg => Nat.le_trans S5.out.size hg), hr2.mono (fun g _ hg => Nat.le_trans S5.out.size hg)⟩ : RowOf r6 (fun g => wc.heap.size ≤ g) 91 2 de (ncells ey) ∧ RowOf r6 (fun g => wc.heap.size ≤ g) 91 2 du (ncells uy))
                                  clear hr1 hr2 hbz
                                  refine hK.out _ _ (by exact S6.out) ?_
                                  clear hK K
                                  try simp only [List.getElem_toArray, List.getElem_cons_zero, List.getElem_cons_succ, Act.put, List.setIfInBounds_toArray, List.set_cons_zero, List.set_cons_succ]
                                  refine wt_ready (rs := [20]) (by kernel_rfl) (by simp) ?_
                                  refine AllT.cons rfl (by decide) (fun K hK => ?_) ?_
                                  · go_simp
                                    go_at_call 8
                                    refine (real_calls _ y ey uy (HEY0.out.below (HVC.out.trans (S6.out.mono HVC.out.size)) rfl) (HUY0.out.below (HVC.out.trans (S6.out.mono HVC.out.size)) rfl) (few_len HFW2.out) (few_len HFW3.out)).mono ?_
                                    rintro e r7 ⟨d2e, d2u, rfl, hr1, hr2, hbz⟩
                                    have S7 := Lib.hid (S6.out.trans (hbz.mono S6.out.size))
                                    have HRd2 := Lib.hid (⟨hr1.mono (fun g _ hg => Nat.le_trans S6.out.size hg), hr2.mono (fun g _ hg => Nat.le_trans S6.out.size hg)⟩ : RowOf r7 (fun g => wc.heap.size ≤ g) 91 2 d2e (ncells ey) ∧ RowOf r7 (fun g => wc.heap.size ≤ g) 91 2 d2u (ncells uy))
                                    replace HRd := Lib.hid (And.intro (HRd.out.1.same hbz.size (fun g hg _ => hbz.block g hg)) (HRd.out.2.same hbz.size (fun g hg _ => hbz.block g hg)))
                                    clear hr1 hr2 hbz
                                    refine hK.out _ _ (by exact S7.out) ?_
                                    clear hK K
                                    try simp only [List.getElem_toArray, List.getElem_cons_zero, List.getElem_cons_succ, Act.put, List.setIfInBounds_toArray, List.set_cons_zero, List.set_cons_succ]
                                    refine wt_ready (rs := [22]) (by kernel_rfl) (by simp) ?_
                                    refine AllT.cons rfl (by decide) (fun K hK => ?_) ?_
                                    · go_simp
                                      go_at_call 7
                                      refine (change_calls _ (realLv y de du) (realLv y d2e d2u) by_ _ ey uy ey uy HRd.out.1 HRd.out.2 HRd2.out.1 HRd2.out.2 (by have := few_20 HFW2.out; have := few_20 HFW2.out; omega) (by have := few_20 HFW3.out; have := few_20 HFW3.out; omega)).mono ?_
                                      rintro e r8 ⟨v, er, rfl, hch, herr, hbz⟩
                                      have S8 := Lib.hid (S7.out.trans (hbz.mono S7.out.size))
                                      have her := che_docs hch
                                      clear hch
                                      rw [docs_self _ _ _ _ _ _ (num_real y de du d2e d2u)] at her
                                      rw [her] at herr
                                      have hnil : v = .nilIface := herr
                                      subst hnil
                                      clear her herr hbz HRd HRd2
                                      refine hK.out _ _ (by exact S8.out) ?_
                                      clear hK K
                                      try simp only [List.getElem_toArray, List.getElem_cons_zero, List.getElem_cons_succ, Act.put, List.setIfInBounds_toArray, List.set_cons_zero, List.set_cons_succ]
                                      refine wt_take (i := 23) (v := ?_) HTK.out rfl (by decide) (by kernel_rfl) (by kernel_rfl) (fun _ _ _ h => h) (by exact S8.out) (Or.inl ⟨by rfl, ?_⟩) ?_
                                      rotate_left
                                      · intro W hSw
                                        try dsimp only at hSw
                                        go_simp
                                        try (with_reducible rfl)
                                      try simp only [List.getElem_toArray, List.getElem_cons_zero, List.getElem_cons_succ, Act.put, List.setIfInBounds_toArray, List.set_cons_zero, List.set_cons_succ]
                                      refine wt_take (i := 24) (v := ?_) HTK.out rfl (by decide) (by kernel_rfl) (by kernel_rfl) (fun _ _ _ h => h) (by exact S8.out) (Or.inl ⟨by rfl, ?_⟩) ?_
                                      rotate_left
                                      · intro W hSw
                                        try dsimp only at hSw
                                        go_simp
                                        try (with_reducible rfl)
                                      try simp only [List.getElem_toArray, List.getElem_cons_zero, List.getElem_cons_succ, Act.put, List.setIfInBounds_toArray, List.set_cons_zero, List.set_cons_succ]
                                      refine wt_last (k := 25) (by kernel_rfl) (by kernel_rfl) (by decide) rfl (fun K hK => ?_)
                                      go_simp
                                      refine hK.out _ _ ?_
                                      clear hK K
                                      try simp only [List.getElem_toArray, List.getElem_cons_zero, List.getElem_cons_succ, Act.put, List.setIfInBounds_toArray, List.set_cons_zero, List.set_cons_succ]
                                      go_wp2_with fail
                                      go_ret
                                      exact ⟨rfl, HVC.out.trans (S8.out.mono HVC.out.size)⟩
                                    exact AllT.nil
                                  exact AllT.nil
                                exact AllT.nil
                              exact AllT.nil
                            exact AllT.nil
                          exact AllT.nil
                        exact AllT.nil
                      exact AllT.nil
end Go.Proofs.YtiehdfokcnphdaaGreatDoor
