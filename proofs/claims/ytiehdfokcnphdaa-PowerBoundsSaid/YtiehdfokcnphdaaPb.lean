/- PowerBounds, walked. -/
import Derived.Test.YtiehdfokcnphdaaBs
import Derived.Test.YtiehdfokcnphdaaAw
import Derived.Test.YtiehdfokcnphdaaLd
import Derived.Deep.DeepCutAuto
import Derived.Deep.Cut
set_option linter.unusedVariables false
set_option linter.unusedSimpArgs false
namespace Go.Proofs.Ytiehdfokcnphdaa
open Go.RowKit Go.Shelf Go.Sort

theorem sizeLv (x : Lv) : (Try.prog.info? 30).map (·.size) = some x.cells.size := show _ = some 9 from by kernel_rfl
theorem lv_all (x : Lv) : x.cells.all (·.oneCell') = true := Array.all_eq_true_iff_forall_mem.2 (fun v hv => by
  simp at hv
  rcases hv with rfl | rfl | rfl | rfl | rfl | rfl | rfl | rfl | rfl <;> rfl)
theorem few_20 {l : List Nm} (h : fewB l = true) : l.length ≤ 20 := by
  unfold fewB at h
  rw [Bool.and_eq_true] at h
  simpa using h.2
theorem few_len {l : List Nm} (h : fewB l = true) : l.length ≤ 1000000 := by
  unfold fewB at h
  rw [Bool.and_eq_true] at h
  have := h.2
  simp at this
  omega
set_option maxRecDepth 100000 in
set_option maxHeartbeats 8000000 in
theorem bounds_calls (w : World) (x y : L9) (by_ name : ByteArray) (ex ux ey uy : List Nm) (hex : InN w x.ev.a x.ev.n ex) (hux : InN w x.us.a x.us.n ux) (hey : InN w y.ev.a y.ev.n ey) (huy : InN w y.us.a y.us.n uy) (hm : Mx w) :
    Calls Try.prog 5 #[.agg x.cells, .agg y.cells, .agg #[.string by_, .string name]] w fun e w' => e = .returned (.bool true) ∧ Below w.heap.size w w' := by
  have n1 : x.ev.n = ex.length := hex.1
  have n2 : x.us.n = ux.length := hux.1
  have n3 : y.ev.n = ey.length := hey.1
  have n4 : y.us.n = uy.length := huy.1
  have HEX0 := Lib.hid hex
  have HUX0 := Lib.hid hux
  have HEY0 := Lib.hid hey
  have HUY0 := Lib.hid huy
  rw [n1] at hex
  rw [n2] at hux
  rw [n3] at hey
  rw [n4] at huy
  have HEX := Lib.hid hex
  have HUX := Lib.hid hux
  have HEY := Lib.hid hey
  have HUY := Lib.hid huy
  have HP := Lib.hid hm.pos
  have HM := Lib.hid hm
  obtain ⟨wb, hwb⟩ : ∃ wb : World, wb = ((w.alloc (.cells x.cells 25)).alloc (.cells y.cells 25)).alloc (.cells #[.string by_, .string name] 53) := ⟨_, rfl⟩
  have hb0 : Below w.heap.size w wb := by rw [hwb]; exact (((Below.refl _ _).alloc (Nat.le_refl _) _).alloc (by simp) _).alloc (by simp; omega) _
  have HX := Lib.hid (show wb.heap[w.heap.size]? = some (.cells x.cells 25 (0, 0)) by rw [hwb]; exact (heap_old_at _ _ _ (by simp; omega)).trans ((heap_old_at _ _ _ (by simp)).trans (heap_new_at _ _ _ rfl)))
  have HY := Lib.hid (show wb.heap[w.heap.size + 1]? = some (.cells y.cells 25 (0, 0)) by rw [hwb]; exact (heap_old_at _ _ _ (by simp)).trans (heap_new_at _ _ _ (by simp)))
  have hz : wb.heap[w.heap.size + 2]? = some (.cells #[.string by_, .string name] 53 (0, 0)) := by rw [hwb]; exact heap_new_at _ _ _ (by simp)
  have HWB := Lib.hid hwb
  have HB0 := Lib.hid hb0
  have z0 := cell_at (j := 0) hz rfl
  have z1 := cell_at (j := 1) hz rfl
  have hlz := blk_lt hz
  clear hex hux hey huy hm hwb hb0 hz
  go_enter Try.func5, Try.ntmps5
  go_upto_region 1 with fail
  rw [← HWB.out]
  go_quiet (fail)
  clear z0 z1
  obtain ⟨wq, hwq⟩ : ∃ wq : World, wq = wb.drewN nq := ⟨_, rfl⟩
  rw [← hwq]
  have HBQ := Lib.hid (show Below wb.heap.size wb wq by rw [hwq]; exact below_drewN' (Below.refl _ _) _)
  have HB1 := Lib.hid (HB0.out.trans (HBQ.out.mono HB0.out.size))
  clear hwq
  go_wp2_with fail
  refine (awake_calls wq (HM.out.below HB1.out HP.out)).mono ?_
  rintro e v0 ⟨rfl, hb⟩
  have HV0 := Lib.hid (HB1.out.trans (hb.mono HB1.out.size))
  have BB0 := Lib.hid (HBQ.out.trans (hb.mono HBQ.out.size))
  clear hb hlz
  have c7 : v0.cell? ⟨w.heap.size, 7, none⟩ = some (.slice x.ev.a x.ev.n x.ev.c) := cell_at (j := 7) ((BB0.out.block _ (blk_lt HX.out)).trans HX.out) rfl
  have c8 : v0.cell? ⟨w.heap.size, 8, none⟩ = some (.slice x.us.a x.us.n x.us.c) := cell_at (j := 8) ((BB0.out.block _ (blk_lt HX.out)).trans HX.out) rfl
  have d7 : v0.cell? ⟨w.heap.size + 1, 7, none⟩ = some (.slice y.ev.a y.ev.n y.ev.c) := cell_at (j := 7) ((BB0.out.block _ (blk_lt HY.out)).trans HY.out) rfl
  have d8 : v0.cell? ⟨w.heap.size + 1, 8, none⟩ = some (.slice y.us.a y.us.n y.us.c) := cell_at (j := 8) ((BB0.out.block _ (blk_lt HY.out)).trans HY.out) rfl
  have hlw : w.heap.size + 1 < v0.heap.size := Nat.lt_of_lt_of_le (blk_lt HY.out) BB0.out.size

  go_wp2_with fail
  have hcall := few_calls v0 x.ev.a x.ev.c ex (HEX.out.below HV0.out rfl)
  cases hfew : fewB ex with
  | false =>
    rw [hfew] at hcall
    refine hcall.mono ?_
    rintro e v1 ⟨rfl, hb⟩
    have HV1 := Lib.hid (HV0.out.trans (hb.mono HV0.out.size))
    clear hb hcall hfew
    clear c7 c8 d7 d8
    go_wp2_with fail
    refine (awake_calls v1 (HM.out.below HV1.out HP.out)).mono ?_
    rintro e wz ⟨rfl, hbz⟩
    have HBZ := Lib.hid (HV1.out.trans (hbz.mono HV1.out.size))
    clear hbz
    go_wp2_with fail
    go_ret
    exact ⟨rfl, HBZ.out⟩
  | true =>
    rw [hfew] at hcall
    have HFW0 := Lib.hid hfew
    refine hcall.mono ?_
    rintro e v1 ⟨rfl, hb⟩
    have HV1 := Lib.hid (HV0.out.trans (hb.mono HV0.out.size))
    have BB1 := Lib.hid (BB0.out.trans (hb.mono BB0.out.size))
    clear hb hcall hfew c7 c8 d7 d8 hlw
    have c7 : v1.cell? ⟨w.heap.size, 7, none⟩ = some (.slice x.ev.a x.ev.n x.ev.c) := cell_at (j := 7) ((BB1.out.block _ (blk_lt HX.out)).trans HX.out) rfl
    have c8 : v1.cell? ⟨w.heap.size, 8, none⟩ = some (.slice x.us.a x.us.n x.us.c) := cell_at (j := 8) ((BB1.out.block _ (blk_lt HX.out)).trans HX.out) rfl
    have d7 : v1.cell? ⟨w.heap.size + 1, 7, none⟩ = some (.slice y.ev.a y.ev.n y.ev.c) := cell_at (j := 7) ((BB1.out.block _ (blk_lt HY.out)).trans HY.out) rfl
    have d8 : v1.cell? ⟨w.heap.size + 1, 8, none⟩ = some (.slice y.us.a y.us.n y.us.c) := cell_at (j := 8) ((BB1.out.block _ (blk_lt HY.out)).trans HY.out) rfl
    have hlw : w.heap.size + 1 < v1.heap.size := Nat.lt_of_lt_of_le (blk_lt HY.out) BB1.out.size
    go_wp2_with fail
    have hcall := few_calls v1 x.us.a x.us.c ux (HUX.out.below HV1.out rfl)
    cases hfew : fewB ux with
    | false =>
      rw [hfew] at hcall
      refine hcall.mono ?_
      rintro e v2 ⟨rfl, hb⟩
      have HV2 := Lib.hid (HV1.out.trans (hb.mono HV1.out.size))
      clear hb hcall hfew
      clear c7 c8 d7 d8
      go_wp2_with fail
      refine (awake_calls v2 (HM.out.below HV2.out HP.out)).mono ?_
      rintro e wz ⟨rfl, hbz⟩
      have HBZ := Lib.hid (HV2.out.trans (hbz.mono HV2.out.size))
      clear hbz
      go_wp2_with fail
      go_ret
      exact ⟨rfl, HBZ.out⟩
    | true =>
      rw [hfew] at hcall
      have HFW1 := Lib.hid hfew
      refine hcall.mono ?_
      rintro e v2 ⟨rfl, hb⟩
      have HV2 := Lib.hid (HV1.out.trans (hb.mono HV1.out.size))
      have BB2 := Lib.hid (BB1.out.trans (hb.mono BB1.out.size))
      clear hb hcall hfew c7 c8 d7 d8 hlw
      have c7 : v2.cell? ⟨w.heap.size, 7, none⟩ = some (.slice x.ev.a x.ev.n x.ev.c) := cell_at (j := 7) ((BB2.out.block _ (blk_lt HX.out)).trans HX.out) rfl
      have c8 : v2.cell? ⟨w.heap.size, 8, none⟩ = some (.slice x.us.a x.us.n x.us.c) := cell_at (j := 8) ((BB2.out.block _ (blk_lt HX.out)).trans HX.out) rfl
      have d7 : v2.cell? ⟨w.heap.size + 1, 7, none⟩ = some (.slice y.ev.a y.ev.n y.ev.c) := cell_at (j := 7) ((BB2.out.block _ (blk_lt HY.out)).trans HY.out) rfl
      have d8 : v2.cell? ⟨w.heap.size + 1, 8, none⟩ = some (.slice y.us.a y.us.n y.us.c) := cell_at (j := 8) ((BB2.out.block _ (blk_lt HY.out)).trans HY.out) rfl
      have hlw : w.heap.size + 1 < v2.heap.size := Nat.lt_of_lt_of_le (blk_lt HY.out) BB2.out.size
      go_wp2_with fail
      have hcall := few_calls v2 y.ev.a y.ev.c ey (HEY.out.below HV2.out rfl)
      cases hfew : fewB ey with
      | false =>
        rw [hfew] at hcall
        refine hcall.mono ?_
        rintro e v3 ⟨rfl, hb⟩
        have HV3 := Lib.hid (HV2.out.trans (hb.mono HV2.out.size))
        clear hb hcall hfew
        clear c7 c8 d7 d8
        go_wp2_with fail
        refine (awake_calls v3 (HM.out.below HV3.out HP.out)).mono ?_
        rintro e wz ⟨rfl, hbz⟩
        have HBZ := Lib.hid (HV3.out.trans (hbz.mono HV3.out.size))
        clear hbz
        go_wp2_with fail
        go_ret
        exact ⟨rfl, HBZ.out⟩
      | true =>
        rw [hfew] at hcall
        have HFW2 := Lib.hid hfew
        refine hcall.mono ?_
        rintro e v3 ⟨rfl, hb⟩
        have HV3 := Lib.hid (HV2.out.trans (hb.mono HV2.out.size))
        have BB3 := Lib.hid (BB2.out.trans (hb.mono BB2.out.size))
        clear hb hcall hfew c7 c8 d7 d8 hlw
        have c7 : v3.cell? ⟨w.heap.size, 7, none⟩ = some (.slice x.ev.a x.ev.n x.ev.c) := cell_at (j := 7) ((BB3.out.block _ (blk_lt HX.out)).trans HX.out) rfl
        have c8 : v3.cell? ⟨w.heap.size, 8, none⟩ = some (.slice x.us.a x.us.n x.us.c) := cell_at (j := 8) ((BB3.out.block _ (blk_lt HX.out)).trans HX.out) rfl
        have d7 : v3.cell? ⟨w.heap.size + 1, 7, none⟩ = some (.slice y.ev.a y.ev.n y.ev.c) := cell_at (j := 7) ((BB3.out.block _ (blk_lt HY.out)).trans HY.out) rfl
        have d8 : v3.cell? ⟨w.heap.size + 1, 8, none⟩ = some (.slice y.us.a y.us.n y.us.c) := cell_at (j := 8) ((BB3.out.block _ (blk_lt HY.out)).trans HY.out) rfl
        have hlw : w.heap.size + 1 < v3.heap.size := Nat.lt_of_lt_of_le (blk_lt HY.out) BB3.out.size
        go_wp2_with fail
        have hcall := few_calls v3 y.us.a y.us.c uy (HUY.out.below HV3.out rfl)
        cases hfew : fewB uy with
        | false =>
          rw [hfew] at hcall
          refine hcall.mono ?_
          rintro e v4 ⟨rfl, hb⟩
          have HV4 := Lib.hid (HV3.out.trans (hb.mono HV3.out.size))
          clear hb hcall hfew
          clear c7 c8 d7 d8
          go_wp2_with fail
          refine (awake_calls v4 (HM.out.below HV4.out HP.out)).mono ?_
          rintro e wz ⟨rfl, hbz⟩
          have HBZ := Lib.hid (HV4.out.trans (hbz.mono HV4.out.size))
          clear hbz
          go_wp2_with fail
          go_ret
          exact ⟨rfl, HBZ.out⟩
        | true =>
          rw [hfew] at hcall
          have HFW3 := Lib.hid hfew
          refine hcall.mono ?_
          rintro e v4 ⟨rfl, hb⟩
          have HV4 := Lib.hid (HV3.out.trans (hb.mono HV3.out.size))
          have BB4 := Lib.hid (BB3.out.trans (hb.mono BB3.out.size))
          clear hb hcall hfew c7 c8 d7 d8 hlw
          have c7 : v4.cell? ⟨w.heap.size, 7, none⟩ = some (.slice x.ev.a x.ev.n x.ev.c) := cell_at (j := 7) ((BB4.out.block _ (blk_lt HX.out)).trans HX.out) rfl
          have c8 : v4.cell? ⟨w.heap.size, 8, none⟩ = some (.slice x.us.a x.us.n x.us.c) := cell_at (j := 8) ((BB4.out.block _ (blk_lt HX.out)).trans HX.out) rfl
          have d7 : v4.cell? ⟨w.heap.size + 1, 7, none⟩ = some (.slice y.ev.a y.ev.n y.ev.c) := cell_at (j := 7) ((BB4.out.block _ (blk_lt HY.out)).trans HY.out) rfl
          have d8 : v4.cell? ⟨w.heap.size + 1, 8, none⟩ = some (.slice y.us.a y.us.n y.us.c) := cell_at (j := 8) ((BB4.out.block _ (blk_lt HY.out)).trans HY.out) rfl
          have hlw : w.heap.size + 1 < v4.heap.size := Nat.lt_of_lt_of_le (blk_lt HY.out) BB4.out.size
          go_wp2_with fail
          refine (rising_calls v4 x.ev.a x.ev.c ex (HEX.out.below HV4.out rfl)).mono ?_
          rintro e v5 ⟨hsome, hb⟩
          obtain ⟨rb, rfl, hrise⟩ := hsome
          have HRS4 := Lib.hid hrise
          have HV5 := Lib.hid (HV4.out.trans (hb.mono HV4.out.size))
          have BB5 := Lib.hid (BB4.out.trans (hb.mono BB4.out.size))
          clear hb hrise c7 c8 d7 d8 hlw
          have c7 : v5.cell? ⟨w.heap.size, 7, none⟩ = some (.slice x.ev.a x.ev.n x.ev.c) := cell_at (j := 7) ((BB5.out.block _ (blk_lt HX.out)).trans HX.out) rfl
          have c8 : v5.cell? ⟨w.heap.size, 8, none⟩ = some (.slice x.us.a x.us.n x.us.c) := cell_at (j := 8) ((BB5.out.block _ (blk_lt HX.out)).trans HX.out) rfl
          have d7 : v5.cell? ⟨w.heap.size + 1, 7, none⟩ = some (.slice y.ev.a y.ev.n y.ev.c) := cell_at (j := 7) ((BB5.out.block _ (blk_lt HY.out)).trans HY.out) rfl
          have d8 : v5.cell? ⟨w.heap.size + 1, 8, none⟩ = some (.slice y.us.a y.us.n y.us.c) := cell_at (j := 8) ((BB5.out.block _ (blk_lt HY.out)).trans HY.out) rfl
          have hlw : w.heap.size + 1 < v5.heap.size := Nat.lt_of_lt_of_le (blk_lt HY.out) BB5.out.size
          cases rb with
          | false =>
            clear c7 c8 d7 d8
            go_wp2_with fail
            refine (awake_calls v5 (HM.out.below HV5.out HP.out)).mono ?_
            rintro e wz ⟨rfl, hbz⟩
            have HBZ := Lib.hid (HV5.out.trans (hbz.mono HV5.out.size))
            clear hbz
            go_wp2_with fail
            go_ret
            exact ⟨rfl, HBZ.out⟩
          | true =>
            go_wp2_with fail
            refine (rising_calls v5 x.us.a x.us.c ux (HUX.out.below HV5.out rfl)).mono ?_
            rintro e v6 ⟨hsome, hb⟩
            obtain ⟨rb, rfl, hrise⟩ := hsome
            have HRS5 := Lib.hid hrise
            have HV6 := Lib.hid (HV5.out.trans (hb.mono HV5.out.size))
            have BB6 := Lib.hid (BB5.out.trans (hb.mono BB5.out.size))
            clear hb hrise c7 c8 d7 d8 hlw
            have c7 : v6.cell? ⟨w.heap.size, 7, none⟩ = some (.slice x.ev.a x.ev.n x.ev.c) := cell_at (j := 7) ((BB6.out.block _ (blk_lt HX.out)).trans HX.out) rfl
            have c8 : v6.cell? ⟨w.heap.size, 8, none⟩ = some (.slice x.us.a x.us.n x.us.c) := cell_at (j := 8) ((BB6.out.block _ (blk_lt HX.out)).trans HX.out) rfl
            have d7 : v6.cell? ⟨w.heap.size + 1, 7, none⟩ = some (.slice y.ev.a y.ev.n y.ev.c) := cell_at (j := 7) ((BB6.out.block _ (blk_lt HY.out)).trans HY.out) rfl
            have d8 : v6.cell? ⟨w.heap.size + 1, 8, none⟩ = some (.slice y.us.a y.us.n y.us.c) := cell_at (j := 8) ((BB6.out.block _ (blk_lt HY.out)).trans HY.out) rfl
            have hlw : w.heap.size + 1 < v6.heap.size := Nat.lt_of_lt_of_le (blk_lt HY.out) BB6.out.size
            cases rb with
            | false =>
              clear c7 c8 d7 d8
              go_wp2_with fail
              refine (awake_calls v6 (HM.out.below HV6.out HP.out)).mono ?_
              rintro e wz ⟨rfl, hbz⟩
              have HBZ := Lib.hid (HV6.out.trans (hbz.mono HV6.out.size))
              clear hbz
              go_wp2_with fail
              go_ret
              exact ⟨rfl, HBZ.out⟩
            | true =>
              go_wp2_with fail
              refine (rising_calls v6 y.ev.a y.ev.c ey (HEY.out.below HV6.out rfl)).mono ?_
              rintro e v7 ⟨hsome, hb⟩
              obtain ⟨rb, rfl, hrise⟩ := hsome
              have HRS6 := Lib.hid hrise
              have HV7 := Lib.hid (HV6.out.trans (hb.mono HV6.out.size))
              have BB7 := Lib.hid (BB6.out.trans (hb.mono BB6.out.size))
              clear hb hrise c7 c8 d7 d8 hlw
              have c7 : v7.cell? ⟨w.heap.size, 7, none⟩ = some (.slice x.ev.a x.ev.n x.ev.c) := cell_at (j := 7) ((BB7.out.block _ (blk_lt HX.out)).trans HX.out) rfl
              have c8 : v7.cell? ⟨w.heap.size, 8, none⟩ = some (.slice x.us.a x.us.n x.us.c) := cell_at (j := 8) ((BB7.out.block _ (blk_lt HX.out)).trans HX.out) rfl
              have d7 : v7.cell? ⟨w.heap.size + 1, 7, none⟩ = some (.slice y.ev.a y.ev.n y.ev.c) := cell_at (j := 7) ((BB7.out.block _ (blk_lt HY.out)).trans HY.out) rfl
              have d8 : v7.cell? ⟨w.heap.size + 1, 8, none⟩ = some (.slice y.us.a y.us.n y.us.c) := cell_at (j := 8) ((BB7.out.block _ (blk_lt HY.out)).trans HY.out) rfl
              have hlw : w.heap.size + 1 < v7.heap.size := Nat.lt_of_lt_of_le (blk_lt HY.out) BB7.out.size
              cases rb with
              | false =>
                clear c7 c8 d7 d8
                go_wp2_with fail
                refine (awake_calls v7 (HM.out.below HV7.out HP.out)).mono ?_
                rintro e wz ⟨rfl, hbz⟩
                have HBZ := Lib.hid (HV7.out.trans (hbz.mono HV7.out.size))
                clear hbz
                go_wp2_with fail
                go_ret
                exact ⟨rfl, HBZ.out⟩
              | true =>
                go_wp2_with fail
                refine (rising_calls v7 y.us.a y.us.c uy (HUY.out.below HV7.out rfl)).mono ?_
                rintro e v8 ⟨hsome, hb⟩
                obtain ⟨rb, rfl, hrise⟩ := hsome
                have HRS7 := Lib.hid hrise
                have HV8 := Lib.hid (HV7.out.trans (hb.mono HV7.out.size))
                have BB8 := Lib.hid (BB7.out.trans (hb.mono BB7.out.size))
                clear hb hrise c7 c8 d7 d8 hlw
                have c7 : v8.cell? ⟨w.heap.size, 7, none⟩ = some (.slice x.ev.a x.ev.n x.ev.c) := cell_at (j := 7) ((BB8.out.block _ (blk_lt HX.out)).trans HX.out) rfl
                have c8 : v8.cell? ⟨w.heap.size, 8, none⟩ = some (.slice x.us.a x.us.n x.us.c) := cell_at (j := 8) ((BB8.out.block _ (blk_lt HX.out)).trans HX.out) rfl
                have d7 : v8.cell? ⟨w.heap.size + 1, 7, none⟩ = some (.slice y.ev.a y.ev.n y.ev.c) := cell_at (j := 7) ((BB8.out.block _ (blk_lt HY.out)).trans HY.out) rfl
                have d8 : v8.cell? ⟨w.heap.size + 1, 8, none⟩ = some (.slice y.us.a y.us.n y.us.c) := cell_at (j := 8) ((BB8.out.block _ (blk_lt HY.out)).trans HY.out) rfl
                have hlw : w.heap.size + 1 < v8.heap.size := Nat.lt_of_lt_of_le (blk_lt HY.out) BB8.out.size
                cases rb with
                | false =>
                  clear c7 c8 d7 d8
                  go_wp2_with fail
                  refine (awake_calls v8 (HM.out.below HV8.out HP.out)).mono ?_
                  rintro e wz ⟨rfl, hbz⟩
                  have HBZ := Lib.hid (HV8.out.trans (hbz.mono HV8.out.size))
                  clear hbz
                  go_wp2_with fail
                  go_ret
                  exact ⟨rfl, HBZ.out⟩
                | true =>
                  go_upto_region 4 with fail
                  clear c7 c8 d7 d8
                  go_cut [9, 10] (fun c9 c10 wx => ∃ (l1 l2 : Lv) (ga gb : Nat), c9 = .pointer (some ⟨ga, 0, none⟩) ∧ c10 = .pointer (some ⟨gb, 0, none⟩) ∧ Bf v8 x y ex ux ey uy l1 l2 ga gb wx)
                  case first =>
                    refine wt_start (S := fun W => Below v8.heap.size v8 W) 7 (by kernel_rfl) ⟨by kernel_rfl, by kernel_rfl, by kernel_rfl, by decide⟩ ?_
                    intro HTK
                    have HS0 := Lib.hid (Bs.start (v := v8) (x := x) (y := y) (ex := ex) (ux := ux) (ey := ey) (uy := uy))
                    obtain ⟨q0, hq0⟩ : ∃ wn : World, wn = v8.drew := ⟨_, rfl⟩
                    rw [← hq0] at HS0 ⊢
                    clear hq0
                    refine wt_take (i := 0) (v := .agg x.cells) HTK.out rfl (by decide) (by kernel_rfl) (by kernel_rfl) (fun _ _ _ h => h) (by exact HS0.out.bel) (yieldsIf_load_at (by rfl) _ _ (by rfl) _ (by rfl) x.cells _ (fun W hSw => (Holds.of_block ((BB8.out.block _ (blk_lt HX.out)).trans HX.out)).below hSw (by show w.heap.size < _; omega)) Try.underlying25 (by rfl) (show _ = some 9 from by kernel_rfl)) ?_
                    try simp only [List.getElem_toArray, List.getElem_cons_zero, List.getElem_cons_succ, Act.put, List.setIfInBounds_toArray, List.set_cons_zero, List.set_cons_succ]
                    refine wt_take (i := 2) (v := .agg y.cells) HTK.out rfl (by decide) (by kernel_rfl) (by kernel_rfl) (fun _ _ _ h => h) (by exact HS0.out.bel) (yieldsIf_load_at (by rfl) _ _ (by rfl) _ (by rfl) y.cells _ (fun W hSw => (Holds.of_block ((BB8.out.block _ (blk_lt HY.out)).trans HY.out)).below hSw (by exact hlw)) Try.underlying25 (by rfl) (show _ = some 9 from by kernel_rfl)) ?_
                    try simp only [List.getElem_toArray, List.getElem_cons_zero, List.getElem_cons_succ, Act.put, List.setIfInBounds_toArray, List.set_cons_zero, List.set_cons_succ]
                    refine wt_ready (rs := [1, 4, 5]) (by kernel_rfl) (by simp) ?_
                    refine AllT.cons rfl (by decide) (fun K hK => ?_) ?_
                    · go_simp
                      go_at_call 8
                      refine (real_calls _ x ex ux (HEX0.out.below (HV8.out.trans (HS0.out.bel.mono HV8.out.size)) rfl) (HUX0.out.below (HV8.out.trans (HS0.out.bel.mono HV8.out.size)) rfl) (few_len HFW0.out) (few_len HFW1.out)).mono ?_
                      rintro e q1 ⟨se1, su1, rfl, hr1, hr2, hbz⟩
                      have HS1 := Lib.hid (HS0.out.real1 hbz ⟨se1, su1, rfl, hr1, hr2⟩)
                      clear hr1 hr2 hbz
                      refine hK.out _ _ (by exact HS1.out.bel) ?_
                      clear hK K
                      try simp only [List.getElem_toArray, List.getElem_cons_zero, List.getElem_cons_succ, Act.put, List.setIfInBounds_toArray, List.set_cons_zero, List.set_cons_succ]
                      refine wt_ready (rs := [3, 4, 5]) (by kernel_rfl) (by simp) ?_
                      refine AllT.cons rfl (by decide) (fun K hK => ?_) ?_
                      · go_simp
                        go_at_call 8
                        refine (real_calls _ y ey uy (HEY0.out.below (HV8.out.trans (HS1.out.bel.mono HV8.out.size)) rfl) (HUY0.out.below (HV8.out.trans (HS1.out.bel.mono HV8.out.size)) rfl) (few_len HFW2.out) (few_len HFW3.out)).mono ?_
                        rintro e q2 ⟨se2, su2, rfl, hr1, hr2, hbz⟩
                        have HS2 := Lib.hid (HS1.out.real2 hbz ⟨se2, su2, rfl, hr1, hr2⟩)
                        clear hr1 hr2 hbz
                        refine hK.out _ _ (by exact HS2.out.bel) ?_
                        clear hK K
                        try simp only [List.getElem_toArray, List.getElem_cons_zero, List.getElem_cons_succ, Act.put, List.setIfInBounds_toArray, List.set_cons_zero, List.set_cons_succ]
                        refine wt_ready (rs := [4, 5]) (by kernel_rfl) (by simp) ?_
                        refine AllT.cons rfl (by decide) (fun K hK => ?_) ?_
                        · go_simp
                          obtain ⟨q3, hwn⟩ : ∃ wn : World, wn = World.alloc q2 (.cells #[.int .i64 0, .int .i64 0, .int .i64 0, .int .i64 0, .int .i64 0, .int .i64 0, .int .i64 0, .slice none 0 0, .slice none 0 0] 30) := ⟨_, rfl⟩
                          have HS3 := Lib.hid HS2.out.newa
                          rw [show World.alloc q2 (.cells zLv.cells 30) = q3 from hwn.symm] at HS3
                          rw [← hwn]
                          clear hwn
                          obtain ⟨ga, hga⟩ : ∃ g, g = (World.heap q2).size := ⟨_, rfl⟩
                          rw [← hga] at HS3 ⊢
                          clear hga
                          refine hK.out _ _ (by exact HS3.out.bel) ?_
                          clear hK K
                          try simp only [List.getElem_toArray, List.getElem_cons_zero, List.getElem_cons_succ, Act.put, List.setIfInBounds_toArray, List.set_cons_zero, List.set_cons_succ]
                          refine wt_ready (rs := [5]) (by kernel_rfl) (by simp) ?_
                          refine AllT.cons rfl (by decide) (fun K hK => ?_) ?_
                          · go_simp
                            obtain ⟨q4, hwn⟩ : ∃ wn : World, wn = World.alloc q3 (.cells #[.int .i64 0, .int .i64 0, .int .i64 0, .int .i64 0, .int .i64 0, .int .i64 0, .int .i64 0, .slice none 0 0, .slice none 0 0] 30) := ⟨_, rfl⟩
                            have HS4 := Lib.hid HS3.out.newb
                            rw [show World.alloc q3 (.cells zLv.cells 30) = q4 from hwn.symm] at HS4
                            rw [← hwn]
                            clear hwn
                            obtain ⟨gb, hgb⟩ : ∃ g, g = (World.heap q3).size := ⟨_, rfl⟩
                            rw [← hgb] at HS4 ⊢
                            clear hgb
                            refine hK.out _ _ (by exact HS4.out.bel) ?_
                            clear hK K
                            try simp only [List.getElem_toArray, List.getElem_cons_zero, List.getElem_cons_succ, Act.put, List.setIfInBounds_toArray, List.set_cons_zero, List.set_cons_succ]
                            refine wt_ready (rs := [6]) (by kernel_rfl) (by simp) ?_
                            refine AllT.cons rfl (by decide) (fun K hK => ?_) ?_
                            · refine step_store_at (by rfl) _ _ _ (by rfl) ga (realLv x se1 su1).cells (by rfl) (by rfl) (there_of_block (HS4.out.ea ga rfl).2 rfl) (sizeLv _) (lv_all _) ?_
                              obtain ⟨wo, hwo⟩ : ∃ wo : World, wo = World.setCells q4 ga 0 (realLv x se1 su1).cells.toList := ⟨_, rfl⟩
                              have HO := Lib.hid HS4.out.one
                              have HDN := Lib.hid HS4.out.done
                              rw [← hwo] at HO HDN ⊢
                              clear hwo
                              refine hK.out _ _ (by exact HO.out.1) ?_
                              clear hK K
                              try simp only [List.getElem_toArray, List.getElem_cons_zero, List.getElem_cons_succ, Act.put, List.setIfInBounds_toArray, List.set_cons_zero, List.set_cons_succ]
                              refine wt_last (k := 7) (by kernel_rfl) (by kernel_rfl) (by decide) rfl (fun K hK => ?_)
                              refine step_store_at (by rfl) _ _ _ (by rfl) gb (realLv y se2 su2).cells (by rfl) (by rfl) (there_of_block HO.out.2 rfl) (sizeLv _) (lv_all _) ?_
                              obtain ⟨wp, hwp⟩ : ∃ wp : World, wp = World.setCells wo gb 0 (realLv y se2 su2).cells.toList := ⟨_, rfl⟩
                              rw [← hwp] at HDN ⊢
                              clear hwp
                              refine hK.out _ _ ?_
                              clear hK K
                              try simp only [List.getElem_toArray, List.getElem_cons_zero, List.getElem_cons_succ, Act.put, List.setIfInBounds_toArray, List.set_cons_zero, List.set_cons_succ]
                              go_wp2_with fail
                              go_meet
                              exact ⟨_, _, ga, gb, rfl, rfl, HDN.out⟩
                            exact AllT.nil
                          exact AllT.nil
                        refine AllT.cons rfl (by decide) (fun K hK => ?_) ?_
                        · go_simp
                          obtain ⟨q3, hwn⟩ : ∃ wn : World, wn = World.alloc q2 (.cells #[.int .i64 0, .int .i64 0, .int .i64 0, .int .i64 0, .int .i64 0, .int .i64 0, .int .i64 0, .slice none 0 0, .slice none 0 0] 30) := ⟨_, rfl⟩
                          have HS3 := Lib.hid HS2.out.newb
                          rw [show World.alloc q2 (.cells zLv.cells 30) = q3 from hwn.symm] at HS3
                          rw [← hwn]
                          clear hwn
                          obtain ⟨gb, hgb⟩ : ∃ g, g = (World.heap q2).size := ⟨_, rfl⟩
                          rw [← hgb] at HS3 ⊢
                          clear hgb
                          refine hK.out _ _ (by exact HS3.out.bel) ?_
                          clear hK K
                          try simp only [List.getElem_toArray, List.getElem_cons_zero, List.getElem_cons_succ, Act.put, List.setIfInBounds_toArray, List.set_cons_zero, List.set_cons_succ]
                          refine wt_ready (rs := [4]) (by kernel_rfl) (by simp) ?_
                          refine AllT.cons rfl (by decide) (fun K hK => ?_) ?_
                          · go_simp
                            obtain ⟨q4, hwn⟩ : ∃ wn : World, wn = World.alloc q3 (.cells #[.int .i64 0, .int .i64 0, .int .i64 0, .int .i64 0, .int .i64 0, .int .i64 0, .int .i64 0, .slice none 0 0, .slice none 0 0] 30) := ⟨_, rfl⟩
                            have HS4 := Lib.hid HS3.out.newa
                            rw [show World.alloc q3 (.cells zLv.cells 30) = q4 from hwn.symm] at HS4
                            rw [← hwn]
                            clear hwn
                            obtain ⟨ga, hga⟩ : ∃ g, g = (World.heap q3).size := ⟨_, rfl⟩
                            rw [← hga] at HS4 ⊢
                            clear hga
                            refine hK.out _ _ (by exact HS4.out.bel) ?_
                            clear hK K
                            try simp only [List.getElem_toArray, List.getElem_cons_zero, List.getElem_cons_succ, Act.put, List.setIfInBounds_toArray, List.set_cons_zero, List.set_cons_succ]
                            refine wt_ready (rs := [6]) (by kernel_rfl) (by simp) ?_
                            refine AllT.cons rfl (by decide) (fun K hK => ?_) ?_
                            · refine step_store_at (by rfl) _ _ _ (by rfl) ga (realLv x se1 su1).cells (by rfl) (by rfl) (there_of_block (HS4.out.ea ga rfl).2 rfl) (sizeLv _) (lv_all _) ?_
                              obtain ⟨wo, hwo⟩ : ∃ wo : World, wo = World.setCells q4 ga 0 (realLv x se1 su1).cells.toList := ⟨_, rfl⟩
                              have HO := Lib.hid HS4.out.one
                              have HDN := Lib.hid HS4.out.done
                              rw [← hwo] at HO HDN ⊢
                              clear hwo
                              refine hK.out _ _ (by exact HO.out.1) ?_
                              clear hK K
                              try simp only [List.getElem_toArray, List.getElem_cons_zero, List.getElem_cons_succ, Act.put, List.setIfInBounds_toArray, List.set_cons_zero, List.set_cons_succ]
                              refine wt_last (k := 7) (by kernel_rfl) (by kernel_rfl) (by decide) rfl (fun K hK => ?_)
                              refine step_store_at (by rfl) _ _ _ (by rfl) gb (realLv y se2 su2).cells (by rfl) (by rfl) (there_of_block HO.out.2 rfl) (sizeLv _) (lv_all _) ?_
                              obtain ⟨wp, hwp⟩ : ∃ wp : World, wp = World.setCells wo gb 0 (realLv y se2 su2).cells.toList := ⟨_, rfl⟩
                              rw [← hwp] at HDN ⊢
                              clear hwp
                              refine hK.out _ _ ?_
                              clear hK K
                              try simp only [List.getElem_toArray, List.getElem_cons_zero, List.getElem_cons_succ, Act.put, List.setIfInBounds_toArray, List.set_cons_zero, List.set_cons_succ]
                              go_wp2_with fail
                              go_meet
                              exact ⟨_, _, ga, gb, rfl, rfl, HDN.out⟩
                            exact AllT.nil
                          exact AllT.nil
                        exact AllT.nil
                      refine AllT.cons rfl (by decide) (fun K hK => ?_) ?_
                      · go_simp
                        obtain ⟨q2, hwn⟩ : ∃ wn : World, wn = World.alloc q1 (.cells #[.int .i64 0, .int .i64 0, .int .i64 0, .int .i64 0, .int .i64 0, .int .i64 0, .int .i64 0, .slice none 0 0, .slice none 0 0] 30) := ⟨_, rfl⟩
                        have HS2 := Lib.hid HS1.out.newa
                        rw [show World.alloc q1 (.cells zLv.cells 30) = q2 from hwn.symm] at HS2
                        rw [← hwn]
                        clear hwn
                        obtain ⟨ga, hga⟩ : ∃ g, g = (World.heap q1).size := ⟨_, rfl⟩
                        rw [← hga] at HS2 ⊢
                        clear hga
                        refine hK.out _ _ (by exact HS2.out.bel) ?_
                        clear hK K
                        try simp only [List.getElem_toArray, List.getElem_cons_zero, List.getElem_cons_succ, Act.put, List.setIfInBounds_toArray, List.set_cons_zero, List.set_cons_succ]
                        refine wt_ready (rs := [3, 5]) (by kernel_rfl) (by simp) ?_
                        refine AllT.cons rfl (by decide) (fun K hK => ?_) ?_
                        · go_simp
                          go_at_call 8
                          refine (real_calls _ y ey uy (HEY0.out.below (HV8.out.trans (HS2.out.bel.mono HV8.out.size)) rfl) (HUY0.out.below (HV8.out.trans (HS2.out.bel.mono HV8.out.size)) rfl) (few_len HFW2.out) (few_len HFW3.out)).mono ?_
                          rintro e q3 ⟨se2, su2, rfl, hr1, hr2, hbz⟩
                          have HS3 := Lib.hid (HS2.out.real2 hbz ⟨se2, su2, rfl, hr1, hr2⟩)
                          clear hr1 hr2 hbz
                          refine hK.out _ _ (by exact HS3.out.bel) ?_
                          clear hK K
                          try simp only [List.getElem_toArray, List.getElem_cons_zero, List.getElem_cons_succ, Act.put, List.setIfInBounds_toArray, List.set_cons_zero, List.set_cons_succ]
                          refine wt_ready (rs := [5]) (by kernel_rfl) (by simp) ?_
                          refine AllT.cons rfl (by decide) (fun K hK => ?_) ?_
                          · go_simp
                            obtain ⟨q4, hwn⟩ : ∃ wn : World, wn = World.alloc q3 (.cells #[.int .i64 0, .int .i64 0, .int .i64 0, .int .i64 0, .int .i64 0, .int .i64 0, .int .i64 0, .slice none 0 0, .slice none 0 0] 30) := ⟨_, rfl⟩
                            have HS4 := Lib.hid HS3.out.newb
                            rw [show World.alloc q3 (.cells zLv.cells 30) = q4 from hwn.symm] at HS4
                            rw [← hwn]
                            clear hwn
                            obtain ⟨gb, hgb⟩ : ∃ g, g = (World.heap q3).size := ⟨_, rfl⟩
                            rw [← hgb] at HS4 ⊢
                            clear hgb
                            refine hK.out _ _ (by exact HS4.out.bel) ?_
                            clear hK K
                            try simp only [List.getElem_toArray, List.getElem_cons_zero, List.getElem_cons_succ, Act.put, List.setIfInBounds_toArray, List.set_cons_zero, List.set_cons_succ]
                            refine wt_ready (rs := [6]) (by kernel_rfl) (by simp) ?_
                            refine AllT.cons rfl (by decide) (fun K hK => ?_) ?_
                            · refine step_store_at (by rfl) _ _ _ (by rfl) ga (realLv x se1 su1).cells (by rfl) (by rfl) (there_of_block (HS4.out.ea ga rfl).2 rfl) (sizeLv _) (lv_all _) ?_
                              obtain ⟨wo, hwo⟩ : ∃ wo : World, wo = World.setCells q4 ga 0 (realLv x se1 su1).cells.toList := ⟨_, rfl⟩
                              have HO := Lib.hid HS4.out.one
                              have HDN := Lib.hid HS4.out.done
                              rw [← hwo] at HO HDN ⊢
                              clear hwo
                              refine hK.out _ _ (by exact HO.out.1) ?_
                              clear hK K
                              try simp only [List.getElem_toArray, List.getElem_cons_zero, List.getElem_cons_succ, Act.put, List.setIfInBounds_toArray, List.set_cons_zero, List.set_cons_succ]
                              refine wt_last (k := 7) (by kernel_rfl) (by kernel_rfl) (by decide) rfl (fun K hK => ?_)
                              refine step_store_at (by rfl) _ _ _ (by rfl) gb (realLv y se2 su2).cells (by rfl) (by rfl) (there_of_block HO.out.2 rfl) (sizeLv _) (lv_all _) ?_
                              obtain ⟨wp, hwp⟩ : ∃ wp : World, wp = World.setCells wo gb 0 (realLv y se2 su2).cells.toList := ⟨_, rfl⟩
                              rw [← hwp] at HDN ⊢
                              clear hwp
                              refine hK.out _ _ ?_
                              clear hK K
                              try simp only [List.getElem_toArray, List.getElem_cons_zero, List.getElem_cons_succ, Act.put, List.setIfInBounds_toArray, List.set_cons_zero, List.set_cons_succ]
                              go_wp2_with fail
                              go_meet
                              exact ⟨_, _, ga, gb, rfl, rfl, HDN.out⟩
                            exact AllT.nil
                          exact AllT.nil
                        refine AllT.cons rfl (by decide) (fun K hK => ?_) ?_
                        · go_simp
                          obtain ⟨q3, hwn⟩ : ∃ wn : World, wn = World.alloc q2 (.cells #[.int .i64 0, .int .i64 0, .int .i64 0, .int .i64 0, .int .i64 0, .int .i64 0, .int .i64 0, .slice none 0 0, .slice none 0 0] 30) := ⟨_, rfl⟩
                          have HS3 := Lib.hid HS2.out.newb
                          rw [show World.alloc q2 (.cells zLv.cells 30) = q3 from hwn.symm] at HS3
                          rw [← hwn]
                          clear hwn
                          obtain ⟨gb, hgb⟩ : ∃ g, g = (World.heap q2).size := ⟨_, rfl⟩
                          rw [← hgb] at HS3 ⊢
                          clear hgb
                          refine hK.out _ _ (by exact HS3.out.bel) ?_
                          clear hK K
                          try simp only [List.getElem_toArray, List.getElem_cons_zero, List.getElem_cons_succ, Act.put, List.setIfInBounds_toArray, List.set_cons_zero, List.set_cons_succ]
                          refine wt_ready (rs := [3]) (by kernel_rfl) (by simp) ?_
                          refine AllT.cons rfl (by decide) (fun K hK => ?_) ?_
                          · go_simp
                            go_at_call 8
                            refine (real_calls _ y ey uy (HEY0.out.below (HV8.out.trans (HS3.out.bel.mono HV8.out.size)) rfl) (HUY0.out.below (HV8.out.trans (HS3.out.bel.mono HV8.out.size)) rfl) (few_len HFW2.out) (few_len HFW3.out)).mono ?_
                            rintro e q4 ⟨se2, su2, rfl, hr1, hr2, hbz⟩
                            have HS4 := Lib.hid (HS3.out.real2 hbz ⟨se2, su2, rfl, hr1, hr2⟩)
                            clear hr1 hr2 hbz
                            refine hK.out _ _ (by exact HS4.out.bel) ?_
                            clear hK K
                            try simp only [List.getElem_toArray, List.getElem_cons_zero, List.getElem_cons_succ, Act.put, List.setIfInBounds_toArray, List.set_cons_zero, List.set_cons_succ]
                            refine wt_ready (rs := [6]) (by kernel_rfl) (by simp) ?_
                            refine AllT.cons rfl (by decide) (fun K hK => ?_) ?_
                            · refine step_store_at (by rfl) _ _ _ (by rfl) ga (realLv x se1 su1).cells (by rfl) (by rfl) (there_of_block (HS4.out.ea ga rfl).2 rfl) (sizeLv _) (lv_all _) ?_
                              obtain ⟨wo, hwo⟩ : ∃ wo : World, wo = World.setCells q4 ga 0 (realLv x se1 su1).cells.toList := ⟨_, rfl⟩
                              have HO := Lib.hid HS4.out.one
                              have HDN := Lib.hid HS4.out.done
                              rw [← hwo] at HO HDN ⊢
                              clear hwo
                              refine hK.out _ _ (by exact HO.out.1) ?_
                              clear hK K
                              try simp only [List.getElem_toArray, List.getElem_cons_zero, List.getElem_cons_succ, Act.put, List.setIfInBounds_toArray, List.set_cons_zero, List.set_cons_succ]
                              refine wt_last (k := 7) (by kernel_rfl) (by kernel_rfl) (by decide) rfl (fun K hK => ?_)
                              refine step_store_at (by rfl) _ _ _ (by rfl) gb (realLv y se2 su2).cells (by rfl) (by rfl) (there_of_block HO.out.2 rfl) (sizeLv _) (lv_all _) ?_
                              obtain ⟨wp, hwp⟩ : ∃ wp : World, wp = World.setCells wo gb 0 (realLv y se2 su2).cells.toList := ⟨_, rfl⟩
                              rw [← hwp] at HDN ⊢
                              clear hwp
                              refine hK.out _ _ ?_
                              clear hK K
                              try simp only [List.getElem_toArray, List.getElem_cons_zero, List.getElem_cons_succ, Act.put, List.setIfInBounds_toArray, List.set_cons_zero, List.set_cons_succ]
                              go_wp2_with fail
                              go_meet
                              exact ⟨_, _, ga, gb, rfl, rfl, HDN.out⟩
                            exact AllT.nil
                          exact AllT.nil
                        exact AllT.nil
                      refine AllT.cons rfl (by decide) (fun K hK => ?_) ?_
                      · go_simp
                        obtain ⟨q2, hwn⟩ : ∃ wn : World, wn = World.alloc q1 (.cells #[.int .i64 0, .int .i64 0, .int .i64 0, .int .i64 0, .int .i64 0, .int .i64 0, .int .i64 0, .slice none 0 0, .slice none 0 0] 30) := ⟨_, rfl⟩
                        have HS2 := Lib.hid HS1.out.newb
                        rw [show World.alloc q1 (.cells zLv.cells 30) = q2 from hwn.symm] at HS2
                        rw [← hwn]
                        clear hwn
                        obtain ⟨gb, hgb⟩ : ∃ g, g = (World.heap q1).size := ⟨_, rfl⟩
                        rw [← hgb] at HS2 ⊢
                        clear hgb
                        refine hK.out _ _ (by exact HS2.out.bel) ?_
                        clear hK K
                        try simp only [List.getElem_toArray, List.getElem_cons_zero, List.getElem_cons_succ, Act.put, List.setIfInBounds_toArray, List.set_cons_zero, List.set_cons_succ]
                        refine wt_ready (rs := [3, 4]) (by kernel_rfl) (by simp) ?_
                        refine AllT.cons rfl (by decide) (fun K hK => ?_) ?_
                        · go_simp
                          go_at_call 8
                          refine (real_calls _ y ey uy (HEY0.out.below (HV8.out.trans (HS2.out.bel.mono HV8.out.size)) rfl) (HUY0.out.below (HV8.out.trans (HS2.out.bel.mono HV8.out.size)) rfl) (few_len HFW2.out) (few_len HFW3.out)).mono ?_
                          rintro e q3 ⟨se2, su2, rfl, hr1, hr2, hbz⟩
                          have HS3 := Lib.hid (HS2.out.real2 hbz ⟨se2, su2, rfl, hr1, hr2⟩)
                          clear hr1 hr2 hbz
                          refine hK.out _ _ (by exact HS3.out.bel) ?_
                          clear hK K
                          try simp only [List.getElem_toArray, List.getElem_cons_zero, List.getElem_cons_succ, Act.put, List.setIfInBounds_toArray, List.set_cons_zero, List.set_cons_succ]
                          refine wt_ready (rs := [4]) (by kernel_rfl) (by simp) ?_
                          refine AllT.cons rfl (by decide) (fun K hK => ?_) ?_
                          · go_simp
                            obtain ⟨q4, hwn⟩ : ∃ wn : World, wn = World.alloc q3 (.cells #[.int .i64 0, .int .i64 0, .int .i64 0, .int .i64 0, .int .i64 0, .int .i64 0, .int .i64 0, .slice none 0 0, .slice none 0 0] 30) := ⟨_, rfl⟩
                            have HS4 := Lib.hid HS3.out.newa
                            rw [show World.alloc q3 (.cells zLv.cells 30) = q4 from hwn.symm] at HS4
                            rw [← hwn]
                            clear hwn
                            obtain ⟨ga, hga⟩ : ∃ g, g = (World.heap q3).size := ⟨_, rfl⟩
                            rw [← hga] at HS4 ⊢
                            clear hga
                            refine hK.out _ _ (by exact HS4.out.bel) ?_
                            clear hK K
                            try simp only [List.getElem_toArray, List.getElem_cons_zero, List.getElem_cons_succ, Act.put, List.setIfInBounds_toArray, List.set_cons_zero, List.set_cons_succ]
                            refine wt_ready (rs := [6]) (by kernel_rfl) (by simp) ?_
                            refine AllT.cons rfl (by decide) (fun K hK => ?_) ?_
                            · refine step_store_at (by rfl) _ _ _ (by rfl) ga (realLv x se1 su1).cells (by rfl) (by rfl) (there_of_block (HS4.out.ea ga rfl).2 rfl) (sizeLv _) (lv_all _) ?_
                              obtain ⟨wo, hwo⟩ : ∃ wo : World, wo = World.setCells q4 ga 0 (realLv x se1 su1).cells.toList := ⟨_, rfl⟩
                              have HO := Lib.hid HS4.out.one
                              have HDN := Lib.hid HS4.out.done
                              rw [← hwo] at HO HDN ⊢
                              clear hwo
                              refine hK.out _ _ (by exact HO.out.1) ?_
                              clear hK K
                              try simp only [List.getElem_toArray, List.getElem_cons_zero, List.getElem_cons_succ, Act.put, List.setIfInBounds_toArray, List.set_cons_zero, List.set_cons_succ]
                              refine wt_last (k := 7) (by kernel_rfl) (by kernel_rfl) (by decide) rfl (fun K hK => ?_)
                              refine step_store_at (by rfl) _ _ _ (by rfl) gb (realLv y se2 su2).cells (by rfl) (by rfl) (there_of_block HO.out.2 rfl) (sizeLv _) (lv_all _) ?_
                              obtain ⟨wp, hwp⟩ : ∃ wp : World, wp = World.setCells wo gb 0 (realLv y se2 su2).cells.toList := ⟨_, rfl⟩
                              rw [← hwp] at HDN ⊢
                              clear hwp
                              refine hK.out _ _ ?_
                              clear hK K
                              try simp only [List.getElem_toArray, List.getElem_cons_zero, List.getElem_cons_succ, Act.put, List.setIfInBounds_toArray, List.set_cons_zero, List.set_cons_succ]
                              go_wp2_with fail
                              go_meet
                              exact ⟨_, _, ga, gb, rfl, rfl, HDN.out⟩
                            exact AllT.nil
                          exact AllT.nil
                        refine AllT.cons rfl (by decide) (fun K hK => ?_) ?_
                        · go_simp
                          obtain ⟨q3, hwn⟩ : ∃ wn : World, wn = World.alloc q2 (.cells #[.int .i64 0, .int .i64 0, .int .i64 0, .int .i64 0, .int .i64 0, .int .i64 0, .int .i64 0, .slice none 0 0, .slice none 0 0] 30) := ⟨_, rfl⟩
                          have HS3 := Lib.hid HS2.out.newa
                          rw [show World.alloc q2 (.cells zLv.cells 30) = q3 from hwn.symm] at HS3
                          rw [← hwn]
                          clear hwn
                          obtain ⟨ga, hga⟩ : ∃ g, g = (World.heap q2).size := ⟨_, rfl⟩
                          rw [← hga] at HS3 ⊢
                          clear hga
                          refine hK.out _ _ (by exact HS3.out.bel) ?_
                          clear hK K
                          try simp only [List.getElem_toArray, List.getElem_cons_zero, List.getElem_cons_succ, Act.put, List.setIfInBounds_toArray, List.set_cons_zero, List.set_cons_succ]
                          refine wt_ready (rs := [3]) (by kernel_rfl) (by simp) ?_
                          refine AllT.cons rfl (by decide) (fun K hK => ?_) ?_
                          · go_simp
                            go_at_call 8
                            refine (real_calls _ y ey uy (HEY0.out.below (HV8.out.trans (HS3.out.bel.mono HV8.out.size)) rfl) (HUY0.out.below (HV8.out.trans (HS3.out.bel.mono HV8.out.size)) rfl) (few_len HFW2.out) (few_len HFW3.out)).mono ?_
                            rintro e q4 ⟨se2, su2, rfl, hr1, hr2, hbz⟩
                            have HS4 := Lib.hid (HS3.out.real2 hbz ⟨se2, su2, rfl, hr1, hr2⟩)
                            clear hr1 hr2 hbz
                            refine hK.out _ _ (by exact HS4.out.bel) ?_
                            clear hK K
                            try simp only [List.getElem_toArray, List.getElem_cons_zero, List.getElem_cons_succ, Act.put, List.setIfInBounds_toArray, List.set_cons_zero, List.set_cons_succ]
                            refine wt_ready (rs := [6]) (by kernel_rfl) (by simp) ?_
                            refine AllT.cons rfl (by decide) (fun K hK => ?_) ?_
                            · refine step_store_at (by rfl) _ _ _ (by rfl) ga (realLv x se1 su1).cells (by rfl) (by rfl) (there_of_block (HS4.out.ea ga rfl).2 rfl) (sizeLv _) (lv_all _) ?_
                              obtain ⟨wo, hwo⟩ : ∃ wo : World, wo = World.setCells q4 ga 0 (realLv x se1 su1).cells.toList := ⟨_, rfl⟩
                              have HO := Lib.hid HS4.out.one
                              have HDN := Lib.hid HS4.out.done
                              rw [← hwo] at HO HDN ⊢
                              clear hwo
                              refine hK.out _ _ (by exact HO.out.1) ?_
                              clear hK K
                              try simp only [List.getElem_toArray, List.getElem_cons_zero, List.getElem_cons_succ, Act.put, List.setIfInBounds_toArray, List.set_cons_zero, List.set_cons_succ]
                              refine wt_last (k := 7) (by kernel_rfl) (by kernel_rfl) (by decide) rfl (fun K hK => ?_)
                              refine step_store_at (by rfl) _ _ _ (by rfl) gb (realLv y se2 su2).cells (by rfl) (by rfl) (there_of_block HO.out.2 rfl) (sizeLv _) (lv_all _) ?_
                              obtain ⟨wp, hwp⟩ : ∃ wp : World, wp = World.setCells wo gb 0 (realLv y se2 su2).cells.toList := ⟨_, rfl⟩
                              rw [← hwp] at HDN ⊢
                              clear hwp
                              refine hK.out _ _ ?_
                              clear hK K
                              try simp only [List.getElem_toArray, List.getElem_cons_zero, List.getElem_cons_succ, Act.put, List.setIfInBounds_toArray, List.set_cons_zero, List.set_cons_succ]
                              go_wp2_with fail
                              go_meet
                              exact ⟨_, _, ga, gb, rfl, rfl, HDN.out⟩
                            exact AllT.nil
                          exact AllT.nil
                        exact AllT.nil
                      exact AllT.nil
                    refine AllT.cons rfl (by decide) (fun K hK => ?_) ?_
                    · go_simp
                      obtain ⟨q1, hwn⟩ : ∃ wn : World, wn = World.alloc q0 (.cells #[.int .i64 0, .int .i64 0, .int .i64 0, .int .i64 0, .int .i64 0, .int .i64 0, .int .i64 0, .slice none 0 0, .slice none 0 0] 30) := ⟨_, rfl⟩
                      have HS1 := Lib.hid HS0.out.newa
                      rw [show World.alloc q0 (.cells zLv.cells 30) = q1 from hwn.symm] at HS1
                      rw [← hwn]
                      clear hwn
                      obtain ⟨ga, hga⟩ : ∃ g, g = (World.heap q0).size := ⟨_, rfl⟩
                      rw [← hga] at HS1 ⊢
                      clear hga
                      refine hK.out _ _ (by exact HS1.out.bel) ?_
                      clear hK K
                      try simp only [List.getElem_toArray, List.getElem_cons_zero, List.getElem_cons_succ, Act.put, List.setIfInBounds_toArray, List.set_cons_zero, List.set_cons_succ]
                      refine wt_ready (rs := [1, 5]) (by kernel_rfl) (by simp) ?_
                      refine AllT.cons rfl (by decide) (fun K hK => ?_) ?_
                      · go_simp
                        go_at_call 8
                        refine (real_calls _ x ex ux (HEX0.out.below (HV8.out.trans (HS1.out.bel.mono HV8.out.size)) rfl) (HUX0.out.below (HV8.out.trans (HS1.out.bel.mono HV8.out.size)) rfl) (few_len HFW0.out) (few_len HFW1.out)).mono ?_
                        rintro e q2 ⟨se1, su1, rfl, hr1, hr2, hbz⟩
                        have HS2 := Lib.hid (HS1.out.real1 hbz ⟨se1, su1, rfl, hr1, hr2⟩)
                        clear hr1 hr2 hbz
                        refine hK.out _ _ (by exact HS2.out.bel) ?_
                        clear hK K
                        try simp only [List.getElem_toArray, List.getElem_cons_zero, List.getElem_cons_succ, Act.put, List.setIfInBounds_toArray, List.set_cons_zero, List.set_cons_succ]
                        refine wt_ready (rs := [3, 5]) (by kernel_rfl) (by simp) ?_
                        refine AllT.cons rfl (by decide) (fun K hK => ?_) ?_
                        · go_simp
                          go_at_call 8
                          refine (real_calls _ y ey uy (HEY0.out.below (HV8.out.trans (HS2.out.bel.mono HV8.out.size)) rfl) (HUY0.out.below (HV8.out.trans (HS2.out.bel.mono HV8.out.size)) rfl) (few_len HFW2.out) (few_len HFW3.out)).mono ?_
                          rintro e q3 ⟨se2, su2, rfl, hr1, hr2, hbz⟩
                          have HS3 := Lib.hid (HS2.out.real2 hbz ⟨se2, su2, rfl, hr1, hr2⟩)
                          clear hr1 hr2 hbz
                          refine hK.out _ _ (by exact HS3.out.bel) ?_
                          clear hK K
                          try simp only [List.getElem_toArray, List.getElem_cons_zero, List.getElem_cons_succ, Act.put, List.setIfInBounds_toArray, List.set_cons_zero, List.set_cons_succ]
                          refine wt_ready (rs := [5]) (by kernel_rfl) (by simp) ?_
                          refine AllT.cons rfl (by decide) (fun K hK => ?_) ?_
                          · go_simp
                            obtain ⟨q4, hwn⟩ : ∃ wn : World, wn = World.alloc q3 (.cells #[.int .i64 0, .int .i64 0, .int .i64 0, .int .i64 0, .int .i64 0, .int .i64 0, .int .i64 0, .slice none 0 0, .slice none 0 0] 30) := ⟨_, rfl⟩
                            have HS4 := Lib.hid HS3.out.newb
                            rw [show World.alloc q3 (.cells zLv.cells 30) = q4 from hwn.symm] at HS4
                            rw [← hwn]
                            clear hwn
                            obtain ⟨gb, hgb⟩ : ∃ g, g = (World.heap q3).size := ⟨_, rfl⟩
                            rw [← hgb] at HS4 ⊢
                            clear hgb
                            refine hK.out _ _ (by exact HS4.out.bel) ?_
                            clear hK K
                            try simp only [List.getElem_toArray, List.getElem_cons_zero, List.getElem_cons_succ, Act.put, List.setIfInBounds_toArray, List.set_cons_zero, List.set_cons_succ]
                            refine wt_ready (rs := [6]) (by kernel_rfl) (by simp) ?_
                            refine AllT.cons rfl (by decide) (fun K hK => ?_) ?_
                            · refine step_store_at (by rfl) _ _ _ (by rfl) ga (realLv x se1 su1).cells (by rfl) (by rfl) (there_of_block (HS4.out.ea ga rfl).2 rfl) (sizeLv _) (lv_all _) ?_
                              obtain ⟨wo, hwo⟩ : ∃ wo : World, wo = World.setCells q4 ga 0 (realLv x se1 su1).cells.toList := ⟨_, rfl⟩
                              have HO := Lib.hid HS4.out.one
                              have HDN := Lib.hid HS4.out.done
                              rw [← hwo] at HO HDN ⊢
                              clear hwo
                              refine hK.out _ _ (by exact HO.out.1) ?_
                              clear hK K
                              try simp only [List.getElem_toArray, List.getElem_cons_zero, List.getElem_cons_succ, Act.put, List.setIfInBounds_toArray, List.set_cons_zero, List.set_cons_succ]
                              refine wt_last (k := 7) (by kernel_rfl) (by kernel_rfl) (by decide) rfl (fun K hK => ?_)
                              refine step_store_at (by rfl) _ _ _ (by rfl) gb (realLv y se2 su2).cells (by rfl) (by rfl) (there_of_block HO.out.2 rfl) (sizeLv _) (lv_all _) ?_
                              obtain ⟨wp, hwp⟩ : ∃ wp : World, wp = World.setCells wo gb 0 (realLv y se2 su2).cells.toList := ⟨_, rfl⟩
                              rw [← hwp] at HDN ⊢
                              clear hwp
                              refine hK.out _ _ ?_
                              clear hK K
                              try simp only [List.getElem_toArray, List.getElem_cons_zero, List.getElem_cons_succ, Act.put, List.setIfInBounds_toArray, List.set_cons_zero, List.set_cons_succ]
                              go_wp2_with fail
                              go_meet
                              exact ⟨_, _, ga, gb, rfl, rfl, HDN.out⟩
                            exact AllT.nil
                          exact AllT.nil
                        refine AllT.cons rfl (by decide) (fun K hK => ?_) ?_
                        · go_simp
                          obtain ⟨q3, hwn⟩ : ∃ wn : World, wn = World.alloc q2 (.cells #[.int .i64 0, .int .i64 0, .int .i64 0, .int .i64 0, .int .i64 0, .int .i64 0, .int .i64 0, .slice none 0 0, .slice none 0 0] 30) := ⟨_, rfl⟩
                          have HS3 := Lib.hid HS2.out.newb
                          rw [show World.alloc q2 (.cells zLv.cells 30) = q3 from hwn.symm] at HS3
                          rw [← hwn]
                          clear hwn
                          obtain ⟨gb, hgb⟩ : ∃ g, g = (World.heap q2).size := ⟨_, rfl⟩
                          rw [← hgb] at HS3 ⊢
                          clear hgb
                          refine hK.out _ _ (by exact HS3.out.bel) ?_
                          clear hK K
                          try simp only [List.getElem_toArray, List.getElem_cons_zero, List.getElem_cons_succ, Act.put, List.setIfInBounds_toArray, List.set_cons_zero, List.set_cons_succ]
                          refine wt_ready (rs := [3]) (by kernel_rfl) (by simp) ?_
                          refine AllT.cons rfl (by decide) (fun K hK => ?_) ?_
                          · go_simp
                            go_at_call 8
                            refine (real_calls _ y ey uy (HEY0.out.below (HV8.out.trans (HS3.out.bel.mono HV8.out.size)) rfl) (HUY0.out.below (HV8.out.trans (HS3.out.bel.mono HV8.out.size)) rfl) (few_len HFW2.out) (few_len HFW3.out)).mono ?_
                            rintro e q4 ⟨se2, su2, rfl, hr1, hr2, hbz⟩
                            have HS4 := Lib.hid (HS3.out.real2 hbz ⟨se2, su2, rfl, hr1, hr2⟩)
                            clear hr1 hr2 hbz
                            refine hK.out _ _ (by exact HS4.out.bel) ?_
                            clear hK K
                            try simp only [List.getElem_toArray, List.getElem_cons_zero, List.getElem_cons_succ, Act.put, List.setIfInBounds_toArray, List.set_cons_zero, List.set_cons_succ]
                            refine wt_ready (rs := [6]) (by kernel_rfl) (by simp) ?_
                            refine AllT.cons rfl (by decide) (fun K hK => ?_) ?_
                            · refine step_store_at (by rfl) _ _ _ (by rfl) ga (realLv x se1 su1).cells (by rfl) (by rfl) (there_of_block (HS4.out.ea ga rfl).2 rfl) (sizeLv _) (lv_all _) ?_
                              obtain ⟨wo, hwo⟩ : ∃ wo : World, wo = World.setCells q4 ga 0 (realLv x se1 su1).cells.toList := ⟨_, rfl⟩
                              have HO := Lib.hid HS4.out.one
                              have HDN := Lib.hid HS4.out.done
                              rw [← hwo] at HO HDN ⊢
                              clear hwo
                              refine hK.out _ _ (by exact HO.out.1) ?_
                              clear hK K
                              try simp only [List.getElem_toArray, List.getElem_cons_zero, List.getElem_cons_succ, Act.put, List.setIfInBounds_toArray, List.set_cons_zero, List.set_cons_succ]
                              refine wt_last (k := 7) (by kernel_rfl) (by kernel_rfl) (by decide) rfl (fun K hK => ?_)
                              refine step_store_at (by rfl) _ _ _ (by rfl) gb (realLv y se2 su2).cells (by rfl) (by rfl) (there_of_block HO.out.2 rfl) (sizeLv _) (lv_all _) ?_
                              obtain ⟨wp, hwp⟩ : ∃ wp : World, wp = World.setCells wo gb 0 (realLv y se2 su2).cells.toList := ⟨_, rfl⟩
                              rw [← hwp] at HDN ⊢
                              clear hwp
                              refine hK.out _ _ ?_
                              clear hK K
                              try simp only [List.getElem_toArray, List.getElem_cons_zero, List.getElem_cons_succ, Act.put, List.setIfInBounds_toArray, List.set_cons_zero, List.set_cons_succ]
                              go_wp2_with fail
                              go_meet
                              exact ⟨_, _, ga, gb, rfl, rfl, HDN.out⟩
                            exact AllT.nil
                          exact AllT.nil
                        exact AllT.nil
                      refine AllT.cons rfl (by decide) (fun K hK => ?_) ?_
                      · go_simp
                        obtain ⟨q2, hwn⟩ : ∃ wn : World, wn = World.alloc q1 (.cells #[.int .i64 0, .int .i64 0, .int .i64 0, .int .i64 0, .int .i64 0, .int .i64 0, .int .i64 0, .slice none 0 0, .slice none 0 0] 30) := ⟨_, rfl⟩
                        have HS2 := Lib.hid HS1.out.newb
                        rw [show World.alloc q1 (.cells zLv.cells 30) = q2 from hwn.symm] at HS2
                        rw [← hwn]
                        clear hwn
                        obtain ⟨gb, hgb⟩ : ∃ g, g = (World.heap q1).size := ⟨_, rfl⟩
                        rw [← hgb] at HS2 ⊢
                        clear hgb
                        refine hK.out _ _ (by exact HS2.out.bel) ?_
                        clear hK K
                        try simp only [List.getElem_toArray, List.getElem_cons_zero, List.getElem_cons_succ, Act.put, List.setIfInBounds_toArray, List.set_cons_zero, List.set_cons_succ]
                        refine wt_ready (rs := [1]) (by kernel_rfl) (by simp) ?_
                        refine AllT.cons rfl (by decide) (fun K hK => ?_) ?_
                        · go_simp
                          go_at_call 8
                          refine (real_calls _ x ex ux (HEX0.out.below (HV8.out.trans (HS2.out.bel.mono HV8.out.size)) rfl) (HUX0.out.below (HV8.out.trans (HS2.out.bel.mono HV8.out.size)) rfl) (few_len HFW0.out) (few_len HFW1.out)).mono ?_
                          rintro e q3 ⟨se1, su1, rfl, hr1, hr2, hbz⟩
                          have HS3 := Lib.hid (HS2.out.real1 hbz ⟨se1, su1, rfl, hr1, hr2⟩)
                          clear hr1 hr2 hbz
                          refine hK.out _ _ (by exact HS3.out.bel) ?_
                          clear hK K
                          try simp only [List.getElem_toArray, List.getElem_cons_zero, List.getElem_cons_succ, Act.put, List.setIfInBounds_toArray, List.set_cons_zero, List.set_cons_succ]
                          refine wt_ready (rs := [3]) (by kernel_rfl) (by simp) ?_
                          refine AllT.cons rfl (by decide) (fun K hK => ?_) ?_
                          · go_simp
                            go_at_call 8
                            refine (real_calls _ y ey uy (HEY0.out.below (HV8.out.trans (HS3.out.bel.mono HV8.out.size)) rfl) (HUY0.out.below (HV8.out.trans (HS3.out.bel.mono HV8.out.size)) rfl) (few_len HFW2.out) (few_len HFW3.out)).mono ?_
                            rintro e q4 ⟨se2, su2, rfl, hr1, hr2, hbz⟩
                            have HS4 := Lib.hid (HS3.out.real2 hbz ⟨se2, su2, rfl, hr1, hr2⟩)
                            clear hr1 hr2 hbz
                            refine hK.out _ _ (by exact HS4.out.bel) ?_
                            clear hK K
                            try simp only [List.getElem_toArray, List.getElem_cons_zero, List.getElem_cons_succ, Act.put, List.setIfInBounds_toArray, List.set_cons_zero, List.set_cons_succ]
                            refine wt_ready (rs := [6]) (by kernel_rfl) (by simp) ?_
                            refine AllT.cons rfl (by decide) (fun K hK => ?_) ?_
                            · refine step_store_at (by rfl) _ _ _ (by rfl) ga (realLv x se1 su1).cells (by rfl) (by rfl) (there_of_block (HS4.out.ea ga rfl).2 rfl) (sizeLv _) (lv_all _) ?_
                              obtain ⟨wo, hwo⟩ : ∃ wo : World, wo = World.setCells q4 ga 0 (realLv x se1 su1).cells.toList := ⟨_, rfl⟩
                              have HO := Lib.hid HS4.out.one
                              have HDN := Lib.hid HS4.out.done
                              rw [← hwo] at HO HDN ⊢
                              clear hwo
                              refine hK.out _ _ (by exact HO.out.1) ?_
                              clear hK K
                              try simp only [List.getElem_toArray, List.getElem_cons_zero, List.getElem_cons_succ, Act.put, List.setIfInBounds_toArray, List.set_cons_zero, List.set_cons_succ]
                              refine wt_last (k := 7) (by kernel_rfl) (by kernel_rfl) (by decide) rfl (fun K hK => ?_)
                              refine step_store_at (by rfl) _ _ _ (by rfl) gb (realLv y se2 su2).cells (by rfl) (by rfl) (there_of_block HO.out.2 rfl) (sizeLv _) (lv_all _) ?_
                              obtain ⟨wp, hwp⟩ : ∃ wp : World, wp = World.setCells wo gb 0 (realLv y se2 su2).cells.toList := ⟨_, rfl⟩
                              rw [← hwp] at HDN ⊢
                              clear hwp
                              refine hK.out _ _ ?_
                              clear hK K
                              try simp only [List.getElem_toArray, List.getElem_cons_zero, List.getElem_cons_succ, Act.put, List.setIfInBounds_toArray, List.set_cons_zero, List.set_cons_succ]
                              go_wp2_with fail
                              go_meet
                              exact ⟨_, _, ga, gb, rfl, rfl, HDN.out⟩
                            exact AllT.nil
                          exact AllT.nil
                        exact AllT.nil
                      exact AllT.nil
                    refine AllT.cons rfl (by decide) (fun K hK => ?_) ?_
                    · go_simp
                      obtain ⟨q1, hwn⟩ : ∃ wn : World, wn = World.alloc q0 (.cells #[.int .i64 0, .int .i64 0, .int .i64 0, .int .i64 0, .int .i64 0, .int .i64 0, .int .i64 0, .slice none 0 0, .slice none 0 0] 30) := ⟨_, rfl⟩
                      have HS1 := Lib.hid HS0.out.newb
                      rw [show World.alloc q0 (.cells zLv.cells 30) = q1 from hwn.symm] at HS1
                      rw [← hwn]
                      clear hwn
                      obtain ⟨gb, hgb⟩ : ∃ g, g = (World.heap q0).size := ⟨_, rfl⟩
                      rw [← hgb] at HS1 ⊢
                      clear hgb
                      refine hK.out _ _ (by exact HS1.out.bel) ?_
                      clear hK K
                      try simp only [List.getElem_toArray, List.getElem_cons_zero, List.getElem_cons_succ, Act.put, List.setIfInBounds_toArray, List.set_cons_zero, List.set_cons_succ]
                      refine wt_ready (rs := [1, 4]) (by kernel_rfl) (by simp) ?_
                      refine AllT.cons rfl (by decide) (fun K hK => ?_) ?_
                      · go_simp
                        go_at_call 8
                        refine (real_calls _ x ex ux (HEX0.out.below (HV8.out.trans (HS1.out.bel.mono HV8.out.size)) rfl) (HUX0.out.below (HV8.out.trans (HS1.out.bel.mono HV8.out.size)) rfl) (few_len HFW0.out) (few_len HFW1.out)).mono ?_
                        rintro e q2 ⟨se1, su1, rfl, hr1, hr2, hbz⟩
                        have HS2 := Lib.hid (HS1.out.real1 hbz ⟨se1, su1, rfl, hr1, hr2⟩)
                        clear hr1 hr2 hbz
                        refine hK.out _ _ (by exact HS2.out.bel) ?_
                        clear hK K
                        try simp only [List.getElem_toArray, List.getElem_cons_zero, List.getElem_cons_succ, Act.put, List.setIfInBounds_toArray, List.set_cons_zero, List.set_cons_succ]
                        refine wt_ready (rs := [3, 4]) (by kernel_rfl) (by simp) ?_
                        refine AllT.cons rfl (by decide) (fun K hK => ?_) ?_
                        · go_simp
                          go_at_call 8
                          refine (real_calls _ y ey uy (HEY0.out.below (HV8.out.trans (HS2.out.bel.mono HV8.out.size)) rfl) (HUY0.out.below (HV8.out.trans (HS2.out.bel.mono HV8.out.size)) rfl) (few_len HFW2.out) (few_len HFW3.out)).mono ?_
                          rintro e q3 ⟨se2, su2, rfl, hr1, hr2, hbz⟩
                          have HS3 := Lib.hid (HS2.out.real2 hbz ⟨se2, su2, rfl, hr1, hr2⟩)
                          clear hr1 hr2 hbz
                          refine hK.out _ _ (by exact HS3.out.bel) ?_
                          clear hK K
                          try simp only [List.getElem_toArray, List.getElem_cons_zero, List.getElem_cons_succ, Act.put, List.setIfInBounds_toArray, List.set_cons_zero, List.set_cons_succ]
                          refine wt_ready (rs := [4]) (by kernel_rfl) (by simp) ?_
                          refine AllT.cons rfl (by decide) (fun K hK => ?_) ?_
                          · go_simp
                            obtain ⟨q4, hwn⟩ : ∃ wn : World, wn = World.alloc q3 (.cells #[.int .i64 0, .int .i64 0, .int .i64 0, .int .i64 0, .int .i64 0, .int .i64 0, .int .i64 0, .slice none 0 0, .slice none 0 0] 30) := ⟨_, rfl⟩
                            have HS4 := Lib.hid HS3.out.newa
                            rw [show World.alloc q3 (.cells zLv.cells 30) = q4 from hwn.symm] at HS4
                            rw [← hwn]
                            clear hwn
                            obtain ⟨ga, hga⟩ : ∃ g, g = (World.heap q3).size := ⟨_, rfl⟩
                            rw [← hga] at HS4 ⊢
                            clear hga
                            refine hK.out _ _ (by exact HS4.out.bel) ?_
                            clear hK K
                            try simp only [List.getElem_toArray, List.getElem_cons_zero, List.getElem_cons_succ, Act.put, List.setIfInBounds_toArray, List.set_cons_zero, List.set_cons_succ]
                            refine wt_ready (rs := [6]) (by kernel_rfl) (by simp) ?_
                            refine AllT.cons rfl (by decide) (fun K hK => ?_) ?_
                            · refine step_store_at (by rfl) _ _ _ (by rfl) ga (realLv x se1 su1).cells (by rfl) (by rfl) (there_of_block (HS4.out.ea ga rfl).2 rfl) (sizeLv _) (lv_all _) ?_
                              obtain ⟨wo, hwo⟩ : ∃ wo : World, wo = World.setCells q4 ga 0 (realLv x se1 su1).cells.toList := ⟨_, rfl⟩
                              have HO := Lib.hid HS4.out.one
                              have HDN := Lib.hid HS4.out.done
                              rw [← hwo] at HO HDN ⊢
                              clear hwo
                              refine hK.out _ _ (by exact HO.out.1) ?_
                              clear hK K
                              try simp only [List.getElem_toArray, List.getElem_cons_zero, List.getElem_cons_succ, Act.put, List.setIfInBounds_toArray, List.set_cons_zero, List.set_cons_succ]
                              refine wt_last (k := 7) (by kernel_rfl) (by kernel_rfl) (by decide) rfl (fun K hK => ?_)
                              refine step_store_at (by rfl) _ _ _ (by rfl) gb (realLv y se2 su2).cells (by rfl) (by rfl) (there_of_block HO.out.2 rfl) (sizeLv _) (lv_all _) ?_
                              obtain ⟨wp, hwp⟩ : ∃ wp : World, wp = World.setCells wo gb 0 (realLv y se2 su2).cells.toList := ⟨_, rfl⟩
                              rw [← hwp] at HDN ⊢
                              clear hwp
                              refine hK.out _ _ ?_
                              clear hK K
                              try simp only [List.getElem_toArray, List.getElem_cons_zero, List.getElem_cons_succ, Act.put, List.setIfInBounds_toArray, List.set_cons_zero, List.set_cons_succ]
                              go_wp2_with fail
                              go_meet
                              exact ⟨_, _, ga, gb, rfl, rfl, HDN.out⟩
                            exact AllT.nil
                          exact AllT.nil
                        refine AllT.cons rfl (by decide) (fun K hK => ?_) ?_
                        · go_simp
                          obtain ⟨q3, hwn⟩ : ∃ wn : World, wn = World.alloc q2 (.cells #[.int .i64 0, .int .i64 0, .int .i64 0, .int .i64 0, .int .i64 0, .int .i64 0, .int .i64 0, .slice none 0 0, .slice none 0 0] 30) := ⟨_, rfl⟩
                          have HS3 := Lib.hid HS2.out.newa
                          rw [show World.alloc q2 (.cells zLv.cells 30) = q3 from hwn.symm] at HS3
                          rw [← hwn]
                          clear hwn
                          obtain ⟨ga, hga⟩ : ∃ g, g = (World.heap q2).size := ⟨_, rfl⟩
                          rw [← hga] at HS3 ⊢
                          clear hga
                          refine hK.out _ _ (by exact HS3.out.bel) ?_
                          clear hK K
                          try simp only [List.getElem_toArray, List.getElem_cons_zero, List.getElem_cons_succ, Act.put, List.setIfInBounds_toArray, List.set_cons_zero, List.set_cons_succ]
                          refine wt_ready (rs := [3]) (by kernel_rfl) (by simp) ?_
                          refine AllT.cons rfl (by decide) (fun K hK => ?_) ?_
                          · go_simp
                            go_at_call 8
                            refine (real_calls _ y ey uy (HEY0.out.below (HV8.out.trans (HS3.out.bel.mono HV8.out.size)) rfl) (HUY0.out.below (HV8.out.trans (HS3.out.bel.mono HV8.out.size)) rfl) (few_len HFW2.out) (few_len HFW3.out)).mono ?_
                            rintro e q4 ⟨se2, su2, rfl, hr1, hr2, hbz⟩
                            have HS4 := Lib.hid (HS3.out.real2 hbz ⟨se2, su2, rfl, hr1, hr2⟩)
                            clear hr1 hr2 hbz
                            refine hK.out _ _ (by exact HS4.out.bel) ?_
                            clear hK K
                            try simp only [List.getElem_toArray, List.getElem_cons_zero, List.getElem_cons_succ, Act.put, List.setIfInBounds_toArray, List.set_cons_zero, List.set_cons_succ]
                            refine wt_ready (rs := [6]) (by kernel_rfl) (by simp) ?_
                            refine AllT.cons rfl (by decide) (fun K hK => ?_) ?_
                            · refine step_store_at (by rfl) _ _ _ (by rfl) ga (realLv x se1 su1).cells (by rfl) (by rfl) (there_of_block (HS4.out.ea ga rfl).2 rfl) (sizeLv _) (lv_all _) ?_
                              obtain ⟨wo, hwo⟩ : ∃ wo : World, wo = World.setCells q4 ga 0 (realLv x se1 su1).cells.toList := ⟨_, rfl⟩
                              have HO := Lib.hid HS4.out.one
                              have HDN := Lib.hid HS4.out.done
                              rw [← hwo] at HO HDN ⊢
                              clear hwo
                              refine hK.out _ _ (by exact HO.out.1) ?_
                              clear hK K
                              try simp only [List.getElem_toArray, List.getElem_cons_zero, List.getElem_cons_succ, Act.put, List.setIfInBounds_toArray, List.set_cons_zero, List.set_cons_succ]
                              refine wt_last (k := 7) (by kernel_rfl) (by kernel_rfl) (by decide) rfl (fun K hK => ?_)
                              refine step_store_at (by rfl) _ _ _ (by rfl) gb (realLv y se2 su2).cells (by rfl) (by rfl) (there_of_block HO.out.2 rfl) (sizeLv _) (lv_all _) ?_
                              obtain ⟨wp, hwp⟩ : ∃ wp : World, wp = World.setCells wo gb 0 (realLv y se2 su2).cells.toList := ⟨_, rfl⟩
                              rw [← hwp] at HDN ⊢
                              clear hwp
                              refine hK.out _ _ ?_
                              clear hK K
                              try simp only [List.getElem_toArray, List.getElem_cons_zero, List.getElem_cons_succ, Act.put, List.setIfInBounds_toArray, List.set_cons_zero, List.set_cons_succ]
                              go_wp2_with fail
                              go_meet
                              exact ⟨_, _, ga, gb, rfl, rfl, HDN.out⟩
                            exact AllT.nil
                          exact AllT.nil
                        exact AllT.nil
                      refine AllT.cons rfl (by decide) (fun K hK => ?_) ?_
                      · go_simp
                        obtain ⟨q2, hwn⟩ : ∃ wn : World, wn = World.alloc q1 (.cells #[.int .i64 0, .int .i64 0, .int .i64 0, .int .i64 0, .int .i64 0, .int .i64 0, .int .i64 0, .slice none 0 0, .slice none 0 0] 30) := ⟨_, rfl⟩
                        have HS2 := Lib.hid HS1.out.newa
                        rw [show World.alloc q1 (.cells zLv.cells 30) = q2 from hwn.symm] at HS2
                        rw [← hwn]
                        clear hwn
                        obtain ⟨ga, hga⟩ : ∃ g, g = (World.heap q1).size := ⟨_, rfl⟩
                        rw [← hga] at HS2 ⊢
                        clear hga
                        refine hK.out _ _ (by exact HS2.out.bel) ?_
                        clear hK K
                        try simp only [List.getElem_toArray, List.getElem_cons_zero, List.getElem_cons_succ, Act.put, List.setIfInBounds_toArray, List.set_cons_zero, List.set_cons_succ]
                        refine wt_ready (rs := [1]) (by kernel_rfl) (by simp) ?_
                        refine AllT.cons rfl (by decide) (fun K hK => ?_) ?_
                        · go_simp
                          go_at_call 8
                          refine (real_calls _ x ex ux (HEX0.out.below (HV8.out.trans (HS2.out.bel.mono HV8.out.size)) rfl) (HUX0.out.below (HV8.out.trans (HS2.out.bel.mono HV8.out.size)) rfl) (few_len HFW0.out) (few_len HFW1.out)).mono ?_
                          rintro e q3 ⟨se1, su1, rfl, hr1, hr2, hbz⟩
                          have HS3 := Lib.hid (HS2.out.real1 hbz ⟨se1, su1, rfl, hr1, hr2⟩)
                          clear hr1 hr2 hbz
                          refine hK.out _ _ (by exact HS3.out.bel) ?_
                          clear hK K
                          try simp only [List.getElem_toArray, List.getElem_cons_zero, List.getElem_cons_succ, Act.put, List.setIfInBounds_toArray, List.set_cons_zero, List.set_cons_succ]
                          refine wt_ready (rs := [3]) (by kernel_rfl) (by simp) ?_
                          refine AllT.cons rfl (by decide) (fun K hK => ?_) ?_
                          · go_simp
                            go_at_call 8
                            refine (real_calls _ y ey uy (HEY0.out.below (HV8.out.trans (HS3.out.bel.mono HV8.out.size)) rfl) (HUY0.out.below (HV8.out.trans (HS3.out.bel.mono HV8.out.size)) rfl) (few_len HFW2.out) (few_len HFW3.out)).mono ?_
                            rintro e q4 ⟨se2, su2, rfl, hr1, hr2, hbz⟩
                            have HS4 := Lib.hid (HS3.out.real2 hbz ⟨se2, su2, rfl, hr1, hr2⟩)
                            clear hr1 hr2 hbz
                            refine hK.out _ _ (by exact HS4.out.bel) ?_
                            clear hK K
                            try simp only [List.getElem_toArray, List.getElem_cons_zero, List.getElem_cons_succ, Act.put, List.setIfInBounds_toArray, List.set_cons_zero, List.set_cons_succ]
                            refine wt_ready (rs := [6]) (by kernel_rfl) (by simp) ?_
                            refine AllT.cons rfl (by decide) (fun K hK => ?_) ?_
                            · refine step_store_at (by rfl) _ _ _ (by rfl) ga (realLv x se1 su1).cells (by rfl) (by rfl) (there_of_block (HS4.out.ea ga rfl).2 rfl) (sizeLv _) (lv_all _) ?_
                              obtain ⟨wo, hwo⟩ : ∃ wo : World, wo = World.setCells q4 ga 0 (realLv x se1 su1).cells.toList := ⟨_, rfl⟩
                              have HO := Lib.hid HS4.out.one
                              have HDN := Lib.hid HS4.out.done
                              rw [← hwo] at HO HDN ⊢
                              clear hwo
                              refine hK.out _ _ (by exact HO.out.1) ?_
                              clear hK K
                              try simp only [List.getElem_toArray, List.getElem_cons_zero, List.getElem_cons_succ, Act.put, List.setIfInBounds_toArray, List.set_cons_zero, List.set_cons_succ]
                              refine wt_last (k := 7) (by kernel_rfl) (by kernel_rfl) (by decide) rfl (fun K hK => ?_)
                              refine step_store_at (by rfl) _ _ _ (by rfl) gb (realLv y se2 su2).cells (by rfl) (by rfl) (there_of_block HO.out.2 rfl) (sizeLv _) (lv_all _) ?_
                              obtain ⟨wp, hwp⟩ : ∃ wp : World, wp = World.setCells wo gb 0 (realLv y se2 su2).cells.toList := ⟨_, rfl⟩
                              rw [← hwp] at HDN ⊢
                              clear hwp
                              refine hK.out _ _ ?_
                              clear hK K
                              try simp only [List.getElem_toArray, List.getElem_cons_zero, List.getElem_cons_succ, Act.put, List.setIfInBounds_toArray, List.set_cons_zero, List.set_cons_succ]
                              go_wp2_with fail
                              go_meet
                              exact ⟨_, _, ga, gb, rfl, rfl, HDN.out⟩
                            exact AllT.nil
                          exact AllT.nil
                        exact AllT.nil
                      exact AllT.nil
                    exact AllT.nil
                  case rest =>
                    obtain ⟨l1, l2, ga, gb, rfl, rfl, hbf⟩ := hcut
                    obtain ⟨se, su, rfl, hr1, hr2⟩ := hbf.r1
                    obtain ⟨te, tu, rfl, hr3, hr4⟩ := hbf.r2
                    have HA := Lib.hid hbf.ea
                    have HBb := Lib.hid hbf.eb
                    have HLA := Lib.hid hbf.la
                    have HLB := Lib.hid hbf.lb
                    have HBC := Lib.hid (HV8.out.trans (hbf.bel.mono HV8.out.size))
                    have HB8 := Lib.hid (BB8.out.trans (hbf.bel.mono BB8.out.size))
                    have HCH := Lib.hid (change_calls wc (realLv x se su) (realLv y te tu) by_ (fun g => v8.heap.size ≤ g) ex ux ey uy hr1 hr2 hr3 hr4 (by have := few_20 HFW0.out; have := few_20 HFW2.out; omega) (by have := few_20 HFW1.out; have := few_20 HFW3.out; omega))
                    have HR2 := Lib.hid hr2
                    have HR4 := Lib.hid hr4
                    clear hbf hr1 hr2 hr3 hr4 hlw
                    go_wp2_with (first | (refine wpList_load_at rfl _ _ rfl ⟨ga, 0, none⟩ rfl (Lv.cells (realLv x se su)) _ (Holds.of_block HA.out) Try.underlying30 rfl (sizeLv _) ?_) | (refine wpList_load_at rfl _ _ rfl ⟨gb, 0, none⟩ rfl (Lv.cells (realLv y te tu)) _ (Holds.of_block HBb.out) Try.underlying30 rfl (sizeLv _) ?_))
                    refine HCH.out.mono ?_
                    rintro e wd ⟨v, er, rfl, hch, herr, hb⟩
                    have HBD := Lib.hid (HBC.out.trans (hb.mono HBC.out.size))
                    have HBCD := Lib.hid hb
                    rcases ErrV.nil herr with ⟨rfl, rfl⟩ | ⟨⟨ti, ui, rfl⟩, _⟩
                    rotate_left
                    · clear hch herr hb HCH
                      go_wp2_with fail
                      go_ret
                      exact ⟨rfl, HBD.out⟩
                    · have HOK := Lib.hid (ch_ok hch)
                      have HAD := Lib.hid ((hb.block _ (blk_lt HA.out)).trans HA.out)
                      have HBDb := Lib.hid ((hb.block _ (blk_lt HBb.out)).trans HBb.out)
                      have HU1 := Lib.hid (fun (W : World) (hW : Below wc.heap.size wc W) (n : ByteArray) => user_calls W (fun g => v8.heap.size ≤ g) (realLv x se su) ux n (HR2.out.same hW.size (fun g hg _ => hW.block g hg)))
                      have HU2 := Lib.hid (fun (W : World) (hW : Below wc.heap.size wc W) (n : ByteArray) => user_calls W (fun g => v8.heap.size ≤ g) (realLv y te tu) uy n (HR4.out.same hW.size (fun g hg _ => hW.block g hg)))
                      clear hch herr hb HCH
                      go_wp2_with (refine wpList_load_at rfl _ _ rfl ⟨ga, 0, none⟩ rfl (Lv.cells (realLv x se su)) _ (Holds.of_block HAD.out) Try.underlying30 rfl (sizeLv _) ?_)
                      refine (HU1.out wd HBCD.out by_).mono ?_
                      rintro e we ⟨rfl, hb⟩
                      have HBE := Lib.hid (HBD.out.trans (hb.mono HBD.out.size))
                      have HBCE := Lib.hid (HBCD.out.trans (hb.mono HBCD.out.size))
                      have HAE := Lib.hid ((hb.block _ (blk_lt HAD.out)).trans HAD.out)
                      have HBEb := Lib.hid ((hb.block _ (blk_lt HBDb.out)).trans HBDb.out)
                      obtain ⟨p, hp⟩ : ∃ p, p = userN ux x.n6 by_ := ⟨_, rfl⟩
                      have hpe : (findN ux by_).getD (realLv x se su).user = p := by rw [hp]; rfl
                      rw [hpe]
                      have HPE := Lib.hid hp
                      clear hb hp hpe HAD HBDb
                      obtain ⟨bu, hbu⟩ : ∃ bu, bu = userN uy y.n6 name := ⟨_, rfl⟩
                      obtain ⟨au, hau⟩ : ∃ au, au = userN ux x.n6 name := ⟨_, rfl⟩
                      have HL1 := Lib.hid (show decide (x.n6 ≤ p) = true → decide (bu > p) = true → (bu != au) = false from fun h1 h2 => by
                        have := bound_name (name := name) HOK.out (by rw [← HPE.out]; simpa using h1) (by rw [← HPE.out, ← hbu]; simpa using h2)
                        rw [hbu, hau, this]; simp)
                      have HL2 := Lib.hid (show decide (y.n0 > p) = true → (y.n0 != x.n0) = false from fun h1 => by
                        have := bound_ban HOK.out (by rw [← HPE.out]; simpa using h1)
                        rw [this]; simp)
                      go_upto_region 8 with fail
                      have HUB := Lib.hid (show ∀ W, Below we.heap.size we W → Calls Try.prog 9 #[.agg (realLv y te tu).cells, .string name] W fun e w' => e = .returned (.int .i64 bu) ∧ Below W.heap.size W w' from fun W hW => by have := HU2.out W (HBCE.out.trans (hW.mono HBCE.out.size)) name; rw [hbu]; exact this)
                      have HUA := Lib.hid (show ∀ W, Below we.heap.size we W → Calls Try.prog 9 #[.agg (realLv x se su).cells, .string name] W fun e w' => e = .returned (.int .i64 au) ∧ Below W.heap.size W w' from fun W hW => by have := HU1.out W (HBCE.out.trans (hW.mono HBCE.out.size)) name; rw [hau]; exact this)
                      clear hbu hau
                      go_cut [113] (fun c wx => c = .bool false ∧ Below we.heap.size we wx)
                      case first =>
                        have ca6 : we.cell? ⟨ga, 6, none⟩ = some (.int .i64 x.n6) := cell_at (j := 6) HAE.out rfl
                        have ca0 : we.cell? ⟨ga, 0, none⟩ = some (.int .i64 x.n0) := cell_at (j := 0) HAE.out rfl
                        have cb0 : we.cell? ⟨gb, 0, none⟩ = some (.int .i64 y.n0) := cell_at (j := 0) HBEb.out rfl
                        have hla := blk_lt HAE.out
                        have hlb := blk_lt HBEb.out
                        cases hD : decide (y.n0 > p) with
                        | false =>
                          cases hA : decide (x.n6 ≤ p) with
                          | false =>
                            go_quiet (fail)
                            go_wp2_with fail
                            go_meet
                            exact ⟨rfl, below_drewN' (Below.refl _ _) _⟩
                          | true =>
                            cases hB : decide (bu > p) with
                            | false =>
                              refine wt_start (S := fun W => Below we.heap.size we W) 32 (by kernel_rfl) ⟨by kernel_rfl, by kernel_rfl, by kernel_rfl, by decide⟩ ?_
                              intro HTK
                              have hS0 : Below we.heap.size we we.drew := (Below.refl _ _).drew
                              refine wt_take (i := 0) (v := ?_) HTK.out rfl (by decide) (by kernel_rfl) (by kernel_rfl) (fun _ _ _ h => h) (by exact hS0) (Or.inl ⟨by rfl, ?_⟩) ?_
                              rotate_left
                              · intro W hSw
                                try dsimp only at hSw
                                go_simp
                                try (with_reducible rfl)
                              try simp only [List.getElem_toArray, List.getElem_cons_zero, List.getElem_cons_succ, Act.put, List.setIfInBounds_toArray, List.set_cons_zero, List.set_cons_succ]
                              refine wt_take (i := 1) (v := ?_) HTK.out rfl (by decide) (by kernel_rfl) (by kernel_rfl) (fun _ _ _ h => h) (by exact hS0) (Or.inl ⟨by rfl, ?_⟩) ?_
                              rotate_left
                              · intro W hSw
                                try dsimp only at hSw
                                have q0 := (hSw.cell (p := ⟨ga, 6, none⟩) (by exact hla)).trans ca6
                                go_simp
                                try (with_reducible rfl)
                              try simp only [List.getElem_toArray, List.getElem_cons_zero, List.getElem_cons_succ, Act.put, List.setIfInBounds_toArray, List.set_cons_zero, List.set_cons_succ]
                              refine wt_take (i := 2) (v := ?_) HTK.out rfl (by decide) (by kernel_rfl) (by kernel_rfl) (fun _ _ _ h => h) (by exact hS0) (Or.inl ⟨by rfl, ?_⟩) ?_
                              rotate_left
                              · intro W hSw
                                try dsimp only at hSw
                                go_simp
                                try (with_reducible rfl)
                              try simp only [List.getElem_toArray, List.getElem_cons_zero, List.getElem_cons_succ, Act.put, List.setIfInBounds_toArray, List.set_cons_zero, List.set_cons_succ]
                              refine wt_take (i := 3) (v := ?_) HTK.out rfl (by decide) (by kernel_rfl) (by kernel_rfl) (fun _ _ _ h => h) (by exact hS0) (Or.inl ⟨by rfl, ?_⟩) ?_
                              rotate_left
                              · intro W hSw
                                try dsimp only at hSw
                                go_simp
                                try (with_reducible rfl)
                              try simp only [List.getElem_toArray, List.getElem_cons_zero, List.getElem_cons_succ, Act.put, List.setIfInBounds_toArray, List.set_cons_zero, List.set_cons_succ]
                              refine wt_take (i := 4) (v := ?_) HTK.out rfl (by decide) (by kernel_rfl) (by kernel_rfl) (fun _ _ _ h => h) (by exact hS0) (Or.inl ⟨by rfl, ?_⟩) ?_
                              rotate_left
                              · intro W hSw
                                try dsimp only at hSw
                                go_simp
                                try (with_reducible rfl)
                              try simp only [List.getElem_toArray, List.getElem_cons_zero, List.getElem_cons_succ, Act.put, List.setIfInBounds_toArray, List.set_cons_zero, List.set_cons_succ]
                              refine wt_take (i := 5) (v := .agg (Lv.cells (realLv y te tu))) HTK.out rfl (by decide) (by kernel_rfl) (by kernel_rfl) (fun _ _ _ h => h) (by exact hS0) (yieldsIf_load_at (by rfl) _ _ (by rfl) _ (by rfl) (Lv.cells (realLv y te tu)) _ (fun W hSw => (Holds.of_block HBEb.out).below hSw (by exact hlb)) Try.underlying30 (by rfl) (sizeLv _)) ?_
                              try simp only [List.getElem_toArray, List.getElem_cons_zero, List.getElem_cons_succ, Act.put, List.setIfInBounds_toArray, List.set_cons_zero, List.set_cons_succ]
                              refine wt_take (i := 6) (v := ?_) HTK.out rfl (by decide) (by kernel_rfl) (by kernel_rfl) (fun _ _ _ h => h) (by exact hS0) (Or.inl ⟨by rfl, ?_⟩) ?_
                              rotate_left
                              · intro W hSw
                                try dsimp only at hSw
                                go_simp
                                try (with_reducible rfl)
                              try simp only [List.getElem_toArray, List.getElem_cons_zero, List.getElem_cons_succ, Act.put, List.setIfInBounds_toArray, List.set_cons_zero, List.set_cons_succ]
                              refine wt_take (i := 8) (v := ?_) HTK.out rfl (by decide) (by kernel_rfl) (by kernel_rfl) (fun _ _ _ h => h) (by exact hS0) (Or.inl ⟨by rfl, ?_⟩) ?_
                              rotate_left
                              · intro W hSw
                                try dsimp only at hSw
                                go_simp
                                try (with_reducible rfl)
                              try simp only [List.getElem_toArray, List.getElem_cons_zero, List.getElem_cons_succ, Act.put, List.setIfInBounds_toArray, List.set_cons_zero, List.set_cons_succ]
                              refine wt_ready (rs := [7]) (by kernel_rfl) (by simp) ?_
                              refine AllT.cons rfl (by decide) (fun K hK => ?_) ?_
                              · go_simp
                                go_at_call 9
                                refine (HUB.out _ hS0).mono ?_
                                rintro e wk0 ⟨rfl, hbz⟩
                                have hC0 : Below we.heap.size we wk0 := hS0.trans (hbz.mono hS0.size)
                                clear hbz
                                refine hK.out _ _ (by exact hC0) ?_
                                clear hK K
                                try simp only [List.getElem_toArray, List.getElem_cons_zero, List.getElem_cons_succ, Act.put, List.setIfInBounds_toArray, List.set_cons_zero, List.set_cons_succ]
                                refine wt_take (i := 9) (v := ?_) HTK.out rfl (by decide) (by kernel_rfl) (by kernel_rfl) (fun _ _ _ h => h) (by exact hC0) (Or.inl ⟨by rfl, ?_⟩) ?_
                                rotate_left
                                · intro W hSw
                                  try dsimp only at hSw
                                  go_simp
                                  try (with_reducible rfl)
                                try simp only [List.getElem_toArray, List.getElem_cons_zero, List.getElem_cons_succ, Act.put, List.setIfInBounds_toArray, List.set_cons_zero, List.set_cons_succ]
                                refine wt_take (i := 10) (v := ?_) HTK.out rfl (by decide) (by kernel_rfl) (by kernel_rfl) (fun _ _ _ h => h) (by exact hC0) (Or.inl ⟨by rfl, ?_⟩) ?_
                                rotate_left
                                · intro W hSw
                                  try dsimp only at hSw
                                  go_simp
                                  try (with_reducible rfl)
                                try simp only [List.getElem_toArray, List.getElem_cons_zero, List.getElem_cons_succ, Act.put, List.setIfInBounds_toArray, List.set_cons_zero, List.set_cons_succ]
                                refine wt_take (i := 11) (v := ?_) HTK.out rfl (by decide) (by kernel_rfl) (by kernel_rfl) (fun _ _ _ h => h) (by exact hC0) (Or.inl ⟨by rfl, ?_⟩) ?_
                                rotate_left
                                · intro W hSw
                                  try dsimp only at hSw
                                  go_simp
                                  try (with_reducible rfl)
                                try simp only [List.getElem_toArray, List.getElem_cons_zero, List.getElem_cons_succ, Act.put, List.setIfInBounds_toArray, List.set_cons_zero, List.set_cons_succ]
                                refine wt_take (i := 12) (v := undef) HTK.out rfl (by decide) (by kernel_rfl) (by kernel_rfl) (fun _ _ _ h => h) (by exact hC0) (Or.inr ⟨by rfl, rfl⟩) ?_
                                try simp only [List.getElem_toArray, List.getElem_cons_zero, List.getElem_cons_succ, Act.put, List.setIfInBounds_toArray, List.set_cons_zero, List.set_cons_succ]
                                refine wt_take (i := 13) (v := undef) HTK.out rfl (by decide) (by kernel_rfl) (by kernel_rfl) (fun _ _ _ h => h) (by exact hC0) (Or.inr ⟨by rfl, rfl⟩) ?_
                                try simp only [List.getElem_toArray, List.getElem_cons_zero, List.getElem_cons_succ, Act.put, List.setIfInBounds_toArray, List.set_cons_zero, List.set_cons_succ]
                                refine wt_take (i := 14) (v := undef) HTK.out rfl (by decide) (by kernel_rfl) (by kernel_rfl) (fun _ _ _ h => h) (by exact hC0) (Or.inr ⟨by rfl, rfl⟩) ?_
                                try simp only [List.getElem_toArray, List.getElem_cons_zero, List.getElem_cons_succ, Act.put, List.setIfInBounds_toArray, List.set_cons_zero, List.set_cons_succ]
                                refine wt_take (i := 15) (v := undef) HTK.out rfl (by decide) (by kernel_rfl) (by kernel_rfl) (fun _ _ _ h => h) (by exact hC0) (Or.inr ⟨by rfl, rfl⟩) ?_
                                try simp only [List.getElem_toArray, List.getElem_cons_zero, List.getElem_cons_succ, Act.put, List.setIfInBounds_toArray, List.set_cons_zero, List.set_cons_succ]
                                refine wt_take (i := 16) (v := undef) HTK.out rfl (by decide) (by kernel_rfl) (by kernel_rfl) (fun _ _ _ h => h) (by exact hC0) (Or.inr ⟨by rfl, rfl⟩) ?_
                                try simp only [List.getElem_toArray, List.getElem_cons_zero, List.getElem_cons_succ, Act.put, List.setIfInBounds_toArray, List.set_cons_zero, List.set_cons_succ]
                                refine wt_take (i := 17) (v := undef) HTK.out rfl (by decide) (by kernel_rfl) (by kernel_rfl) (fun _ _ _ h => h) (by exact hC0) (Or.inr ⟨by rfl, rfl⟩) ?_
                                try simp only [List.getElem_toArray, List.getElem_cons_zero, List.getElem_cons_succ, Act.put, List.setIfInBounds_toArray, List.set_cons_zero, List.set_cons_succ]
                                refine wt_take (i := 18) (v := undef) HTK.out rfl (by decide) (by kernel_rfl) (by kernel_rfl) (fun _ _ _ h => h) (by exact hC0) (Or.inr ⟨by rfl, rfl⟩) ?_
                                try simp only [List.getElem_toArray, List.getElem_cons_zero, List.getElem_cons_succ, Act.put, List.setIfInBounds_toArray, List.set_cons_zero, List.set_cons_succ]
                                refine wt_take (i := 19) (v := ?_) HTK.out rfl (by decide) (by kernel_rfl) (by kernel_rfl) (fun _ _ _ h => h) (by exact hC0) (Or.inl ⟨by rfl, ?_⟩) ?_
                                rotate_left
                                · intro W hSw
                                  try dsimp only at hSw
                                  go_simp
                                  try (with_reducible rfl)
                                try simp only [List.getElem_toArray, List.getElem_cons_zero, List.getElem_cons_succ, Act.put, List.setIfInBounds_toArray, List.set_cons_zero, List.set_cons_succ]
                                refine wt_take (i := 20) (v := ?_) HTK.out rfl (by decide) (by kernel_rfl) (by kernel_rfl) (fun _ _ _ h => h) (by exact hC0) (Or.inl ⟨by rfl, ?_⟩) ?_
                                rotate_left
                                · intro W hSw
                                  try dsimp only at hSw
                                  go_simp
                                  try (with_reducible rfl)
                                try simp only [List.getElem_toArray, List.getElem_cons_zero, List.getElem_cons_succ, Act.put, List.setIfInBounds_toArray, List.set_cons_zero, List.set_cons_succ]
                                refine wt_take (i := 21) (v := ?_) HTK.out rfl (by decide) (by kernel_rfl) (by kernel_rfl) (fun _ _ _ h => h) (by exact hC0) (Or.inl ⟨by rfl, ?_⟩) ?_
                                rotate_left
                                · intro W hSw
                                  try dsimp only at hSw
                                  go_simp
                                  try (with_reducible rfl)
                                try simp only [List.getElem_toArray, List.getElem_cons_zero, List.getElem_cons_succ, Act.put, List.setIfInBounds_toArray, List.set_cons_zero, List.set_cons_succ]
                                refine wt_take (i := 22) (v := ?_) HTK.out rfl (by decide) (by kernel_rfl) (by kernel_rfl) (fun _ _ _ h => h) (by exact hC0) (Or.inl ⟨by rfl, ?_⟩) ?_
                                rotate_left
                                · intro W hSw
                                  try dsimp only at hSw
                                  have q0 := (hSw.cell (p := ⟨gb, 0, none⟩) (by exact hlb)).trans cb0
                                  go_simp
                                  try (with_reducible rfl)
                                try simp only [List.getElem_toArray, List.getElem_cons_zero, List.getElem_cons_succ, Act.put, List.setIfInBounds_toArray, List.set_cons_zero, List.set_cons_succ]
                                refine wt_take (i := 23) (v := ?_) HTK.out rfl (by decide) (by kernel_rfl) (by kernel_rfl) (fun _ _ _ h => h) (by exact hC0) (Or.inl ⟨by rfl, ?_⟩) ?_
                                rotate_left
                                · intro W hSw
                                  try dsimp only at hSw
                                  go_simp
                                  try (with_reducible rfl)
                                try simp only [List.getElem_toArray, List.getElem_cons_zero, List.getElem_cons_succ, Act.put, List.setIfInBounds_toArray, List.set_cons_zero, List.set_cons_succ]
                                refine wt_take (i := 24) (v := ?_) HTK.out rfl (by decide) (by kernel_rfl) (by kernel_rfl) (fun _ _ _ h => h) (by exact hC0) (Or.inl ⟨by rfl, ?_⟩) ?_
                                rotate_left
                                · intro W hSw
                                  try dsimp only at hSw
                                  go_simp
                                  try (with_reducible rfl)
                                try simp only [List.getElem_toArray, List.getElem_cons_zero, List.getElem_cons_succ, Act.put, List.setIfInBounds_toArray, List.set_cons_zero, List.set_cons_succ]
                                refine wt_take (i := 25) (v := ?_) HTK.out rfl (by decide) (by kernel_rfl) (by kernel_rfl) (fun _ _ _ h => h) (by exact hC0) (Or.inl ⟨by rfl, ?_⟩) ?_
                                rotate_left
                                · intro W hSw
                                  try dsimp only at hSw
                                  go_simp
                                  try (with_reducible rfl)
                                try simp only [List.getElem_toArray, List.getElem_cons_zero, List.getElem_cons_succ, Act.put, List.setIfInBounds_toArray, List.set_cons_zero, List.set_cons_succ]
                                refine wt_take (i := 26) (v := undef) HTK.out rfl (by decide) (by kernel_rfl) (by kernel_rfl) (fun _ _ _ h => h) (by exact hC0) (Or.inr ⟨by rfl, rfl⟩) ?_
                                try simp only [List.getElem_toArray, List.getElem_cons_zero, List.getElem_cons_succ, Act.put, List.setIfInBounds_toArray, List.set_cons_zero, List.set_cons_succ]
                                refine wt_take (i := 27) (v := undef) HTK.out rfl (by decide) (by kernel_rfl) (by kernel_rfl) (fun _ _ _ h => h) (by exact hC0) (Or.inr ⟨by rfl, rfl⟩) ?_
                                try simp only [List.getElem_toArray, List.getElem_cons_zero, List.getElem_cons_succ, Act.put, List.setIfInBounds_toArray, List.set_cons_zero, List.set_cons_succ]
                                refine wt_take (i := 28) (v := undef) HTK.out rfl (by decide) (by kernel_rfl) (by kernel_rfl) (fun _ _ _ h => h) (by exact hC0) (Or.inr ⟨by rfl, rfl⟩) ?_
                                try simp only [List.getElem_toArray, List.getElem_cons_zero, List.getElem_cons_succ, Act.put, List.setIfInBounds_toArray, List.set_cons_zero, List.set_cons_succ]
                                refine wt_take (i := 29) (v := undef) HTK.out rfl (by decide) (by kernel_rfl) (by kernel_rfl) (fun _ _ _ h => h) (by exact hC0) (Or.inr ⟨by rfl, rfl⟩) ?_
                                try simp only [List.getElem_toArray, List.getElem_cons_zero, List.getElem_cons_succ, Act.put, List.setIfInBounds_toArray, List.set_cons_zero, List.set_cons_succ]
                                refine wt_take (i := 30) (v := undef) HTK.out rfl (by decide) (by kernel_rfl) (by kernel_rfl) (fun _ _ _ h => h) (by exact hC0) (Or.inr ⟨by rfl, rfl⟩) ?_
                                try simp only [List.getElem_toArray, List.getElem_cons_zero, List.getElem_cons_succ, Act.put, List.setIfInBounds_toArray, List.set_cons_zero, List.set_cons_succ]
                                refine wt_take (i := 31) (v := ?_) HTK.out rfl (by decide) (by kernel_rfl) (by kernel_rfl) (fun _ _ _ h => h) (by exact hC0) (Or.inl ⟨by rfl, ?_⟩) ?_
                                rotate_left
                                · intro W hSw
                                  try dsimp only at hSw
                                  go_simp
                                  try (with_reducible rfl)
                                try simp only [List.getElem_toArray, List.getElem_cons_zero, List.getElem_cons_succ, Act.put, List.setIfInBounds_toArray, List.set_cons_zero, List.set_cons_succ]
                                refine wt_last (k := 32) (by kernel_rfl) (by kernel_rfl) (by decide) rfl (fun K hK => ?_)
                                go_simp
                                refine hK.out _ _ ?_
                                clear hK K
                                try simp only [List.getElem_toArray, List.getElem_cons_zero, List.getElem_cons_succ, Act.put, List.setIfInBounds_toArray, List.set_cons_zero, List.set_cons_succ]
                                go_wp2_with fail
                                go_meet
                                exact ⟨rfl, hC0⟩
                              exact AllT.nil
                            | true =>
                              have hC : (bu != au) = false := HL1.out hA hB
                              refine wt_start (S := fun W => Below we.heap.size we W) 32 (by kernel_rfl) ⟨by kernel_rfl, by kernel_rfl, by kernel_rfl, by decide⟩ ?_
                              intro HTK
                              have hS0 : Below we.heap.size we we.drew := (Below.refl _ _).drew
                              refine wt_take (i := 0) (v := ?_) HTK.out rfl (by decide) (by kernel_rfl) (by kernel_rfl) (fun _ _ _ h => h) (by exact hS0) (Or.inl ⟨by rfl, ?_⟩) ?_
                              rotate_left
                              · intro W hSw
                                try dsimp only at hSw
                                go_simp
                                try (with_reducible rfl)
                              try simp only [List.getElem_toArray, List.getElem_cons_zero, List.getElem_cons_succ, Act.put, List.setIfInBounds_toArray, List.set_cons_zero, List.set_cons_succ]
                              refine wt_take (i := 1) (v := ?_) HTK.out rfl (by decide) (by kernel_rfl) (by kernel_rfl) (fun _ _ _ h => h) (by exact hS0) (Or.inl ⟨by rfl, ?_⟩) ?_
                              rotate_left
                              · intro W hSw
                                try dsimp only at hSw
                                have q0 := (hSw.cell (p := ⟨ga, 6, none⟩) (by exact hla)).trans ca6
                                go_simp
                                try (with_reducible rfl)
                              try simp only [List.getElem_toArray, List.getElem_cons_zero, List.getElem_cons_succ, Act.put, List.setIfInBounds_toArray, List.set_cons_zero, List.set_cons_succ]
                              refine wt_take (i := 2) (v := ?_) HTK.out rfl (by decide) (by kernel_rfl) (by kernel_rfl) (fun _ _ _ h => h) (by exact hS0) (Or.inl ⟨by rfl, ?_⟩) ?_
                              rotate_left
                              · intro W hSw
                                try dsimp only at hSw
                                go_simp
                                try (with_reducible rfl)
                              try simp only [List.getElem_toArray, List.getElem_cons_zero, List.getElem_cons_succ, Act.put, List.setIfInBounds_toArray, List.set_cons_zero, List.set_cons_succ]
                              refine wt_take (i := 3) (v := ?_) HTK.out rfl (by decide) (by kernel_rfl) (by kernel_rfl) (fun _ _ _ h => h) (by exact hS0) (Or.inl ⟨by rfl, ?_⟩) ?_
                              rotate_left
                              · intro W hSw
                                try dsimp only at hSw
                                go_simp
                                try (with_reducible rfl)
                              try simp only [List.getElem_toArray, List.getElem_cons_zero, List.getElem_cons_succ, Act.put, List.setIfInBounds_toArray, List.set_cons_zero, List.set_cons_succ]
                              refine wt_take (i := 4) (v := ?_) HTK.out rfl (by decide) (by kernel_rfl) (by kernel_rfl) (fun _ _ _ h => h) (by exact hS0) (Or.inl ⟨by rfl, ?_⟩) ?_
                              rotate_left
                              · intro W hSw
                                try dsimp only at hSw
                                go_simp
                                try (with_reducible rfl)
                              try simp only [List.getElem_toArray, List.getElem_cons_zero, List.getElem_cons_succ, Act.put, List.setIfInBounds_toArray, List.set_cons_zero, List.set_cons_succ]
                              refine wt_take (i := 5) (v := .agg (Lv.cells (realLv y te tu))) HTK.out rfl (by decide) (by kernel_rfl) (by kernel_rfl) (fun _ _ _ h => h) (by exact hS0) (yieldsIf_load_at (by rfl) _ _ (by rfl) _ (by rfl) (Lv.cells (realLv y te tu)) _ (fun W hSw => (Holds.of_block HBEb.out).below hSw (by exact hlb)) Try.underlying30 (by rfl) (sizeLv _)) ?_
                              try simp only [List.getElem_toArray, List.getElem_cons_zero, List.getElem_cons_succ, Act.put, List.setIfInBounds_toArray, List.set_cons_zero, List.set_cons_succ]
                              refine wt_take (i := 6) (v := ?_) HTK.out rfl (by decide) (by kernel_rfl) (by kernel_rfl) (fun _ _ _ h => h) (by exact hS0) (Or.inl ⟨by rfl, ?_⟩) ?_
                              rotate_left
                              · intro W hSw
                                try dsimp only at hSw
                                go_simp
                                try (with_reducible rfl)
                              try simp only [List.getElem_toArray, List.getElem_cons_zero, List.getElem_cons_succ, Act.put, List.setIfInBounds_toArray, List.set_cons_zero, List.set_cons_succ]
                              refine wt_take (i := 8) (v := ?_) HTK.out rfl (by decide) (by kernel_rfl) (by kernel_rfl) (fun _ _ _ h => h) (by exact hS0) (Or.inl ⟨by rfl, ?_⟩) ?_
                              rotate_left
                              · intro W hSw
                                try dsimp only at hSw
                                go_simp
                                try (with_reducible rfl)
                              try simp only [List.getElem_toArray, List.getElem_cons_zero, List.getElem_cons_succ, Act.put, List.setIfInBounds_toArray, List.set_cons_zero, List.set_cons_succ]
                              refine wt_ready (rs := [7]) (by kernel_rfl) (by simp) ?_
                              refine AllT.cons rfl (by decide) (fun K hK => ?_) ?_
                              · go_simp
                                go_at_call 9
                                refine (HUB.out _ hS0).mono ?_
                                rintro e wk0 ⟨rfl, hbz⟩
                                have hC0 : Below we.heap.size we wk0 := hS0.trans (hbz.mono hS0.size)
                                clear hbz
                                refine hK.out _ _ (by exact hC0) ?_
                                clear hK K
                                try simp only [List.getElem_toArray, List.getElem_cons_zero, List.getElem_cons_succ, Act.put, List.setIfInBounds_toArray, List.set_cons_zero, List.set_cons_succ]
                                refine wt_take (i := 9) (v := ?_) HTK.out rfl (by decide) (by kernel_rfl) (by kernel_rfl) (fun _ _ _ h => h) (by exact hC0) (Or.inl ⟨by rfl, ?_⟩) ?_
                                rotate_left
                                · intro W hSw
                                  try dsimp only at hSw
                                  go_simp
                                  try (with_reducible rfl)
                                try simp only [List.getElem_toArray, List.getElem_cons_zero, List.getElem_cons_succ, Act.put, List.setIfInBounds_toArray, List.set_cons_zero, List.set_cons_succ]
                                refine wt_take (i := 10) (v := ?_) HTK.out rfl (by decide) (by kernel_rfl) (by kernel_rfl) (fun _ _ _ h => h) (by exact hC0) (Or.inl ⟨by rfl, ?_⟩) ?_
                                rotate_left
                                · intro W hSw
                                  try dsimp only at hSw
                                  go_simp
                                  try (with_reducible rfl)
                                try simp only [List.getElem_toArray, List.getElem_cons_zero, List.getElem_cons_succ, Act.put, List.setIfInBounds_toArray, List.set_cons_zero, List.set_cons_succ]
                                refine wt_take (i := 11) (v := ?_) HTK.out rfl (by decide) (by kernel_rfl) (by kernel_rfl) (fun _ _ _ h => h) (by exact hC0) (Or.inl ⟨by rfl, ?_⟩) ?_
                                rotate_left
                                · intro W hSw
                                  try dsimp only at hSw
                                  go_simp
                                  try (with_reducible rfl)
                                try simp only [List.getElem_toArray, List.getElem_cons_zero, List.getElem_cons_succ, Act.put, List.setIfInBounds_toArray, List.set_cons_zero, List.set_cons_succ]
                                refine wt_take (i := 12) (v := .agg (Lv.cells (realLv y te tu))) HTK.out rfl (by decide) (by kernel_rfl) (by kernel_rfl) (fun _ _ _ h => h) (by exact hC0) (yieldsIf_load_at (by rfl) _ _ (by rfl) _ (by rfl) (Lv.cells (realLv y te tu)) _ (fun W hSw => (Holds.of_block HBEb.out).below hSw (by exact hlb)) Try.underlying30 (by rfl) (sizeLv _)) ?_
                                try simp only [List.getElem_toArray, List.getElem_cons_zero, List.getElem_cons_succ, Act.put, List.setIfInBounds_toArray, List.set_cons_zero, List.set_cons_succ]
                                refine wt_take (i := 13) (v := ?_) HTK.out rfl (by decide) (by kernel_rfl) (by kernel_rfl) (fun _ _ _ h => h) (by exact hC0) (Or.inl ⟨by rfl, ?_⟩) ?_
                                rotate_left
                                · intro W hSw
                                  try dsimp only at hSw
                                  go_simp
                                  try (with_reducible rfl)
                                try simp only [List.getElem_toArray, List.getElem_cons_zero, List.getElem_cons_succ, Act.put, List.setIfInBounds_toArray, List.set_cons_zero, List.set_cons_succ]
                                refine wt_take (i := 15) (v := .agg (Lv.cells (realLv x se su))) HTK.out rfl (by decide) (by kernel_rfl) (by kernel_rfl) (fun _ _ _ h => h) (by exact hC0) (yieldsIf_load_at (by rfl) _ _ (by rfl) _ (by rfl) (Lv.cells (realLv x se su)) _ (fun W hSw => (Holds.of_block HAE.out).below hSw (by exact hla)) Try.underlying30 (by rfl) (sizeLv _)) ?_
                                try simp only [List.getElem_toArray, List.getElem_cons_zero, List.getElem_cons_succ, Act.put, List.setIfInBounds_toArray, List.set_cons_zero, List.set_cons_succ]
                                refine wt_take (i := 16) (v := ?_) HTK.out rfl (by decide) (by kernel_rfl) (by kernel_rfl) (fun _ _ _ h => h) (by exact hC0) (Or.inl ⟨by rfl, ?_⟩) ?_
                                rotate_left
                                · intro W hSw
                                  try dsimp only at hSw
                                  go_simp
                                  try (with_reducible rfl)
                                try simp only [List.getElem_toArray, List.getElem_cons_zero, List.getElem_cons_succ, Act.put, List.setIfInBounds_toArray, List.set_cons_zero, List.set_cons_succ]
                                refine wt_ready (rs := [14]) (by kernel_rfl) (by simp) ?_
                                refine AllT.cons rfl (by decide) (fun K hK => ?_) ?_
                                · go_simp
                                  go_at_call 9
                                  refine (HUB.out _ hC0).mono ?_
                                  rintro e wk1 ⟨rfl, hbz⟩
                                  have hC1 : Below we.heap.size we wk1 := hC0.trans (hbz.mono hC0.size)
                                  clear hbz
                                  refine hK.out _ _ (by exact hC1) ?_
                                  clear hK K
                                  try simp only [List.getElem_toArray, List.getElem_cons_zero, List.getElem_cons_succ, Act.put, List.setIfInBounds_toArray, List.set_cons_zero, List.set_cons_succ]
                                  refine wt_ready (rs := [17]) (by kernel_rfl) (by simp) ?_
                                  refine AllT.cons rfl (by decide) (fun K hK => ?_) ?_
                                  · go_simp
                                    go_at_call 9
                                    refine (HUA.out _ hC1).mono ?_
                                    rintro e wk2 ⟨rfl, hbz⟩
                                    have hC2 : Below we.heap.size we wk2 := hC1.trans (hbz.mono hC1.size)
                                    clear hbz
                                    refine hK.out _ _ (by exact hC2) ?_
                                    clear hK K
                                    try simp only [List.getElem_toArray, List.getElem_cons_zero, List.getElem_cons_succ, Act.put, List.setIfInBounds_toArray, List.set_cons_zero, List.set_cons_succ]
                                    refine wt_take (i := 18) (v := ?_) HTK.out rfl (by decide) (by kernel_rfl) (by kernel_rfl) (fun _ _ _ h => h) (by exact hC2) (Or.inl ⟨by rfl, ?_⟩) ?_
                                    rotate_left
                                    · intro W hSw
                                      try dsimp only at hSw
                                      go_simp
                                      try (with_reducible rfl)
                                    try simp only [List.getElem_toArray, List.getElem_cons_zero, List.getElem_cons_succ, Act.put, List.setIfInBounds_toArray, List.set_cons_zero, List.set_cons_succ]
                                    refine wt_take (i := 19) (v := ?_) HTK.out rfl (by decide) (by kernel_rfl) (by kernel_rfl) (fun _ _ _ h => h) (by exact hC2) (Or.inl ⟨by rfl, ?_⟩) ?_
                                    rotate_left
                                    · intro W hSw
                                      try dsimp only at hSw
                                      go_simp
                                      try (with_reducible rfl)
                                    try simp only [List.getElem_toArray, List.getElem_cons_zero, List.getElem_cons_succ, Act.put, List.setIfInBounds_toArray, List.set_cons_zero, List.set_cons_succ]
                                    refine wt_take (i := 20) (v := ?_) HTK.out rfl (by decide) (by kernel_rfl) (by kernel_rfl) (fun _ _ _ h => h) (by exact hC2) (Or.inl ⟨by rfl, ?_⟩) ?_
                                    rotate_left
                                    · intro W hSw
                                      try dsimp only at hSw
                                      go_simp
                                      try (with_reducible rfl)
                                    try simp only [List.getElem_toArray, List.getElem_cons_zero, List.getElem_cons_succ, Act.put, List.setIfInBounds_toArray, List.set_cons_zero, List.set_cons_succ]
                                    refine wt_take (i := 21) (v := ?_) HTK.out rfl (by decide) (by kernel_rfl) (by kernel_rfl) (fun _ _ _ h => h) (by exact hC2) (Or.inl ⟨by rfl, ?_⟩) ?_
                                    rotate_left
                                    · intro W hSw
                                      try dsimp only at hSw
                                      go_simp
                                      try (with_reducible rfl)
                                    try simp only [List.getElem_toArray, List.getElem_cons_zero, List.getElem_cons_succ, Act.put, List.setIfInBounds_toArray, List.set_cons_zero, List.set_cons_succ]
                                    refine wt_take (i := 22) (v := ?_) HTK.out rfl (by decide) (by kernel_rfl) (by kernel_rfl) (fun _ _ _ h => h) (by exact hC2) (Or.inl ⟨by rfl, ?_⟩) ?_
                                    rotate_left
                                    · intro W hSw
                                      try dsimp only at hSw
                                      have q0 := (hSw.cell (p := ⟨gb, 0, none⟩) (by exact hlb)).trans cb0
                                      go_simp
                                      try (with_reducible rfl)
                                    try simp only [List.getElem_toArray, List.getElem_cons_zero, List.getElem_cons_succ, Act.put, List.setIfInBounds_toArray, List.set_cons_zero, List.set_cons_succ]
                                    refine wt_take (i := 23) (v := ?_) HTK.out rfl (by decide) (by kernel_rfl) (by kernel_rfl) (fun _ _ _ h => h) (by exact hC2) (Or.inl ⟨by rfl, ?_⟩) ?_
                                    rotate_left
                                    · intro W hSw
                                      try dsimp only at hSw
                                      go_simp
                                      try (with_reducible rfl)
                                    try simp only [List.getElem_toArray, List.getElem_cons_zero, List.getElem_cons_succ, Act.put, List.setIfInBounds_toArray, List.set_cons_zero, List.set_cons_succ]
                                    refine wt_take (i := 24) (v := ?_) HTK.out rfl (by decide) (by kernel_rfl) (by kernel_rfl) (fun _ _ _ h => h) (by exact hC2) (Or.inl ⟨by rfl, ?_⟩) ?_
                                    rotate_left
                                    · intro W hSw
                                      try dsimp only at hSw
                                      go_simp
                                      try (with_reducible rfl)
                                    try simp only [List.getElem_toArray, List.getElem_cons_zero, List.getElem_cons_succ, Act.put, List.setIfInBounds_toArray, List.set_cons_zero, List.set_cons_succ]
                                    refine wt_take (i := 25) (v := ?_) HTK.out rfl (by decide) (by kernel_rfl) (by kernel_rfl) (fun _ _ _ h => h) (by exact hC2) (Or.inl ⟨by rfl, ?_⟩) ?_
                                    rotate_left
                                    · intro W hSw
                                      try dsimp only at hSw
                                      go_simp
                                      try (with_reducible rfl)
                                    try simp only [List.getElem_toArray, List.getElem_cons_zero, List.getElem_cons_succ, Act.put, List.setIfInBounds_toArray, List.set_cons_zero, List.set_cons_succ]
                                    refine wt_take (i := 26) (v := undef) HTK.out rfl (by decide) (by kernel_rfl) (by kernel_rfl) (fun _ _ _ h => h) (by exact hC2) (Or.inr ⟨by rfl, rfl⟩) ?_
                                    try simp only [List.getElem_toArray, List.getElem_cons_zero, List.getElem_cons_succ, Act.put, List.setIfInBounds_toArray, List.set_cons_zero, List.set_cons_succ]
                                    refine wt_take (i := 27) (v := undef) HTK.out rfl (by decide) (by kernel_rfl) (by kernel_rfl) (fun _ _ _ h => h) (by exact hC2) (Or.inr ⟨by rfl, rfl⟩) ?_
                                    try simp only [List.getElem_toArray, List.getElem_cons_zero, List.getElem_cons_succ, Act.put, List.setIfInBounds_toArray, List.set_cons_zero, List.set_cons_succ]
                                    refine wt_take (i := 28) (v := undef) HTK.out rfl (by decide) (by kernel_rfl) (by kernel_rfl) (fun _ _ _ h => h) (by exact hC2) (Or.inr ⟨by rfl, rfl⟩) ?_
                                    try simp only [List.getElem_toArray, List.getElem_cons_zero, List.getElem_cons_succ, Act.put, List.setIfInBounds_toArray, List.set_cons_zero, List.set_cons_succ]
                                    refine wt_take (i := 29) (v := undef) HTK.out rfl (by decide) (by kernel_rfl) (by kernel_rfl) (fun _ _ _ h => h) (by exact hC2) (Or.inr ⟨by rfl, rfl⟩) ?_
                                    try simp only [List.getElem_toArray, List.getElem_cons_zero, List.getElem_cons_succ, Act.put, List.setIfInBounds_toArray, List.set_cons_zero, List.set_cons_succ]
                                    refine wt_take (i := 30) (v := undef) HTK.out rfl (by decide) (by kernel_rfl) (by kernel_rfl) (fun _ _ _ h => h) (by exact hC2) (Or.inr ⟨by rfl, rfl⟩) ?_
                                    try simp only [List.getElem_toArray, List.getElem_cons_zero, List.getElem_cons_succ, Act.put, List.setIfInBounds_toArray, List.set_cons_zero, List.set_cons_succ]
                                    refine wt_take (i := 31) (v := ?_) HTK.out rfl (by decide) (by kernel_rfl) (by kernel_rfl) (fun _ _ _ h => h) (by exact hC2) (Or.inl ⟨by rfl, ?_⟩) ?_
                                    rotate_left
                                    · intro W hSw
                                      try dsimp only at hSw
                                      go_simp
                                      try (with_reducible rfl)
                                    try simp only [List.getElem_toArray, List.getElem_cons_zero, List.getElem_cons_succ, Act.put, List.setIfInBounds_toArray, List.set_cons_zero, List.set_cons_succ]
                                    refine wt_last (k := 32) (by kernel_rfl) (by kernel_rfl) (by decide) rfl (fun K hK => ?_)
                                    go_simp
                                    refine hK.out _ _ ?_
                                    clear hK K
                                    try simp only [List.getElem_toArray, List.getElem_cons_zero, List.getElem_cons_succ, Act.put, List.setIfInBounds_toArray, List.set_cons_zero, List.set_cons_succ]
                                    go_wp2_with fail
                                    go_meet
                                    exact ⟨rfl, hC2⟩
                                  exact AllT.nil
                                exact AllT.nil
                              exact AllT.nil
                        | true =>
                          have hE : (y.n0 != x.n0) = false := HL2.out hD
                          cases hA : decide (x.n6 ≤ p) with
                          | false =>
                            go_quiet (fail)
                            go_wp2_with fail
                            go_meet
                            exact ⟨rfl, below_drewN' (Below.refl _ _) _⟩
                          | true =>
                            cases hB : decide (bu > p) with
                            | false =>
                              refine wt_start (S := fun W => Below we.heap.size we W) 32 (by kernel_rfl) ⟨by kernel_rfl, by kernel_rfl, by kernel_rfl, by decide⟩ ?_
                              intro HTK
                              have hS0 : Below we.heap.size we we.drew := (Below.refl _ _).drew
                              refine wt_take (i := 0) (v := ?_) HTK.out rfl (by decide) (by kernel_rfl) (by kernel_rfl) (fun _ _ _ h => h) (by exact hS0) (Or.inl ⟨by rfl, ?_⟩) ?_
                              rotate_left
                              · intro W hSw
                                try dsimp only at hSw
                                go_simp
                                try (with_reducible rfl)
                              try simp only [List.getElem_toArray, List.getElem_cons_zero, List.getElem_cons_succ, Act.put, List.setIfInBounds_toArray, List.set_cons_zero, List.set_cons_succ]
                              refine wt_take (i := 1) (v := ?_) HTK.out rfl (by decide) (by kernel_rfl) (by kernel_rfl) (fun _ _ _ h => h) (by exact hS0) (Or.inl ⟨by rfl, ?_⟩) ?_
                              rotate_left
                              · intro W hSw
                                try dsimp only at hSw
                                have q0 := (hSw.cell (p := ⟨ga, 6, none⟩) (by exact hla)).trans ca6
                                go_simp
                                try (with_reducible rfl)
                              try simp only [List.getElem_toArray, List.getElem_cons_zero, List.getElem_cons_succ, Act.put, List.setIfInBounds_toArray, List.set_cons_zero, List.set_cons_succ]
                              refine wt_take (i := 2) (v := ?_) HTK.out rfl (by decide) (by kernel_rfl) (by kernel_rfl) (fun _ _ _ h => h) (by exact hS0) (Or.inl ⟨by rfl, ?_⟩) ?_
                              rotate_left
                              · intro W hSw
                                try dsimp only at hSw
                                go_simp
                                try (with_reducible rfl)
                              try simp only [List.getElem_toArray, List.getElem_cons_zero, List.getElem_cons_succ, Act.put, List.setIfInBounds_toArray, List.set_cons_zero, List.set_cons_succ]
                              refine wt_take (i := 3) (v := ?_) HTK.out rfl (by decide) (by kernel_rfl) (by kernel_rfl) (fun _ _ _ h => h) (by exact hS0) (Or.inl ⟨by rfl, ?_⟩) ?_
                              rotate_left
                              · intro W hSw
                                try dsimp only at hSw
                                go_simp
                                try (with_reducible rfl)
                              try simp only [List.getElem_toArray, List.getElem_cons_zero, List.getElem_cons_succ, Act.put, List.setIfInBounds_toArray, List.set_cons_zero, List.set_cons_succ]
                              refine wt_take (i := 4) (v := ?_) HTK.out rfl (by decide) (by kernel_rfl) (by kernel_rfl) (fun _ _ _ h => h) (by exact hS0) (Or.inl ⟨by rfl, ?_⟩) ?_
                              rotate_left
                              · intro W hSw
                                try dsimp only at hSw
                                go_simp
                                try (with_reducible rfl)
                              try simp only [List.getElem_toArray, List.getElem_cons_zero, List.getElem_cons_succ, Act.put, List.setIfInBounds_toArray, List.set_cons_zero, List.set_cons_succ]
                              refine wt_take (i := 5) (v := .agg (Lv.cells (realLv y te tu))) HTK.out rfl (by decide) (by kernel_rfl) (by kernel_rfl) (fun _ _ _ h => h) (by exact hS0) (yieldsIf_load_at (by rfl) _ _ (by rfl) _ (by rfl) (Lv.cells (realLv y te tu)) _ (fun W hSw => (Holds.of_block HBEb.out).below hSw (by exact hlb)) Try.underlying30 (by rfl) (sizeLv _)) ?_
                              try simp only [List.getElem_toArray, List.getElem_cons_zero, List.getElem_cons_succ, Act.put, List.setIfInBounds_toArray, List.set_cons_zero, List.set_cons_succ]
                              refine wt_take (i := 6) (v := ?_) HTK.out rfl (by decide) (by kernel_rfl) (by kernel_rfl) (fun _ _ _ h => h) (by exact hS0) (Or.inl ⟨by rfl, ?_⟩) ?_
                              rotate_left
                              · intro W hSw
                                try dsimp only at hSw
                                go_simp
                                try (with_reducible rfl)
                              try simp only [List.getElem_toArray, List.getElem_cons_zero, List.getElem_cons_succ, Act.put, List.setIfInBounds_toArray, List.set_cons_zero, List.set_cons_succ]
                              refine wt_take (i := 8) (v := ?_) HTK.out rfl (by decide) (by kernel_rfl) (by kernel_rfl) (fun _ _ _ h => h) (by exact hS0) (Or.inl ⟨by rfl, ?_⟩) ?_
                              rotate_left
                              · intro W hSw
                                try dsimp only at hSw
                                go_simp
                                try (with_reducible rfl)
                              try simp only [List.getElem_toArray, List.getElem_cons_zero, List.getElem_cons_succ, Act.put, List.setIfInBounds_toArray, List.set_cons_zero, List.set_cons_succ]
                              refine wt_ready (rs := [7]) (by kernel_rfl) (by simp) ?_
                              refine AllT.cons rfl (by decide) (fun K hK => ?_) ?_
                              · go_simp
                                go_at_call 9
                                refine (HUB.out _ hS0).mono ?_
                                rintro e wk0 ⟨rfl, hbz⟩
                                have hC0 : Below we.heap.size we wk0 := hS0.trans (hbz.mono hS0.size)
                                clear hbz
                                refine hK.out _ _ (by exact hC0) ?_
                                clear hK K
                                try simp only [List.getElem_toArray, List.getElem_cons_zero, List.getElem_cons_succ, Act.put, List.setIfInBounds_toArray, List.set_cons_zero, List.set_cons_succ]
                                refine wt_take (i := 9) (v := ?_) HTK.out rfl (by decide) (by kernel_rfl) (by kernel_rfl) (fun _ _ _ h => h) (by exact hC0) (Or.inl ⟨by rfl, ?_⟩) ?_
                                rotate_left
                                · intro W hSw
                                  try dsimp only at hSw
                                  go_simp
                                  try (with_reducible rfl)
                                try simp only [List.getElem_toArray, List.getElem_cons_zero, List.getElem_cons_succ, Act.put, List.setIfInBounds_toArray, List.set_cons_zero, List.set_cons_succ]
                                refine wt_take (i := 10) (v := ?_) HTK.out rfl (by decide) (by kernel_rfl) (by kernel_rfl) (fun _ _ _ h => h) (by exact hC0) (Or.inl ⟨by rfl, ?_⟩) ?_
                                rotate_left
                                · intro W hSw
                                  try dsimp only at hSw
                                  go_simp
                                  try (with_reducible rfl)
                                try simp only [List.getElem_toArray, List.getElem_cons_zero, List.getElem_cons_succ, Act.put, List.setIfInBounds_toArray, List.set_cons_zero, List.set_cons_succ]
                                refine wt_take (i := 11) (v := ?_) HTK.out rfl (by decide) (by kernel_rfl) (by kernel_rfl) (fun _ _ _ h => h) (by exact hC0) (Or.inl ⟨by rfl, ?_⟩) ?_
                                rotate_left
                                · intro W hSw
                                  try dsimp only at hSw
                                  go_simp
                                  try (with_reducible rfl)
                                try simp only [List.getElem_toArray, List.getElem_cons_zero, List.getElem_cons_succ, Act.put, List.setIfInBounds_toArray, List.set_cons_zero, List.set_cons_succ]
                                refine wt_take (i := 12) (v := undef) HTK.out rfl (by decide) (by kernel_rfl) (by kernel_rfl) (fun _ _ _ h => h) (by exact hC0) (Or.inr ⟨by rfl, rfl⟩) ?_
                                try simp only [List.getElem_toArray, List.getElem_cons_zero, List.getElem_cons_succ, Act.put, List.setIfInBounds_toArray, List.set_cons_zero, List.set_cons_succ]
                                refine wt_take (i := 13) (v := undef) HTK.out rfl (by decide) (by kernel_rfl) (by kernel_rfl) (fun _ _ _ h => h) (by exact hC0) (Or.inr ⟨by rfl, rfl⟩) ?_
                                try simp only [List.getElem_toArray, List.getElem_cons_zero, List.getElem_cons_succ, Act.put, List.setIfInBounds_toArray, List.set_cons_zero, List.set_cons_succ]
                                refine wt_take (i := 14) (v := undef) HTK.out rfl (by decide) (by kernel_rfl) (by kernel_rfl) (fun _ _ _ h => h) (by exact hC0) (Or.inr ⟨by rfl, rfl⟩) ?_
                                try simp only [List.getElem_toArray, List.getElem_cons_zero, List.getElem_cons_succ, Act.put, List.setIfInBounds_toArray, List.set_cons_zero, List.set_cons_succ]
                                refine wt_take (i := 15) (v := undef) HTK.out rfl (by decide) (by kernel_rfl) (by kernel_rfl) (fun _ _ _ h => h) (by exact hC0) (Or.inr ⟨by rfl, rfl⟩) ?_
                                try simp only [List.getElem_toArray, List.getElem_cons_zero, List.getElem_cons_succ, Act.put, List.setIfInBounds_toArray, List.set_cons_zero, List.set_cons_succ]
                                refine wt_take (i := 16) (v := undef) HTK.out rfl (by decide) (by kernel_rfl) (by kernel_rfl) (fun _ _ _ h => h) (by exact hC0) (Or.inr ⟨by rfl, rfl⟩) ?_
                                try simp only [List.getElem_toArray, List.getElem_cons_zero, List.getElem_cons_succ, Act.put, List.setIfInBounds_toArray, List.set_cons_zero, List.set_cons_succ]
                                refine wt_take (i := 17) (v := undef) HTK.out rfl (by decide) (by kernel_rfl) (by kernel_rfl) (fun _ _ _ h => h) (by exact hC0) (Or.inr ⟨by rfl, rfl⟩) ?_
                                try simp only [List.getElem_toArray, List.getElem_cons_zero, List.getElem_cons_succ, Act.put, List.setIfInBounds_toArray, List.set_cons_zero, List.set_cons_succ]
                                refine wt_take (i := 18) (v := undef) HTK.out rfl (by decide) (by kernel_rfl) (by kernel_rfl) (fun _ _ _ h => h) (by exact hC0) (Or.inr ⟨by rfl, rfl⟩) ?_
                                try simp only [List.getElem_toArray, List.getElem_cons_zero, List.getElem_cons_succ, Act.put, List.setIfInBounds_toArray, List.set_cons_zero, List.set_cons_succ]
                                refine wt_take (i := 19) (v := ?_) HTK.out rfl (by decide) (by kernel_rfl) (by kernel_rfl) (fun _ _ _ h => h) (by exact hC0) (Or.inl ⟨by rfl, ?_⟩) ?_
                                rotate_left
                                · intro W hSw
                                  try dsimp only at hSw
                                  go_simp
                                  try (with_reducible rfl)
                                try simp only [List.getElem_toArray, List.getElem_cons_zero, List.getElem_cons_succ, Act.put, List.setIfInBounds_toArray, List.set_cons_zero, List.set_cons_succ]
                                refine wt_take (i := 20) (v := ?_) HTK.out rfl (by decide) (by kernel_rfl) (by kernel_rfl) (fun _ _ _ h => h) (by exact hC0) (Or.inl ⟨by rfl, ?_⟩) ?_
                                rotate_left
                                · intro W hSw
                                  try dsimp only at hSw
                                  go_simp
                                  try (with_reducible rfl)
                                try simp only [List.getElem_toArray, List.getElem_cons_zero, List.getElem_cons_succ, Act.put, List.setIfInBounds_toArray, List.set_cons_zero, List.set_cons_succ]
                                refine wt_take (i := 21) (v := ?_) HTK.out rfl (by decide) (by kernel_rfl) (by kernel_rfl) (fun _ _ _ h => h) (by exact hC0) (Or.inl ⟨by rfl, ?_⟩) ?_
                                rotate_left
                                · intro W hSw
                                  try dsimp only at hSw
                                  go_simp
                                  try (with_reducible rfl)
                                try simp only [List.getElem_toArray, List.getElem_cons_zero, List.getElem_cons_succ, Act.put, List.setIfInBounds_toArray, List.set_cons_zero, List.set_cons_succ]
                                refine wt_take (i := 22) (v := ?_) HTK.out rfl (by decide) (by kernel_rfl) (by kernel_rfl) (fun _ _ _ h => h) (by exact hC0) (Or.inl ⟨by rfl, ?_⟩) ?_
                                rotate_left
                                · intro W hSw
                                  try dsimp only at hSw
                                  have q0 := (hSw.cell (p := ⟨gb, 0, none⟩) (by exact hlb)).trans cb0
                                  go_simp
                                  try (with_reducible rfl)
                                try simp only [List.getElem_toArray, List.getElem_cons_zero, List.getElem_cons_succ, Act.put, List.setIfInBounds_toArray, List.set_cons_zero, List.set_cons_succ]
                                refine wt_take (i := 23) (v := ?_) HTK.out rfl (by decide) (by kernel_rfl) (by kernel_rfl) (fun _ _ _ h => h) (by exact hC0) (Or.inl ⟨by rfl, ?_⟩) ?_
                                rotate_left
                                · intro W hSw
                                  try dsimp only at hSw
                                  go_simp
                                  try (with_reducible rfl)
                                try simp only [List.getElem_toArray, List.getElem_cons_zero, List.getElem_cons_succ, Act.put, List.setIfInBounds_toArray, List.set_cons_zero, List.set_cons_succ]
                                refine wt_take (i := 24) (v := ?_) HTK.out rfl (by decide) (by kernel_rfl) (by kernel_rfl) (fun _ _ _ h => h) (by exact hC0) (Or.inl ⟨by rfl, ?_⟩) ?_
                                rotate_left
                                · intro W hSw
                                  try dsimp only at hSw
                                  go_simp
                                  try (with_reducible rfl)
                                try simp only [List.getElem_toArray, List.getElem_cons_zero, List.getElem_cons_succ, Act.put, List.setIfInBounds_toArray, List.set_cons_zero, List.set_cons_succ]
                                refine wt_take (i := 25) (v := ?_) HTK.out rfl (by decide) (by kernel_rfl) (by kernel_rfl) (fun _ _ _ h => h) (by exact hC0) (Or.inl ⟨by rfl, ?_⟩) ?_
                                rotate_left
                                · intro W hSw
                                  try dsimp only at hSw
                                  go_simp
                                  try (with_reducible rfl)
                                try simp only [List.getElem_toArray, List.getElem_cons_zero, List.getElem_cons_succ, Act.put, List.setIfInBounds_toArray, List.set_cons_zero, List.set_cons_succ]
                                refine wt_take (i := 26) (v := ?_) HTK.out rfl (by decide) (by kernel_rfl) (by kernel_rfl) (fun _ _ _ h => h) (by exact hC0) (Or.inl ⟨by rfl, ?_⟩) ?_
                                rotate_left
                                · intro W hSw
                                  try dsimp only at hSw
                                  go_simp
                                  try (with_reducible rfl)
                                try simp only [List.getElem_toArray, List.getElem_cons_zero, List.getElem_cons_succ, Act.put, List.setIfInBounds_toArray, List.set_cons_zero, List.set_cons_succ]
                                refine wt_take (i := 27) (v := ?_) HTK.out rfl (by decide) (by kernel_rfl) (by kernel_rfl) (fun _ _ _ h => h) (by exact hC0) (Or.inl ⟨by rfl, ?_⟩) ?_
                                rotate_left
                                · intro W hSw
                                  try dsimp only at hSw
                                  have q0 := (hSw.cell (p := ⟨gb, 0, none⟩) (by exact hlb)).trans cb0
                                  go_simp
                                  try (with_reducible rfl)
                                try simp only [List.getElem_toArray, List.getElem_cons_zero, List.getElem_cons_succ, Act.put, List.setIfInBounds_toArray, List.set_cons_zero, List.set_cons_succ]
                                refine wt_take (i := 28) (v := ?_) HTK.out rfl (by decide) (by kernel_rfl) (by kernel_rfl) (fun _ _ _ h => h) (by exact hC0) (Or.inl ⟨by rfl, ?_⟩) ?_
                                rotate_left
                                · intro W hSw
                                  try dsimp only at hSw
                                  go_simp
                                  try (with_reducible rfl)
                                try simp only [List.getElem_toArray, List.getElem_cons_zero, List.getElem_cons_succ, Act.put, List.setIfInBounds_toArray, List.set_cons_zero, List.set_cons_succ]
                                refine wt_take (i := 29) (v := ?_) HTK.out rfl (by decide) (by kernel_rfl) (by kernel_rfl) (fun _ _ _ h => h) (by exact hC0) (Or.inl ⟨by rfl, ?_⟩) ?_
                                rotate_left
                                · intro W hSw
                                  try dsimp only at hSw
                                  have q0 := (hSw.cell (p := ⟨ga, 0, none⟩) (by exact hla)).trans ca0
                                  go_simp
                                  try (with_reducible rfl)
                                try simp only [List.getElem_toArray, List.getElem_cons_zero, List.getElem_cons_succ, Act.put, List.setIfInBounds_toArray, List.set_cons_zero, List.set_cons_succ]
                                refine wt_take (i := 30) (v := ?_) HTK.out rfl (by decide) (by kernel_rfl) (by kernel_rfl) (fun _ _ _ h => h) (by exact hC0) (Or.inl ⟨by rfl, ?_⟩) ?_
                                rotate_left
                                · intro W hSw
                                  try dsimp only at hSw
                                  go_simp
                                  try (with_reducible rfl)
                                try simp only [List.getElem_toArray, List.getElem_cons_zero, List.getElem_cons_succ, Act.put, List.setIfInBounds_toArray, List.set_cons_zero, List.set_cons_succ]
                                refine wt_take (i := 31) (v := ?_) HTK.out rfl (by decide) (by kernel_rfl) (by kernel_rfl) (fun _ _ _ h => h) (by exact hC0) (Or.inl ⟨by rfl, ?_⟩) ?_
                                rotate_left
                                · intro W hSw
                                  try dsimp only at hSw
                                  go_simp
                                  try (with_reducible rfl)
                                try simp only [List.getElem_toArray, List.getElem_cons_zero, List.getElem_cons_succ, Act.put, List.setIfInBounds_toArray, List.set_cons_zero, List.set_cons_succ]
                                refine wt_last (k := 32) (by kernel_rfl) (by kernel_rfl) (by decide) rfl (fun K hK => ?_)
                                go_simp
                                refine hK.out _ _ ?_
                                clear hK K
                                try simp only [List.getElem_toArray, List.getElem_cons_zero, List.getElem_cons_succ, Act.put, List.setIfInBounds_toArray, List.set_cons_zero, List.set_cons_succ]
                                go_wp2_with fail
                                go_meet
                                exact ⟨rfl, hC0⟩
                              exact AllT.nil
                            | true =>
                              have hC : (bu != au) = false := HL1.out hA hB
                              refine wt_start (S := fun W => Below we.heap.size we W) 32 (by kernel_rfl) ⟨by kernel_rfl, by kernel_rfl, by kernel_rfl, by decide⟩ ?_
                              intro HTK
                              have hS0 : Below we.heap.size we we.drew := (Below.refl _ _).drew
                              refine wt_take (i := 0) (v := ?_) HTK.out rfl (by decide) (by kernel_rfl) (by kernel_rfl) (fun _ _ _ h => h) (by exact hS0) (Or.inl ⟨by rfl, ?_⟩) ?_
                              rotate_left
                              · intro W hSw
                                try dsimp only at hSw
                                go_simp
                                try (with_reducible rfl)
                              try simp only [List.getElem_toArray, List.getElem_cons_zero, List.getElem_cons_succ, Act.put, List.setIfInBounds_toArray, List.set_cons_zero, List.set_cons_succ]
                              refine wt_take (i := 1) (v := ?_) HTK.out rfl (by decide) (by kernel_rfl) (by kernel_rfl) (fun _ _ _ h => h) (by exact hS0) (Or.inl ⟨by rfl, ?_⟩) ?_
                              rotate_left
                              · intro W hSw
                                try dsimp only at hSw
                                have q0 := (hSw.cell (p := ⟨ga, 6, none⟩) (by exact hla)).trans ca6
                                go_simp
                                try (with_reducible rfl)
                              try simp only [List.getElem_toArray, List.getElem_cons_zero, List.getElem_cons_succ, Act.put, List.setIfInBounds_toArray, List.set_cons_zero, List.set_cons_succ]
                              refine wt_take (i := 2) (v := ?_) HTK.out rfl (by decide) (by kernel_rfl) (by kernel_rfl) (fun _ _ _ h => h) (by exact hS0) (Or.inl ⟨by rfl, ?_⟩) ?_
                              rotate_left
                              · intro W hSw
                                try dsimp only at hSw
                                go_simp
                                try (with_reducible rfl)
                              try simp only [List.getElem_toArray, List.getElem_cons_zero, List.getElem_cons_succ, Act.put, List.setIfInBounds_toArray, List.set_cons_zero, List.set_cons_succ]
                              refine wt_take (i := 3) (v := ?_) HTK.out rfl (by decide) (by kernel_rfl) (by kernel_rfl) (fun _ _ _ h => h) (by exact hS0) (Or.inl ⟨by rfl, ?_⟩) ?_
                              rotate_left
                              · intro W hSw
                                try dsimp only at hSw
                                go_simp
                                try (with_reducible rfl)
                              try simp only [List.getElem_toArray, List.getElem_cons_zero, List.getElem_cons_succ, Act.put, List.setIfInBounds_toArray, List.set_cons_zero, List.set_cons_succ]
                              refine wt_take (i := 4) (v := ?_) HTK.out rfl (by decide) (by kernel_rfl) (by kernel_rfl) (fun _ _ _ h => h) (by exact hS0) (Or.inl ⟨by rfl, ?_⟩) ?_
                              rotate_left
                              · intro W hSw
                                try dsimp only at hSw
                                go_simp
                                try (with_reducible rfl)
                              try simp only [List.getElem_toArray, List.getElem_cons_zero, List.getElem_cons_succ, Act.put, List.setIfInBounds_toArray, List.set_cons_zero, List.set_cons_succ]
                              refine wt_take (i := 5) (v := .agg (Lv.cells (realLv y te tu))) HTK.out rfl (by decide) (by kernel_rfl) (by kernel_rfl) (fun _ _ _ h => h) (by exact hS0) (yieldsIf_load_at (by rfl) _ _ (by rfl) _ (by rfl) (Lv.cells (realLv y te tu)) _ (fun W hSw => (Holds.of_block HBEb.out).below hSw (by exact hlb)) Try.underlying30 (by rfl) (sizeLv _)) ?_
                              try simp only [List.getElem_toArray, List.getElem_cons_zero, List.getElem_cons_succ, Act.put, List.setIfInBounds_toArray, List.set_cons_zero, List.set_cons_succ]
                              refine wt_take (i := 6) (v := ?_) HTK.out rfl (by decide) (by kernel_rfl) (by kernel_rfl) (fun _ _ _ h => h) (by exact hS0) (Or.inl ⟨by rfl, ?_⟩) ?_
                              rotate_left
                              · intro W hSw
                                try dsimp only at hSw
                                go_simp
                                try (with_reducible rfl)
                              try simp only [List.getElem_toArray, List.getElem_cons_zero, List.getElem_cons_succ, Act.put, List.setIfInBounds_toArray, List.set_cons_zero, List.set_cons_succ]
                              refine wt_take (i := 8) (v := ?_) HTK.out rfl (by decide) (by kernel_rfl) (by kernel_rfl) (fun _ _ _ h => h) (by exact hS0) (Or.inl ⟨by rfl, ?_⟩) ?_
                              rotate_left
                              · intro W hSw
                                try dsimp only at hSw
                                go_simp
                                try (with_reducible rfl)
                              try simp only [List.getElem_toArray, List.getElem_cons_zero, List.getElem_cons_succ, Act.put, List.setIfInBounds_toArray, List.set_cons_zero, List.set_cons_succ]
                              refine wt_ready (rs := [7]) (by kernel_rfl) (by simp) ?_
                              refine AllT.cons rfl (by decide) (fun K hK => ?_) ?_
                              · go_simp
                                go_at_call 9
                                refine (HUB.out _ hS0).mono ?_
                                rintro e wk0 ⟨rfl, hbz⟩
                                have hC0 : Below we.heap.size we wk0 := hS0.trans (hbz.mono hS0.size)
                                clear hbz
                                refine hK.out _ _ (by exact hC0) ?_
                                clear hK K
                                try simp only [List.getElem_toArray, List.getElem_cons_zero, List.getElem_cons_succ, Act.put, List.setIfInBounds_toArray, List.set_cons_zero, List.set_cons_succ]
                                refine wt_take (i := 9) (v := ?_) HTK.out rfl (by decide) (by kernel_rfl) (by kernel_rfl) (fun _ _ _ h => h) (by exact hC0) (Or.inl ⟨by rfl, ?_⟩) ?_
                                rotate_left
                                · intro W hSw
                                  try dsimp only at hSw
                                  go_simp
                                  try (with_reducible rfl)
                                try simp only [List.getElem_toArray, List.getElem_cons_zero, List.getElem_cons_succ, Act.put, List.setIfInBounds_toArray, List.set_cons_zero, List.set_cons_succ]
                                refine wt_take (i := 10) (v := ?_) HTK.out rfl (by decide) (by kernel_rfl) (by kernel_rfl) (fun _ _ _ h => h) (by exact hC0) (Or.inl ⟨by rfl, ?_⟩) ?_
                                rotate_left
                                · intro W hSw
                                  try dsimp only at hSw
                                  go_simp
                                  try (with_reducible rfl)
                                try simp only [List.getElem_toArray, List.getElem_cons_zero, List.getElem_cons_succ, Act.put, List.setIfInBounds_toArray, List.set_cons_zero, List.set_cons_succ]
                                refine wt_take (i := 11) (v := ?_) HTK.out rfl (by decide) (by kernel_rfl) (by kernel_rfl) (fun _ _ _ h => h) (by exact hC0) (Or.inl ⟨by rfl, ?_⟩) ?_
                                rotate_left
                                · intro W hSw
                                  try dsimp only at hSw
                                  go_simp
                                  try (with_reducible rfl)
                                try simp only [List.getElem_toArray, List.getElem_cons_zero, List.getElem_cons_succ, Act.put, List.setIfInBounds_toArray, List.set_cons_zero, List.set_cons_succ]
                                refine wt_take (i := 12) (v := .agg (Lv.cells (realLv y te tu))) HTK.out rfl (by decide) (by kernel_rfl) (by kernel_rfl) (fun _ _ _ h => h) (by exact hC0) (yieldsIf_load_at (by rfl) _ _ (by rfl) _ (by rfl) (Lv.cells (realLv y te tu)) _ (fun W hSw => (Holds.of_block HBEb.out).below hSw (by exact hlb)) Try.underlying30 (by rfl) (sizeLv _)) ?_
                                try simp only [List.getElem_toArray, List.getElem_cons_zero, List.getElem_cons_succ, Act.put, List.setIfInBounds_toArray, List.set_cons_zero, List.set_cons_succ]
                                refine wt_take (i := 13) (v := ?_) HTK.out rfl (by decide) (by kernel_rfl) (by kernel_rfl) (fun _ _ _ h => h) (by exact hC0) (Or.inl ⟨by rfl, ?_⟩) ?_
                                rotate_left
                                · intro W hSw
                                  try dsimp only at hSw
                                  go_simp
                                  try (with_reducible rfl)
                                try simp only [List.getElem_toArray, List.getElem_cons_zero, List.getElem_cons_succ, Act.put, List.setIfInBounds_toArray, List.set_cons_zero, List.set_cons_succ]
                                refine wt_take (i := 15) (v := .agg (Lv.cells (realLv x se su))) HTK.out rfl (by decide) (by kernel_rfl) (by kernel_rfl) (fun _ _ _ h => h) (by exact hC0) (yieldsIf_load_at (by rfl) _ _ (by rfl) _ (by rfl) (Lv.cells (realLv x se su)) _ (fun W hSw => (Holds.of_block HAE.out).below hSw (by exact hla)) Try.underlying30 (by rfl) (sizeLv _)) ?_
                                try simp only [List.getElem_toArray, List.getElem_cons_zero, List.getElem_cons_succ, Act.put, List.setIfInBounds_toArray, List.set_cons_zero, List.set_cons_succ]
                                refine wt_take (i := 16) (v := ?_) HTK.out rfl (by decide) (by kernel_rfl) (by kernel_rfl) (fun _ _ _ h => h) (by exact hC0) (Or.inl ⟨by rfl, ?_⟩) ?_
                                rotate_left
                                · intro W hSw
                                  try dsimp only at hSw
                                  go_simp
                                  try (with_reducible rfl)
                                try simp only [List.getElem_toArray, List.getElem_cons_zero, List.getElem_cons_succ, Act.put, List.setIfInBounds_toArray, List.set_cons_zero, List.set_cons_succ]
                                refine wt_ready (rs := [14]) (by kernel_rfl) (by simp) ?_
                                refine AllT.cons rfl (by decide) (fun K hK => ?_) ?_
                                · go_simp
                                  go_at_call 9
                                  refine (HUB.out _ hC0).mono ?_
                                  rintro e wk1 ⟨rfl, hbz⟩
                                  have hC1 : Below we.heap.size we wk1 := hC0.trans (hbz.mono hC0.size)
                                  clear hbz
                                  refine hK.out _ _ (by exact hC1) ?_
                                  clear hK K
                                  try simp only [List.getElem_toArray, List.getElem_cons_zero, List.getElem_cons_succ, Act.put, List.setIfInBounds_toArray, List.set_cons_zero, List.set_cons_succ]
                                  refine wt_ready (rs := [17]) (by kernel_rfl) (by simp) ?_
                                  refine AllT.cons rfl (by decide) (fun K hK => ?_) ?_
                                  · go_simp
                                    go_at_call 9
                                    refine (HUA.out _ hC1).mono ?_
                                    rintro e wk2 ⟨rfl, hbz⟩
                                    have hC2 : Below we.heap.size we wk2 := hC1.trans (hbz.mono hC1.size)
                                    clear hbz
                                    refine hK.out _ _ (by exact hC2) ?_
                                    clear hK K
                                    try simp only [List.getElem_toArray, List.getElem_cons_zero, List.getElem_cons_succ, Act.put, List.setIfInBounds_toArray, List.set_cons_zero, List.set_cons_succ]
                                    refine wt_take (i := 18) (v := ?_) HTK.out rfl (by decide) (by kernel_rfl) (by kernel_rfl) (fun _ _ _ h => h) (by exact hC2) (Or.inl ⟨by rfl, ?_⟩) ?_
                                    rotate_left
                                    · intro W hSw
                                      try dsimp only at hSw
                                      go_simp
                                      try (with_reducible rfl)
                                    try simp only [List.getElem_toArray, List.getElem_cons_zero, List.getElem_cons_succ, Act.put, List.setIfInBounds_toArray, List.set_cons_zero, List.set_cons_succ]
                                    refine wt_take (i := 19) (v := ?_) HTK.out rfl (by decide) (by kernel_rfl) (by kernel_rfl) (fun _ _ _ h => h) (by exact hC2) (Or.inl ⟨by rfl, ?_⟩) ?_
                                    rotate_left
                                    · intro W hSw
                                      try dsimp only at hSw
                                      go_simp
                                      try (with_reducible rfl)
                                    try simp only [List.getElem_toArray, List.getElem_cons_zero, List.getElem_cons_succ, Act.put, List.setIfInBounds_toArray, List.set_cons_zero, List.set_cons_succ]
                                    refine wt_take (i := 20) (v := ?_) HTK.out rfl (by decide) (by kernel_rfl) (by kernel_rfl) (fun _ _ _ h => h) (by exact hC2) (Or.inl ⟨by rfl, ?_⟩) ?_
                                    rotate_left
                                    · intro W hSw
                                      try dsimp only at hSw
                                      go_simp
                                      try (with_reducible rfl)
                                    try simp only [List.getElem_toArray, List.getElem_cons_zero, List.getElem_cons_succ, Act.put, List.setIfInBounds_toArray, List.set_cons_zero, List.set_cons_succ]
                                    refine wt_take (i := 21) (v := ?_) HTK.out rfl (by decide) (by kernel_rfl) (by kernel_rfl) (fun _ _ _ h => h) (by exact hC2) (Or.inl ⟨by rfl, ?_⟩) ?_
                                    rotate_left
                                    · intro W hSw
                                      try dsimp only at hSw
                                      go_simp
                                      try (with_reducible rfl)
                                    try simp only [List.getElem_toArray, List.getElem_cons_zero, List.getElem_cons_succ, Act.put, List.setIfInBounds_toArray, List.set_cons_zero, List.set_cons_succ]
                                    refine wt_take (i := 22) (v := ?_) HTK.out rfl (by decide) (by kernel_rfl) (by kernel_rfl) (fun _ _ _ h => h) (by exact hC2) (Or.inl ⟨by rfl, ?_⟩) ?_
                                    rotate_left
                                    · intro W hSw
                                      try dsimp only at hSw
                                      have q0 := (hSw.cell (p := ⟨gb, 0, none⟩) (by exact hlb)).trans cb0
                                      go_simp
                                      try (with_reducible rfl)
                                    try simp only [List.getElem_toArray, List.getElem_cons_zero, List.getElem_cons_succ, Act.put, List.setIfInBounds_toArray, List.set_cons_zero, List.set_cons_succ]
                                    refine wt_take (i := 23) (v := ?_) HTK.out rfl (by decide) (by kernel_rfl) (by kernel_rfl) (fun _ _ _ h => h) (by exact hC2) (Or.inl ⟨by rfl, ?_⟩) ?_
                                    rotate_left
                                    · intro W hSw
                                      try dsimp only at hSw
                                      go_simp
                                      try (with_reducible rfl)
                                    try simp only [List.getElem_toArray, List.getElem_cons_zero, List.getElem_cons_succ, Act.put, List.setIfInBounds_toArray, List.set_cons_zero, List.set_cons_succ]
                                    refine wt_take (i := 24) (v := ?_) HTK.out rfl (by decide) (by kernel_rfl) (by kernel_rfl) (fun _ _ _ h => h) (by exact hC2) (Or.inl ⟨by rfl, ?_⟩) ?_
                                    rotate_left
                                    · intro W hSw
                                      try dsimp only at hSw
                                      go_simp
                                      try (with_reducible rfl)
                                    try simp only [List.getElem_toArray, List.getElem_cons_zero, List.getElem_cons_succ, Act.put, List.setIfInBounds_toArray, List.set_cons_zero, List.set_cons_succ]
                                    refine wt_take (i := 25) (v := ?_) HTK.out rfl (by decide) (by kernel_rfl) (by kernel_rfl) (fun _ _ _ h => h) (by exact hC2) (Or.inl ⟨by rfl, ?_⟩) ?_
                                    rotate_left
                                    · intro W hSw
                                      try dsimp only at hSw
                                      go_simp
                                      try (with_reducible rfl)
                                    try simp only [List.getElem_toArray, List.getElem_cons_zero, List.getElem_cons_succ, Act.put, List.setIfInBounds_toArray, List.set_cons_zero, List.set_cons_succ]
                                    refine wt_take (i := 26) (v := ?_) HTK.out rfl (by decide) (by kernel_rfl) (by kernel_rfl) (fun _ _ _ h => h) (by exact hC2) (Or.inl ⟨by rfl, ?_⟩) ?_
                                    rotate_left
                                    · intro W hSw
                                      try dsimp only at hSw
                                      go_simp
                                      try (with_reducible rfl)
                                    try simp only [List.getElem_toArray, List.getElem_cons_zero, List.getElem_cons_succ, Act.put, List.setIfInBounds_toArray, List.set_cons_zero, List.set_cons_succ]
                                    refine wt_take (i := 27) (v := ?_) HTK.out rfl (by decide) (by kernel_rfl) (by kernel_rfl) (fun _ _ _ h => h) (by exact hC2) (Or.inl ⟨by rfl, ?_⟩) ?_
                                    rotate_left
                                    · intro W hSw
                                      try dsimp only at hSw
                                      have q0 := (hSw.cell (p := ⟨gb, 0, none⟩) (by exact hlb)).trans cb0
                                      go_simp
                                      try (with_reducible rfl)
                                    try simp only [List.getElem_toArray, List.getElem_cons_zero, List.getElem_cons_succ, Act.put, List.setIfInBounds_toArray, List.set_cons_zero, List.set_cons_succ]
                                    refine wt_take (i := 28) (v := ?_) HTK.out rfl (by decide) (by kernel_rfl) (by kernel_rfl) (fun _ _ _ h => h) (by exact hC2) (Or.inl ⟨by rfl, ?_⟩) ?_
                                    rotate_left
                                    · intro W hSw
                                      try dsimp only at hSw
                                      go_simp
                                      try (with_reducible rfl)
                                    try simp only [List.getElem_toArray, List.getElem_cons_zero, List.getElem_cons_succ, Act.put, List.setIfInBounds_toArray, List.set_cons_zero, List.set_cons_succ]
                                    refine wt_take (i := 29) (v := ?_) HTK.out rfl (by decide) (by kernel_rfl) (by kernel_rfl) (fun _ _ _ h => h) (by exact hC2) (Or.inl ⟨by rfl, ?_⟩) ?_
                                    rotate_left
                                    · intro W hSw
                                      try dsimp only at hSw
                                      have q0 := (hSw.cell (p := ⟨ga, 0, none⟩) (by exact hla)).trans ca0
                                      go_simp
                                      try (with_reducible rfl)
                                    try simp only [List.getElem_toArray, List.getElem_cons_zero, List.getElem_cons_succ, Act.put, List.setIfInBounds_toArray, List.set_cons_zero, List.set_cons_succ]
                                    refine wt_take (i := 30) (v := ?_) HTK.out rfl (by decide) (by kernel_rfl) (by kernel_rfl) (fun _ _ _ h => h) (by exact hC2) (Or.inl ⟨by rfl, ?_⟩) ?_
                                    rotate_left
                                    · intro W hSw
                                      try dsimp only at hSw
                                      go_simp
                                      try (with_reducible rfl)
                                    try simp only [List.getElem_toArray, List.getElem_cons_zero, List.getElem_cons_succ, Act.put, List.setIfInBounds_toArray, List.set_cons_zero, List.set_cons_succ]
                                    refine wt_take (i := 31) (v := ?_) HTK.out rfl (by decide) (by kernel_rfl) (by kernel_rfl) (fun _ _ _ h => h) (by exact hC2) (Or.inl ⟨by rfl, ?_⟩) ?_
                                    rotate_left
                                    · intro W hSw
                                      try dsimp only at hSw
                                      go_simp
                                      try (with_reducible rfl)
                                    try simp only [List.getElem_toArray, List.getElem_cons_zero, List.getElem_cons_succ, Act.put, List.setIfInBounds_toArray, List.set_cons_zero, List.set_cons_succ]
                                    refine wt_last (k := 32) (by kernel_rfl) (by kernel_rfl) (by decide) rfl (fun K hK => ?_)
                                    go_simp
                                    refine hK.out _ _ ?_
                                    clear hK K
                                    try simp only [List.getElem_toArray, List.getElem_cons_zero, List.getElem_cons_succ, Act.put, List.setIfInBounds_toArray, List.set_cons_zero, List.set_cons_succ]
                                    go_wp2_with fail
                                    go_meet
                                    exact ⟨rfl, hC2⟩
                                  exact AllT.nil
                                exact AllT.nil
                              exact AllT.nil
                      case rest =>
                        obtain ⟨rfl, hbx⟩ := hcut
                        have HBX := Lib.hid hbx
                        have HBWX := Lib.hid (HBE.out.trans (hbx.mono HBE.out.size))
                        have hbxb := (HB8.out.trans (HBCE.out.mono HB8.out.size)).trans (hbx.mono ((HB8.out.trans (HBCE.out.mono HB8.out.size)).size))
                        have c8 : wc.cell? ⟨w.heap.size, 8, none⟩ = some (.slice x.us.a x.us.n x.us.c) := cell_at (j := 8) ((hbxb.block _ (blk_lt HX.out)).trans HX.out) rfl
                        obtain ⟨w10, hren⟩ : ∃ wn : World, wn = wc := ⟨_, rfl⟩
                        subst hren
                        have hul : ux.length ≤ 20 := few_20 HFW1.out
                        have HRISE := Lib.hid (HRS5.out (by first | rfl | trivial))
                        clear hbx hbxb HL1 HL2
                        go_wp2_with fail
                        clear c8
                        go_loopw [117] (fun i wr => ∃ k : Nat, k ≤ ux.length ∧ i = .int .i64 k ∧ Below w10.heap.size w10 wr) (fun i _ => ux.length - (intOf i).toNat)
                        case atStart => exact ⟨0, by omega, rfl, Below.refl _ _⟩
                        case round =>
                          obtain ⟨k, hk, rfl, hb⟩ := hrel
                          have hbw := HBWX.out.trans (hb.mono HBWX.out.size)
                          have HBR := Lib.hid hb
                          have HBWR := Lib.hid hbw
                          by_cases hlt : k < ux.length
                          · obtain ⟨ad, hla, hadl, hcell⟩ := (HUX.out.below hbw rfl).2.2 (by omega)
                            have hz : ux[k]? = some ux[k] := List.getElem?_eq_getElem hlt
                            have hmem : ux[k] ∈ ux := List.getElem_mem hlt
                            generalize ux[k] = z at hz hmem
                            obtain ⟨c0, c1⟩ := hcell k z hz
                            have HBU := Lib.hid (fun (h1 : ¬ z.name.toList = by_.toList) (h2 : z.level ≥ userN ux x.n6 by_) => bound_user HOK.out HRISE.out hmem h1 h2)
                            have hbe : Below we.heap.size we wr := HBX.out.trans (hb.mono HBX.out.size)
                            have hB2 := (hbe.block _ (blk_lt HBEb.out)).trans HBEb.out
                            have HBE2 := Lib.hid hbe
                            rw [hla]
                            clear hz hmem hcell hb hbw hbe
                            go_upto_region 13 with fail
                            clear c0 c1
                            obtain ⟨wa, hwa⟩ : ∃ wa : World, wa = wr.alloc (.cells #[.string z.name, .int .i64 z.level] 56) := ⟨_, rfl⟩
                            have hba : Below wr.heap.size wr wa := by rw [hwa]; exact (Below.refl _ _).alloc (Nat.le_refl _) _
                            have hma : wa.heap[wr.heap.size]? = some (.cells #[.string z.name, .int .i64 z.level] 56 (0, 0)) := by rw [hwa]; exact heap_new_at _ _ _ rfl
                            rw [← hwa]
                            have m0 : wa.cell? ⟨wr.heap.size, 0, none⟩ = some (.string z.name) := cell_at (j := 0) hma rfl
                            have m1 : wa.cell? ⟨wr.heap.size, 1, none⟩ = some (.int .i64 z.level) := cell_at (j := 1) hma rfl
                            have hlm := blk_lt hma
                            have HB3 := Lib.hid ((hba.block _ (blk_lt hB2)).trans hB2)
                            have hlb := blk_lt HB3.out
                            have HBRA := Lib.hid (HBR.out.trans (hba.mono HBR.out.size))
                            have HUZ := Lib.hid (show ∀ W, Below wa.heap.size wa W → Calls Try.prog 9 #[.agg (realLv y te tu).cells, .string z.name] W fun e w' => e = .returned (.int .i64 (userN uy y.n6 z.name)) ∧ Below W.heap.size W w' from fun W hW => HU2.out W (HBCE.out.trans ((HBE2.out.trans ((hba.trans (hW.mono hba.size)).mono HBE2.out.size)).mono HBCE.out.size)) z.name)
                            clear hwa hba hma hB2
                            cases hn : (z.name.toList == by_.toList) with
                            | true =>
                              have hn2 : (!(z.name.toList == by_.toList)) = false := by simp [hn]
                              go_quiet (fail)
                              go_wp2_with fail
                              exact ⟨⟨k + 1, by omega, by go_num, below_drewN' HBRA.out _⟩, by simp [intOf]; omega⟩
                            | false =>
                              have hnn : ¬ z.name.toList = by_.toList := by simpa using hn
                              have hn2 : (!(z.name.toList == by_.toList)) = true := by simp [hn]
                              have HNN := Lib.hid hnn
                              clear hnn
                              cases hl : decide (z.level ≥ p) with
                              | false =>
                                have hlt3 : z.level < p := by simpa using hl
                                have hl2 : decide (p ≤ z.level) = false := decide_eq_false (by omega)
                                have hl3 : decide (z.level < p) = true := decide_eq_true hlt3
                                clear hlt3
                                go_quiet (fail)
                                go_wp2_with fail
                                exact ⟨⟨k + 1, by omega, by go_num, below_drewN' HBRA.out _⟩, by simp [intOf]; omega⟩
                              | true =>
                                have hlt3 : p ≤ z.level := by simpa using hl
                                have hl2 : decide (p ≤ z.level) = true := decide_eq_true hlt3
                                have hl3 : decide (z.level < p) = false := decide_eq_false (by omega)
                                clear hlt3
                                have hu : userN uy y.n6 z.name = z.level := HBU.out HNN.out (by rw [← HPE.out]; simpa using hl)
                                rw [hu] at HUZ
                                clear hu
                                refine wt_start (S := fun W => Below wa.heap.size wa W) 18 (by kernel_rfl) ⟨by kernel_rfl, by kernel_rfl, by kernel_rfl, by decide⟩ ?_
                                intro HTK
                                have hS0 : Below wa.heap.size wa wa.drew := (Below.refl _ _).drew
                                refine wt_take (i := 0) (v := ?_) HTK.out rfl (by decide) (by kernel_rfl) (by kernel_rfl) (fun _ _ _ h => h) (by exact hS0) (Or.inl ⟨by rfl, ?_⟩) ?_
                                rotate_left
                                · intro W hSw
                                  try dsimp only at hSw
                                  go_simp
                                  try (with_reducible rfl)
                                try simp only [List.getElem_toArray, List.getElem_cons_zero, List.getElem_cons_succ, Act.put, List.setIfInBounds_toArray, List.set_cons_zero, List.set_cons_succ]
                                refine wt_take (i := 1) (v := ?_) HTK.out rfl (by decide) (by kernel_rfl) (by kernel_rfl) (fun _ _ _ h => h) (by exact hS0) (Or.inl ⟨by rfl, ?_⟩) ?_
                                rotate_left
                                · intro W hSw
                                  try dsimp only at hSw
                                  have q0 := (hSw.cell (p := ⟨wr.heap.size, 0, none⟩) (by exact hlm)).trans m0
                                  go_simp
                                  try (with_reducible rfl)
                                try simp only [List.getElem_toArray, List.getElem_cons_zero, List.getElem_cons_succ, Act.put, List.setIfInBounds_toArray, List.set_cons_zero, List.set_cons_succ]
                                refine wt_take (i := 2) (v := ?_) HTK.out rfl (by decide) (by kernel_rfl) (by kernel_rfl) (fun _ _ _ h => h) (by exact hS0) (Or.inl ⟨by rfl, ?_⟩) ?_
                                rotate_left
                                · intro W hSw
                                  try dsimp only at hSw
                                  go_simp
                                  try (with_reducible rfl)
                                try simp only [List.getElem_toArray, List.getElem_cons_zero, List.getElem_cons_succ, Act.put, List.setIfInBounds_toArray, List.set_cons_zero, List.set_cons_succ]
                                refine wt_take (i := 3) (v := ?_) HTK.out rfl (by decide) (by kernel_rfl) (by kernel_rfl) (fun _ _ _ h => h) (by exact hS0) (Or.inl ⟨by rfl, ?_⟩) ?_
                                rotate_left
                                · intro W hSw
                                  try dsimp only at hSw
                                  go_simp
                                  try (with_reducible rfl)
                                try simp only [List.getElem_toArray, List.getElem_cons_zero, List.getElem_cons_succ, Act.put, List.setIfInBounds_toArray, List.set_cons_zero, List.set_cons_succ]
                                refine wt_take (i := 4) (v := ?_) HTK.out rfl (by decide) (by kernel_rfl) (by kernel_rfl) (fun _ _ _ h => h) (by exact hS0) (Or.inl ⟨by rfl, ?_⟩) ?_
                                rotate_left
                                · intro W hSw
                                  try dsimp only at hSw
                                  go_simp
                                  try (with_reducible rfl)
                                try simp only [List.getElem_toArray, List.getElem_cons_zero, List.getElem_cons_succ, Act.put, List.setIfInBounds_toArray, List.set_cons_zero, List.set_cons_succ]
                                refine wt_take (i := 5) (v := ?_) HTK.out rfl (by decide) (by kernel_rfl) (by kernel_rfl) (fun _ _ _ h => h) (by exact hS0) (Or.inl ⟨by rfl, ?_⟩) ?_
                                rotate_left
                                · intro W hSw
                                  try dsimp only at hSw
                                  go_simp
                                  try (with_reducible rfl)
                                try simp only [List.getElem_toArray, List.getElem_cons_zero, List.getElem_cons_succ, Act.put, List.setIfInBounds_toArray, List.set_cons_zero, List.set_cons_succ]
                                refine wt_take (i := 6) (v := ?_) HTK.out rfl (by decide) (by kernel_rfl) (by kernel_rfl) (fun _ _ _ h => h) (by exact hS0) (Or.inl ⟨by rfl, ?_⟩) ?_
                                rotate_left
                                · intro W hSw
                                  try dsimp only at hSw
                                  have q0 := (hSw.cell (p := ⟨wr.heap.size, 1, none⟩) (by exact hlm)).trans m1
                                  go_simp
                                  try (with_reducible rfl)
                                try simp only [List.getElem_toArray, List.getElem_cons_zero, List.getElem_cons_succ, Act.put, List.setIfInBounds_toArray, List.set_cons_zero, List.set_cons_succ]
                                refine wt_take (i := 7) (v := ?_) HTK.out rfl (by decide) (by kernel_rfl) (by kernel_rfl) (fun _ _ _ h => h) (by exact hS0) (Or.inl ⟨by rfl, ?_⟩) ?_
                                rotate_left
                                · intro W hSw
                                  try dsimp only at hSw
                                  go_simp
                                  try (with_reducible rfl)
                                try simp only [List.getElem_toArray, List.getElem_cons_zero, List.getElem_cons_succ, Act.put, List.setIfInBounds_toArray, List.set_cons_zero, List.set_cons_succ]
                                refine wt_take (i := 8) (v := ?_) HTK.out rfl (by decide) (by kernel_rfl) (by kernel_rfl) (fun _ _ _ h => h) (by exact hS0) (Or.inl ⟨by rfl, ?_⟩) ?_
                                rotate_left
                                · intro W hSw
                                  try dsimp only at hSw
                                  go_simp
                                  try (with_reducible rfl)
                                try simp only [List.getElem_toArray, List.getElem_cons_zero, List.getElem_cons_succ, Act.put, List.setIfInBounds_toArray, List.set_cons_zero, List.set_cons_succ]
                                refine wt_take (i := 9) (v := ?_) HTK.out rfl (by decide) (by kernel_rfl) (by kernel_rfl) (fun _ _ _ h => h) (by exact hS0) (Or.inl ⟨by rfl, ?_⟩) ?_
                                rotate_left
                                · intro W hSw
                                  try dsimp only at hSw
                                  go_simp
                                  try (with_reducible rfl)
                                try simp only [List.getElem_toArray, List.getElem_cons_zero, List.getElem_cons_succ, Act.put, List.setIfInBounds_toArray, List.set_cons_zero, List.set_cons_succ]
                                refine wt_take (i := 10) (v := ?_) HTK.out rfl (by decide) (by kernel_rfl) (by kernel_rfl) (fun _ _ _ h => h) (by exact hS0) (Or.inl ⟨by rfl, ?_⟩) ?_
                                rotate_left
                                · intro W hSw
                                  try dsimp only at hSw
                                  go_simp
                                  try (with_reducible rfl)
                                try simp only [List.getElem_toArray, List.getElem_cons_zero, List.getElem_cons_succ, Act.put, List.setIfInBounds_toArray, List.set_cons_zero, List.set_cons_succ]
                                refine wt_take (i := 11) (v := .agg (Lv.cells (realLv y te tu))) HTK.out rfl (by decide) (by kernel_rfl) (by kernel_rfl) (fun _ _ _ h => h) (by exact hS0) (yieldsIf_load_at (by rfl) _ _ (by rfl) _ (by rfl) (Lv.cells (realLv y te tu)) _ (fun W hSw => (Holds.of_block HB3.out).below hSw (by exact hlb)) Try.underlying30 (by rfl) (sizeLv _)) ?_
                                try simp only [List.getElem_toArray, List.getElem_cons_zero, List.getElem_cons_succ, Act.put, List.setIfInBounds_toArray, List.set_cons_zero, List.set_cons_succ]
                                refine wt_take (i := 12) (v := ?_) HTK.out rfl (by decide) (by kernel_rfl) (by kernel_rfl) (fun _ _ _ h => h) (by exact hS0) (Or.inl ⟨by rfl, ?_⟩) ?_
                                rotate_left
                                · intro W hSw
                                  try dsimp only at hSw
                                  go_simp
                                  try (with_reducible rfl)
                                try simp only [List.getElem_toArray, List.getElem_cons_zero, List.getElem_cons_succ, Act.put, List.setIfInBounds_toArray, List.set_cons_zero, List.set_cons_succ]
                                refine wt_take (i := 13) (v := ?_) HTK.out rfl (by decide) (by kernel_rfl) (by kernel_rfl) (fun _ _ _ h => h) (by exact hS0) (Or.inl ⟨by rfl, ?_⟩) ?_
                                rotate_left
                                · intro W hSw
                                  try dsimp only at hSw
                                  have q0 := (hSw.cell (p := ⟨wr.heap.size, 0, none⟩) (by exact hlm)).trans m0
                                  go_simp
                                  try (with_reducible rfl)
                                try simp only [List.getElem_toArray, List.getElem_cons_zero, List.getElem_cons_succ, Act.put, List.setIfInBounds_toArray, List.set_cons_zero, List.set_cons_succ]
                                refine wt_take (i := 15) (v := ?_) HTK.out rfl (by decide) (by kernel_rfl) (by kernel_rfl) (fun _ _ _ h => h) (by exact hS0) (Or.inl ⟨by rfl, ?_⟩) ?_
                                rotate_left
                                · intro W hSw
                                  try dsimp only at hSw
                                  go_simp
                                  try (with_reducible rfl)
                                try simp only [List.getElem_toArray, List.getElem_cons_zero, List.getElem_cons_succ, Act.put, List.setIfInBounds_toArray, List.set_cons_zero, List.set_cons_succ]
                                refine wt_take (i := 16) (v := ?_) HTK.out rfl (by decide) (by kernel_rfl) (by kernel_rfl) (fun _ _ _ h => h) (by exact hS0) (Or.inl ⟨by rfl, ?_⟩) ?_
                                rotate_left
                                · intro W hSw
                                  try dsimp only at hSw
                                  have q0 := (hSw.cell (p := ⟨wr.heap.size, 1, none⟩) (by exact hlm)).trans m1
                                  go_simp
                                  try (with_reducible rfl)
                                try simp only [List.getElem_toArray, List.getElem_cons_zero, List.getElem_cons_succ, Act.put, List.setIfInBounds_toArray, List.set_cons_zero, List.set_cons_succ]
                                refine wt_ready (rs := [14]) (by kernel_rfl) (by simp) ?_
                                refine AllT.cons rfl (by decide) (fun K hK => ?_) ?_
                                · go_simp
                                  go_at_call 9
                                  refine (HUZ.out _ hS0).mono ?_
                                  rintro e wk0 ⟨rfl, hbz⟩
                                  have hC0 : Below wa.heap.size wa wk0 := hS0.trans (hbz.mono hS0.size)
                                  clear hbz
                                  refine hK.out _ _ (by exact hC0) ?_
                                  clear hK K
                                  try simp only [List.getElem_toArray, List.getElem_cons_zero, List.getElem_cons_succ, Act.put, List.setIfInBounds_toArray, List.set_cons_zero, List.set_cons_succ]
                                  refine wt_take (i := 17) (v := ?_) HTK.out rfl (by decide) (by kernel_rfl) (by kernel_rfl) (fun _ _ _ h => h) (by exact hC0) (Or.inl ⟨by rfl, ?_⟩) ?_
                                  rotate_left
                                  · intro W hSw
                                    try dsimp only at hSw
                                    go_simp
                                    try (with_reducible rfl)
                                  try simp only [List.getElem_toArray, List.getElem_cons_zero, List.getElem_cons_succ, Act.put, List.setIfInBounds_toArray, List.set_cons_zero, List.set_cons_succ]
                                  refine wt_last (k := 18) (by kernel_rfl) (by kernel_rfl) (by decide) rfl (fun K hK => ?_)
                                  go_simp
                                  refine hK.out _ _ ?_
                                  clear hK K
                                  try simp only [List.getElem_toArray, List.getElem_cons_zero, List.getElem_cons_succ, Act.put, List.setIfInBounds_toArray, List.set_cons_zero, List.set_cons_succ]
                                  go_wp2_with fail
                                  exact ⟨⟨k + 1, by omega, by go_num, HBRA.out.trans (hC0.mono HBRA.out.size)⟩, by simp [intOf]; omega⟩
                                exact AllT.nil
                          · obtain rfl : k = ux.length := by omega
                            clear hb hbw
                            go_wp2_with fail
                            go_ret
                            exact ⟨rfl, HBWR.out⟩
end Go.Proofs.Ytiehdfokcnphdaa
