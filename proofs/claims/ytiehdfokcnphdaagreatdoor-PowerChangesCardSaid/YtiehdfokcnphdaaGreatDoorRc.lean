/- The document's Change: why a change may not be made. -/
import Derived.Test.YtiehdfokcnphdaaGreatDoorLi
import Derived.Test.YtiehdfokcnphdaaGreatDoorRn
import Derived.Test.YtiehdfokcnphdaaGreatDoorLd
import Derived.Test.YtiehdfokcnphdaaGreatDoorWt
import Derived.Deep.DeepCutAuto
import Derived.Deep.Cut
set_option linter.unusedVariables false
set_option linter.unusedSimpArgs false
namespace Go.Proofs.YtiehdfokcnphdaaGreatDoor
open Go.RowKit Go.Shelf Go.Sort

abbrev noSl : Sl := ⟨none, 0, 0⟩
/-- A part's place, as the document writes it. -/
def plcN (pt : Pt) : Int := match pt.num, pt.lst with
  | some j, _ => j
  | none, some 7 => -1
  | none, _ => -2
abbrev keysC : Array Value := #[.string ⟨#[98, 97, 110]⟩, .string ⟨#[101, 118, 101, 110, 116, 115]⟩, .string ⟨#[101, 118, 101, 110, 116, 115, 95, 100, 101, 102, 97, 117, 108, 116]⟩, .string ⟨#[105, 110, 118, 105, 116, 101]⟩, .string ⟨#[107, 105, 99, 107]⟩, .string ⟨#[114, 101, 100, 97, 99, 116]⟩, .string ⟨#[115, 116, 97, 116, 101, 95, 100, 101, 102, 97, 117, 108, 116]⟩, .string ⟨#[117, 115, 101, 114, 115]⟩, .string ⟨#[117, 115, 101, 114, 115, 95, 100, 101, 102, 97, 117, 108, 116]⟩]
abbrev plcsC : Array Value := #[.int .i64 0, .int .i64 (-1), .int .i64 5, .int .i64 3, .int .i64 1, .int .i64 2, .int .i64 4, .int .i64 (-2), .int .i64 6]
theorem pts_cells : ∀ (k : Nat) (pt : Pt), pts[k]? = some pt → keysC[k]? = some (.string pt.key) ∧ plcsC[k]? = some (.int .i64 (plcN pt)) ∧ pt.key.size ≤ 100 := by
  intro k pt h
  have hk : k < 9 := (List.getElem?_eq_some_iff.1 h).1
  match k, hk with
  | 0, _ => obtain rfl := Option.some.inj h; exact ⟨rfl, rfl, by decide⟩
  | 1, _ => obtain rfl := Option.some.inj h; exact ⟨rfl, rfl, by decide⟩
  | 2, _ => obtain rfl := Option.some.inj h; exact ⟨rfl, rfl, by decide⟩
  | 3, _ => obtain rfl := Option.some.inj h; exact ⟨rfl, rfl, by decide⟩
  | 4, _ => obtain rfl := Option.some.inj h; exact ⟨rfl, rfl, by decide⟩
  | 5, _ => obtain rfl := Option.some.inj h; exact ⟨rfl, rfl, by decide⟩
  | 6, _ => obtain rfl := Option.some.inj h; exact ⟨rfl, rfl, by decide⟩
  | 7, _ => obtain rfl := Option.some.inj h; exact ⟨rfl, rfl, by decide⟩
  | 8, _ => obtain rfl := Option.some.inj h; exact ⟨rfl, rfl, by decide⟩
theorem cell9 (x : L9) (s1 s2 : Sl) {j : Nat} (hj : j < 7) : x.cells[j]? = some (.int .i64 (numAt (realLv x s1 s2) j)) := by
  match j, hj with
  | 0, _ => rfl
  | 1, _ => rfl
  | 2, _ => rfl
  | 3, _ => rfl
  | 4, _ => rfl
  | 5, _ => rfl
  | 6, _ => rfl
theorem sizeL9 (x : L9) : (Tryz.prog.info? 25).map (·.size) = some x.cells.size := show _ = some 9 from by kernel_rfl
theorem sizeE3 (c : Int) (p : Value) : (Tryz.prog.info? 36).map (·.size) = some (#[.int .i64 c, .int .i64 (-1), p] : Array Value).size := show _ = some 3 from by kernel_rfl
theorem e_all (p : List ByteArray) (c : Int) : (eCells (some (p, c))).all (·.oneCell') = true := Array.all_eq_true_iff_forall_mem.2 (fun v hv => by
  simp at hv
  rcases hv with rfl | rfl | rfl <;> rfl)
set_option maxRecDepth 100000 in
set_option maxHeartbeats 8000000 in
theorem rchange_calls (w : World) (x y : L9) (by_ : ByteArray) (ex ux ey uy : List Nm) (hex : InN w x.ev.a x.ev.n ex) (hux : InN w x.us.a x.us.n ux) (hey : InN w y.ev.a y.ev.n ey) (huy : InN w y.us.a y.us.n uy)
    (hke : ex.length + ey.length ≤ 1000000) (hku : ux.length + uy.length ≤ 1000000) (hnm : ∀ z ∈ (ex ++ ey) ++ (ux ++ uy), z.name.size ≤ 100) :
    Calls Tryz.prog 10 #[.agg x.cells, .agg y.cells, .string by_] w fun e w' => e = .returned (erV (docs by_ ((findN ux by_).getD x.n6) (realLv x noSl noSl) (realLv y noSl noSl) ex ux ey uy pts)) ∧ Below w.heap.size w w' := by
  have n1 : x.ev.n = ex.length := hex.1
  have n3 : y.ev.n = ey.length := hey.1
  have n2 : x.us.n = ux.length := hux.1
  have n4 : y.us.n = uy.length := huy.1
  have HUX0 := Lib.hid hux
  rw [n1] at hex
  rw [n2] at hux
  rw [n3] at hey
  rw [n4] at huy
  have HEX := Lib.hid hex
  have HUX := Lib.hid hux
  have HEY := Lib.hid hey
  have HUY := Lib.hid huy
  have HKE := Lib.hid hke
  have HKU := Lib.hid hku
  have HNM := Lib.hid hnm
  obtain ⟨pp, hpp⟩ : ∃ pp, pp = (findN ux by_).getD x.n6 := ⟨_, rfl⟩
  rw [← hpp]
  have HPP := Lib.hid hpp
  obtain ⟨X, hX⟩ : ∃ X, X = realLv x noSl noSl := ⟨_, rfl⟩
  obtain ⟨Y, hY⟩ : ∃ Y, Y = realLv y noSl noSl := ⟨_, rfl⟩
  rw [← hX, ← hY]
  have HCX := Lib.hid (show ∀ j, j < 7 → x.cells[j]? = some (.int .i64 (numAt X j)) from fun j hj => by rw [hX]; exact cell9 x noSl noSl hj)
  have HCY := Lib.hid (show ∀ j, j < 7 → y.cells[j]? = some (.int .i64 (numAt Y j)) from fun j hj => by rw [hY]; exact cell9 y noSl noSl hj)
  clear hX hY
  obtain ⟨w3, hw3⟩ : ∃ w3 : World, w3 = ((w.alloc (.cells x.cells 25)).alloc (.cells y.cells 25)).alloc (.cells EZ 36) := ⟨_, rfl⟩
  have hb3 : Below w.heap.size w w3 := by rw [hw3]; exact (((Below.refl _ _).alloc (Nat.le_refl _) _).alloc (by simp) _).alloc (by simp; omega) _
  have HX3 := Lib.hid (show w3.heap[w.heap.size]? = some (.cells x.cells 25 (0, 0)) by rw [hw3]; exact (heap_old_at _ _ _ (by simp; omega)).trans ((heap_old_at _ _ _ (by simp)).trans (heap_new_at _ _ _ rfl)))
  have HY3 := Lib.hid (show w3.heap[w.heap.size + 1]? = some (.cells y.cells 25 (0, 0)) by rw [hw3]; exact (heap_old_at _ _ _ (by simp)).trans (heap_new_at _ _ _ (by simp)))
  have HE3 := Lib.hid (show w3.heap[w.heap.size + 2]? = some (.cells EZ 36 (0, 0)) by rw [hw3]; exact heap_new_at _ _ _ (by simp))
  have HW3 := Lib.hid hw3
  have HB3 := Lib.hid hb3
  clear hex hux hey huy hke hku hnm hpp hw3 hb3
  go_enter Tryz.func10, Tryz.ntmps10
  go_upto_region 1 with fail
  rw [← HW3.out]
  go_wp2_with (refine wpList_load_at rfl _ _ rfl ⟨w.heap.size, 0, none⟩ rfl x.cells _ (Holds.of_block HX3.out) Tryz.underlying25 rfl (sizeL9 x) ?_)
  refine (ruser_calls w3 x ux by_ (HUX0.out.below HB3.out rfl)).mono ?_
  rintro e w4 ⟨rfl, hb⟩
  rw [← HPP.out]
  have HB34 := Lib.hid hb
  clear hb
  go_wp2_with fail
  refine (rerr_calls w4 22).mono ?_
  rintro e w5 ⟨rfl, hb⟩
  have HB35 := Lib.hid (HB34.out.trans (hb.mono HB34.out.size))
  clear hb HB34
  simp only [erV, eCells]
  go_upto_region 3 with fail
  obtain ⟨w6, hw6⟩ : ∃ w6 : World, w6 = w5.alloc (.cells #[.int .i64 22, .int .i64 (-1), .string (ofL (pathL []))] 36) := ⟨_, rfl⟩
  rw [← hw6]
  have hd6 : w6.heap[w5.heap.size]? = some (.cells #[.int .i64 22, .int .i64 (-1), .string (ofL (pathL []))] 36 (0, 0)) := by rw [hw6]; exact heap_new_at _ _ _ rfl
  have hb6 : Below w5.heap.size w5 w6 := by rw [hw6]; exact (Below.refl _ _).alloc (Nat.le_refl _) _
  clear hw6
  go_upto_region 5 with fail
  obtain ⟨w8, hw8⟩ : ∃ w8 : World, w8 = (w6.alloc (.cells keysC 9)).alloc (.cells plcsC 3) := ⟨_, rfl⟩
  rw [show ((w6.alloc _).alloc _) = w8 from hw8.symm]
  have HKC := Lib.hid (show w8.heap[w6.heap.size]? = some (.cells keysC 9 (0, 0)) by rw [hw8]; exact (heap_old_at _ _ _ (by simp)).trans (heap_new_at _ _ _ rfl))
  have HPC := Lib.hid (show w8.heap[w6.heap.size + 1]? = some (.cells plcsC 3 (0, 0)) by rw [hw8]; exact heap_new_at _ _ _ (by simp))
  have hb68 : Below w6.heap.size w6 w8 := by rw [hw8]; exact ((Below.refl _ _).alloc (Nat.le_refl _) _).alloc (by simp) _
  have HD8 := Lib.hid ((hb68.block _ (blk_lt hd6)).trans hd6)
  have HB38 := Lib.hid (HB35.out.trans ((hb6.trans (hb68.mono hb6.size)).mono HB35.out.size))
  obtain ⟨g4, hg4⟩ : ∃ g, g = w6.heap.size := ⟨_, rfl⟩
  obtain ⟨g3, hg3⟩ : ∃ g, g = w5.heap.size := ⟨_, rfl⟩
  rw [← hg4] at HKC HPC ⊢
  rw [← hg3] at HD8 ⊢
  have HX8 := Lib.hid ((HB38.out.block _ (blk_lt HX3.out)).trans HX3.out)
  have HY8 := Lib.hid ((HB38.out.block _ (blk_lt HY3.out)).trans HY3.out)
  have HE8 := Lib.hid ((HB38.out.block _ (blk_lt HE3.out)).trans HE3.out)
  have HB8 := Lib.hid (HB3.out.trans (HB38.out.mono HB3.out.size))
  clear hw8 hb68 hd6 hb6 hg4 hg3
  go_wp2_with fail
  go_loopw [25] (fun c25 wr => ∃ k : Nat, k ≤ 9 ∧ c25 = .int .i64 k ∧ (∀ i q, i < k → pts[i]? = some q → docE by_ pp X Y ex ux ey uy q = none) ∧ Below w8.heap.size w8 wr) (fun c25 _ => 9 - (intOf c25).toNat)
  case atStart => exact ⟨0, by omega, rfl, by omega, Below.refl _ _⟩
  case round =>
    obtain ⟨k, hk, rfl, hnone, hb⟩ := hrel
    have HNONE := Lib.hid hnone
    have HBR := Lib.hid hb
    have HBW := Lib.hid (HB8.out.trans (hb.mono HB8.out.size))
    by_cases hlt : k < 9
    · obtain ⟨pt, hpt⟩ : ∃ pt, pts[k]? = some pt := ⟨_, List.getElem?_eq_getElem hlt⟩
      obtain ⟨hkc, hpc, hks⟩ := pts_cells k pt hpt
      have hkr := (hb.block _ (blk_lt HKC.out)).trans HKC.out
      have hpr := (hb.block _ (blk_lt HPC.out)).trans HPC.out
      have q1 : wr.cell? ⟨g4, k, none⟩ = some (.string pt.key) := cell_at hkr hkc
      have q2 : wr.cell? ⟨g4 + 1, k, none⟩ = some (.int .i64 (plcN pt)) := cell_at hpr hpc
      have hXr := (hb.block _ (blk_lt HX8.out)).trans HX8.out
      have hYr := (hb.block _ (blk_lt HY8.out)).trans HY8.out
      have hEr := (hb.block _ (blk_lt HE8.out)).trans HE8.out
      have hDr := (hb.block _ (blk_lt HD8.out)).trans HD8.out
      have HPT := Lib.hid hpt
      have HKS := Lib.hid hks
      rcases pts_form pt (List.mem_of_getElem? hpt) with ⟨j, hnum, _, hj⟩ | ⟨hnum, hlst, _⟩ | ⟨hnum, hlst, _⟩
      · have hpl : plcN pt = j := by unfold plcN; rw [hnum]
        rw [hpl] at q2
        have x1 : wr.cell? ⟨w.heap.size, j, none⟩ = some (.int .i64 (numAt X j)) := cell_at hXr (HCX.out j hj)
        have y1 : wr.cell? ⟨w.heap.size + 1, j, none⟩ = some (.int .i64 (numAt Y j)) := cell_at hYr (HCY.out j hj)
        clear hpt hkc hpc hks hpr hnone hb hpl
        have HDE := Lib.hid (show docE by_ pp X Y ex ux ey uy pt = if numN (numAt X j) (numAt Y j) pp then some ([pt.key], 22) else none by unfold docE; rw [hnum])
        generalize numAt X j = a at x1 HDE
        generalize numAt Y j = b at y1 HDE
        go_upto_region 10 with fail
        have hlx := blk_lt hXr
        have hly := blk_lt hYr
        by_cases hab : a = b
        · subst hab
          have he1 : (a == a) = true := by simp
          have he2 : (a != a) = false := by simp
          go_quiet (fail)
          obtain ⟨wq, hwq⟩ : ∃ wq : World, wq = wr.drewN nq := ⟨_, rfl⟩
          rw [← hwq]
          have hbq : Below wr.heap.size wr wq := by rw [hwq]; exact below_drewN' (Below.refl _ _) _
          have HBWQ := Lib.hid (HBW.out.trans (hbq.mono HBW.out.size))
          clear hwq
          go_wp2_with fail
          refine ⟨⟨k + 1, by omega, by go_num, fun i q hi hq => ?_, HBR.out.trans (hbq.mono HBR.out.size)⟩, by simp [intOf]; omega⟩
          by_cases hik : i = k
          · subst hik
            rw [HPT.out] at hq
            obtain rfl := Option.some.inj hq
            rw [HDE.out, if_neg (by unfold numN; simp)]
          · exact HNONE.out i q (by omega) hq
        · have he1 : (a == b) = false := by simp [hab]
          have he2 : (a != b) = true := by simp [hab]
          cases ha : decide (a > pp) with
          | true =>
            have HEND := Lib.hid (show docs by_ pp X Y ex ux ey uy pts = some ([pt.key], 22) from docs_at HPT.out HNONE.out (by rw [HDE.out, if_pos (by unfold numN; simp at ha; simp [hab]; omega)]))
            go_quiet (fail)
            obtain ⟨wq, hwq⟩ : ∃ wq : World, wq = wr.drewN nq := ⟨_, rfl⟩
            rw [← hwq]
            have hbq : Below wr.heap.size wr wq := by rw [hwq]; exact below_drewN' (Below.refl _ _) _
            have HBWQ := Lib.hid (HBW.out.trans (hbq.mono HBW.out.size))
            clear hwq
            go_upto_region 11 with fail
            clear x1 y1 hXr hYr q2
            have q1 := (hbq.cell (p := ⟨g4, k, none⟩) (by exact blk_lt hkr)).trans q1
            have hE := (hbq.block _ (blk_lt hEr)).trans hEr
            have hD := (hbq.block _ (blk_lt hDr)).trans hDr
            have hl4 : g4 < wq.heap.size := Nat.lt_of_lt_of_le (blk_lt hkr) hbq.size
            clear hEr hDr hkr hbq
            refine wt_start (S := fun W => Below wq.heap.size wq W) 6 (by kernel_rfl) ⟨by kernel_rfl, by kernel_rfl, by kernel_rfl, by decide⟩ ?_
            intro HTK
            have HS0 := Lib.hid (show Below wq.heap.size wq wq.drew from (Below.refl _ _).drew)
            refine wt_take (i := 0) (v := ?_) HTK.out rfl (by decide) (by kernel_rfl) (by kernel_rfl) (fun _ _ _ h => h) (by exact HS0.out) (Or.inl ⟨by rfl, ?_⟩) ?_
            rotate_left
            · intro W hSw
              try dsimp only at hSw
              go_simp
              try (with_reducible rfl)
            try simp only [List.getElem_toArray, List.getElem_cons_zero, List.getElem_cons_succ, Act.put, List.setIfInBounds_toArray, List.set_cons_zero, List.set_cons_succ]
            refine wt_take (i := 1) (v := ?_) HTK.out rfl (by decide) (by kernel_rfl) (by kernel_rfl) (fun _ _ _ h => h) (by exact HS0.out) (Or.inl ⟨by rfl, ?_⟩) ?_
            rotate_left
            · intro W hSw
              try dsimp only at hSw
              go_simp
              try (with_reducible rfl)
            try simp only [List.getElem_toArray, List.getElem_cons_zero, List.getElem_cons_succ, Act.put, List.setIfInBounds_toArray, List.set_cons_zero, List.set_cons_succ]
            refine wt_take (i := 2) (v := ?_) HTK.out rfl (by decide) (by kernel_rfl) (by kernel_rfl) (fun _ _ _ h => h) (by exact HS0.out) (Or.inl ⟨by rfl, ?_⟩) ?_
            rotate_left
            · intro W hSw
              try dsimp only at hSw
              go_simp
              try (with_reducible rfl)
            try simp only [List.getElem_toArray, List.getElem_cons_zero, List.getElem_cons_succ, Act.put, List.setIfInBounds_toArray, List.set_cons_zero, List.set_cons_succ]
            refine wt_take (i := 3) (v := ?_) HTK.out rfl (by decide) (by kernel_rfl) (by kernel_rfl) (fun _ _ _ h => h) (by exact HS0.out) (Or.inl ⟨by rfl, ?_⟩) ?_
            rotate_left
            · intro W hSw
              try dsimp only at hSw
              have q0 := (hSw.cell (p := ⟨g4, k, none⟩) (by exact hl4)).trans q1
              go_simp
              try (with_reducible rfl)
            try simp only [List.getElem_toArray, List.getElem_cons_zero, List.getElem_cons_succ, Act.put, List.setIfInBounds_toArray, List.set_cons_zero, List.set_cons_succ]
            refine wt_take (i := 4) (v := .agg #[.int .i64 22, .int .i64 (-1), .string (ofL (pathL []))]) HTK.out rfl (by decide) (by kernel_rfl) (by kernel_rfl) (fun _ _ _ h => h) (by exact HS0.out) (yieldsIf_load_at (by rfl) _ _ (by rfl) _ (by rfl) #[.int .i64 22, .int .i64 (-1), .string (ofL (pathL []))] _ (fun W hSw => (Holds.of_block hD).below hSw (by exact blk_lt hD)) Tryz.underlying36 (by rfl) (sizeE3 _ _)) ?_
            try simp only [List.getElem_toArray, List.getElem_cons_zero, List.getElem_cons_succ, Act.put, List.setIfInBounds_toArray, List.set_cons_zero, List.set_cons_succ]
            refine wt_ready (rs := [5]) (by kernel_rfl) (by simp) ?_
            refine AllT.cons rfl (by decide) (fun K hK => ?_) ?_
            · go_simp
              go_at_call 24
              refine (rin01_calls _ pt.key [] 22 (by decide) (by have := HKS.out; omega) (by decide)).mono ?_
              rintro e wk ⟨rfl, hbz⟩
              have HSX := Lib.hid (HS0.out.trans (hbz.mono HS0.out.size))
              clear hbz
              have HSW := Lib.hid (HBWQ.out.trans (HSX.out.mono HBWQ.out.size))
              refine hK.out _ _ (by exact HSX.out) ?_
              clear hK K
              try simp only [List.getElem_toArray, List.getElem_cons_zero, List.getElem_cons_succ, Act.put, List.setIfInBounds_toArray, List.set_cons_zero, List.set_cons_succ]
              refine wt_last (k := 6) (by kernel_rfl) (by kernel_rfl) (by decide) rfl (fun K hK => ?_)
              refine step_store_at (by rfl) _ _ _ (by rfl) (w.heap.size + 1 + 1) (eCells (some ([pt.key], 22))) (by rfl) (by rfl) (there_of_block (n := 3) ((HSX.out.block _ (blk_lt hE)).trans hE) rfl) (sizeE3 _ _) (e_all _ _) ?_
              have hres := setCells_whole (cs := eCells (some ([pt.key], 22))) ((HSX.out.block _ (blk_lt hE)).trans hE) rfl
              have hbr := (Fr.of_grown (S := fun i => i = w.heap.size + 1 + 1) (setCells_grown (w.heap.size + 1 + 1) (eCells (some ([pt.key], 22))).toList 0 wk) (fun r e => (Option.some.inj e).symm)).to_below HSW.out.size (fun k hk e => by omega)
              have HRES := Lib.hid hres
              have HBRES := Lib.hid (HSW.out.trans hbr)
              clear hres hbr
              refine hK.out _ _ ?_
              clear hK K
              try simp only [List.getElem_toArray, List.getElem_cons_zero, List.getElem_cons_succ, Act.put, List.setIfInBounds_toArray, List.set_cons_zero, List.set_cons_succ]
              go_wp2_with fail
              refine bodyPost_ret (res_E' rfl _ _ (w.heap.size + 1 + 1) (eCells (some ([pt.key], 22))) rfl HRES.out rfl) rfl ?_
              exact ⟨by rw [HEND.out], HBRES.out⟩
            exact AllT.nil
          | false =>
            cases hbp : decide (b > pp) with
            | true =>
              have HEND := Lib.hid (show docs by_ pp X Y ex ux ey uy pts = some ([pt.key], 22) from docs_at HPT.out HNONE.out (by rw [HDE.out, if_pos (by unfold numN; simp at hbp; simp [hab]; omega)]))
              go_quiet (fail)
              obtain ⟨wq, hwq⟩ : ∃ wq : World, wq = wr.drewN nq := ⟨_, rfl⟩
              rw [← hwq]
              have hbq : Below wr.heap.size wr wq := by rw [hwq]; exact below_drewN' (Below.refl _ _) _
              have HBWQ := Lib.hid (HBW.out.trans (hbq.mono HBW.out.size))
              clear hwq
              go_upto_region 11 with fail
              clear x1 y1 hXr hYr q2
              have q1 := (hbq.cell (p := ⟨g4, k, none⟩) (by exact blk_lt hkr)).trans q1
              have hE := (hbq.block _ (blk_lt hEr)).trans hEr
              have hD := (hbq.block _ (blk_lt hDr)).trans hDr
              have hl4 : g4 < wq.heap.size := Nat.lt_of_lt_of_le (blk_lt hkr) hbq.size
              clear hEr hDr hkr hbq
              refine wt_start (S := fun W => Below wq.heap.size wq W) 6 (by kernel_rfl) ⟨by kernel_rfl, by kernel_rfl, by kernel_rfl, by decide⟩ ?_
              intro HTK
              have HS0 := Lib.hid (show Below wq.heap.size wq wq.drew from (Below.refl _ _).drew)
              refine wt_take (i := 0) (v := ?_) HTK.out rfl (by decide) (by kernel_rfl) (by kernel_rfl) (fun _ _ _ h => h) (by exact HS0.out) (Or.inl ⟨by rfl, ?_⟩) ?_
              rotate_left
              · intro W hSw
                try dsimp only at hSw
                go_simp
                try (with_reducible rfl)
              try simp only [List.getElem_toArray, List.getElem_cons_zero, List.getElem_cons_succ, Act.put, List.setIfInBounds_toArray, List.set_cons_zero, List.set_cons_succ]
              refine wt_take (i := 1) (v := ?_) HTK.out rfl (by decide) (by kernel_rfl) (by kernel_rfl) (fun _ _ _ h => h) (by exact HS0.out) (Or.inl ⟨by rfl, ?_⟩) ?_
              rotate_left
              · intro W hSw
                try dsimp only at hSw
                go_simp
                try (with_reducible rfl)
              try simp only [List.getElem_toArray, List.getElem_cons_zero, List.getElem_cons_succ, Act.put, List.setIfInBounds_toArray, List.set_cons_zero, List.set_cons_succ]
              refine wt_take (i := 2) (v := ?_) HTK.out rfl (by decide) (by kernel_rfl) (by kernel_rfl) (fun _ _ _ h => h) (by exact HS0.out) (Or.inl ⟨by rfl, ?_⟩) ?_
              rotate_left
              · intro W hSw
                try dsimp only at hSw
                go_simp
                try (with_reducible rfl)
              try simp only [List.getElem_toArray, List.getElem_cons_zero, List.getElem_cons_succ, Act.put, List.setIfInBounds_toArray, List.set_cons_zero, List.set_cons_succ]
              refine wt_take (i := 3) (v := ?_) HTK.out rfl (by decide) (by kernel_rfl) (by kernel_rfl) (fun _ _ _ h => h) (by exact HS0.out) (Or.inl ⟨by rfl, ?_⟩) ?_
              rotate_left
              · intro W hSw
                try dsimp only at hSw
                have q0 := (hSw.cell (p := ⟨g4, k, none⟩) (by exact hl4)).trans q1
                go_simp
                try (with_reducible rfl)
              try simp only [List.getElem_toArray, List.getElem_cons_zero, List.getElem_cons_succ, Act.put, List.setIfInBounds_toArray, List.set_cons_zero, List.set_cons_succ]
              refine wt_take (i := 4) (v := .agg #[.int .i64 22, .int .i64 (-1), .string (ofL (pathL []))]) HTK.out rfl (by decide) (by kernel_rfl) (by kernel_rfl) (fun _ _ _ h => h) (by exact HS0.out) (yieldsIf_load_at (by rfl) _ _ (by rfl) _ (by rfl) #[.int .i64 22, .int .i64 (-1), .string (ofL (pathL []))] _ (fun W hSw => (Holds.of_block hD).below hSw (by exact blk_lt hD)) Tryz.underlying36 (by rfl) (sizeE3 _ _)) ?_
              try simp only [List.getElem_toArray, List.getElem_cons_zero, List.getElem_cons_succ, Act.put, List.setIfInBounds_toArray, List.set_cons_zero, List.set_cons_succ]
              refine wt_ready (rs := [5]) (by kernel_rfl) (by simp) ?_
              refine AllT.cons rfl (by decide) (fun K hK => ?_) ?_
              · go_simp
                go_at_call 24
                refine (rin01_calls _ pt.key [] 22 (by decide) (by have := HKS.out; omega) (by decide)).mono ?_
                rintro e wk ⟨rfl, hbz⟩
                have HSX := Lib.hid (HS0.out.trans (hbz.mono HS0.out.size))
                clear hbz
                have HSW := Lib.hid (HBWQ.out.trans (HSX.out.mono HBWQ.out.size))
                refine hK.out _ _ (by exact HSX.out) ?_
                clear hK K
                try simp only [List.getElem_toArray, List.getElem_cons_zero, List.getElem_cons_succ, Act.put, List.setIfInBounds_toArray, List.set_cons_zero, List.set_cons_succ]
                refine wt_last (k := 6) (by kernel_rfl) (by kernel_rfl) (by decide) rfl (fun K hK => ?_)
                refine step_store_at (by rfl) _ _ _ (by rfl) (w.heap.size + 1 + 1) (eCells (some ([pt.key], 22))) (by rfl) (by rfl) (there_of_block (n := 3) ((HSX.out.block _ (blk_lt hE)).trans hE) rfl) (sizeE3 _ _) (e_all _ _) ?_
                have hres := setCells_whole (cs := eCells (some ([pt.key], 22))) ((HSX.out.block _ (blk_lt hE)).trans hE) rfl
                have hbr := (Fr.of_grown (S := fun i => i = w.heap.size + 1 + 1) (setCells_grown (w.heap.size + 1 + 1) (eCells (some ([pt.key], 22))).toList 0 wk) (fun r e => (Option.some.inj e).symm)).to_below HSW.out.size (fun k hk e => by omega)
                have HRES := Lib.hid hres
                have HBRES := Lib.hid (HSW.out.trans hbr)
                clear hres hbr
                refine hK.out _ _ ?_
                clear hK K
                try simp only [List.getElem_toArray, List.getElem_cons_zero, List.getElem_cons_succ, Act.put, List.setIfInBounds_toArray, List.set_cons_zero, List.set_cons_succ]
                go_wp2_with fail
                refine bodyPost_ret (res_E' rfl _ _ (w.heap.size + 1 + 1) (eCells (some ([pt.key], 22))) rfl HRES.out rfl) rfl ?_
                exact ⟨by rw [HEND.out], HBRES.out⟩
              exact AllT.nil
            | false =>
              go_quiet (fail)
              obtain ⟨wq, hwq⟩ : ∃ wq : World, wq = wr.drewN nq := ⟨_, rfl⟩
              rw [← hwq]
              have hbq : Below wr.heap.size wr wq := by rw [hwq]; exact below_drewN' (Below.refl _ _) _
              have HBWQ := Lib.hid (HBW.out.trans (hbq.mono HBW.out.size))
              clear hwq
              go_wp2_with fail
              refine ⟨⟨k + 1, by omega, by go_num, fun i q hi hq => ?_, HBR.out.trans (hbq.mono HBR.out.size)⟩, by simp [intOf]; omega⟩
              by_cases hik : i = k
              · subst hik
                rw [HPT.out] at hq
                obtain rfl := Option.some.inj hq
                rw [HDE.out, if_neg (by unfold numN; simp at ha hbp; simp [hab]; omega)]
              · exact HNONE.out i q (by omega) hq

      · have hpl : plcN pt = -1 := by unfold plcN; rw [hnum, hlst]; rfl
        rw [hpl] at q2
        have HDE := Lib.hid (show docE by_ pp X Y ex ux ey uy pt = (leastN by_ pp false ex ey).map fun n => ([pt.key, n], 22) by unfold docE; rw [hnum, hlst]; rfl)
        have cx7 : wr.cell? ⟨w.heap.size, 7, none⟩ = some (.slice x.ev.a x.ev.n x.ev.c) := cell_at (j := 7) hXr rfl
        have cx8 : wr.cell? ⟨w.heap.size, 8, none⟩ = some (.slice x.us.a x.us.n x.us.c) := cell_at (j := 8) hXr rfl
        have cy7 : wr.cell? ⟨w.heap.size + 1, 7, none⟩ = some (.slice y.ev.a y.ev.n y.ev.c) := cell_at (j := 7) hYr rfl
        have cy8 : wr.cell? ⟨w.heap.size + 1, 8, none⟩ = some (.slice y.us.a y.us.n y.us.c) := cell_at (j := 8) hYr rfl
        have hlx := blk_lt hXr
        have hly := blk_lt hYr
        clear hpt hkc hpc hks hpr hnone hb hpl hXr hYr
        go_upto_region 12 with fail
        go_quiet (fail)
        clear q2 cx7 cx8 cy7 cy8
        obtain ⟨ws, hws⟩ : ∃ ws : World, ws = wr.drewN nq := ⟨_, rfl⟩
        rw [← hws]
        have hbs : Below wr.heap.size wr ws := by rw [hws]; exact below_drewN' (Below.refl _ _) _
        have HBS := Lib.hid hbs
        clear hws
        try rw [n1]
        try rw [n3]
        have HLI := Lib.hid (rlists_calls ws x.ev.a y.ev.a x.ev.c y.ev.c ex ey by_ pp false (HEX.out.below (HBW.out.trans (hbs.mono HBW.out.size)) rfl) (HEY.out.below (HBW.out.trans (hbs.mono HBW.out.size)) rfl) HKE.out)
        clear hbs
        go_upto_region 15 with fail
        go_wp2_with fail
        refine HLI.out.mono ?_
        rintro e wt ⟨rfl, hbt⟩
        have hbq : Below wr.heap.size wr wt := HBS.out.trans (hbt.mono HBS.out.size)
        have HBWQ := Lib.hid (HBW.out.trans (hbq.mono HBW.out.size))
        clear hbt HLI
        cases hle : leastN by_ pp false ex ey with
        | none =>
          rw [hle] at HDE
          simp only [Option.getD_none, Option.isSome_none]
          go_wp2_with fail
          refine ⟨⟨k + 1, by omega, by go_num, fun i q hi hq => ?_, HBR.out.trans (hbq.mono HBR.out.size)⟩, by simp [intOf]; omega⟩
          by_cases hik : i = k
          · subst hik
            rw [HPT.out] at hq
            obtain rfl := Option.some.inj hq
            rw [HDE.out]; rfl
          · exact HNONE.out i q (by omega) hq
        | some nm =>
          rw [hle] at HDE
          simp only [Option.getD_some, Option.isSome_some]
          have HEND := Lib.hid (show docs by_ pp X Y ex ux ey uy pts = some ([pt.key, nm], 22) from docs_at HPT.out HNONE.out HDE.out)
          have HNS := Lib.hid (show nm.size ≤ 100 by
            obtain ⟨z, hz, rfl⟩ := least_mem hle
            refine HNM.out z ?_
            exact List.mem_append_left _ hz)
          clear hle
          go_upto_region 17 with fail
          replace q1 := (hbq.cell (p := ⟨g4, k, none⟩) (by exact blk_lt hkr)).trans q1
          have hE := (hbq.block _ (blk_lt hEr)).trans hEr
          have hD := (hbq.block _ (blk_lt hDr)).trans hDr
          have hl4 : g4 < wt.heap.size := Nat.lt_of_lt_of_le (blk_lt hkr) hbq.size
          clear hEr hDr hkr hbq
          refine wt_start (S := fun W => Below wt.heap.size wt W) 8 (by kernel_rfl) ⟨by kernel_rfl, by kernel_rfl, by kernel_rfl, by decide⟩ ?_
          intro HTK
          have HS0 := Lib.hid (show Below wt.heap.size wt wt.drew from (Below.refl _ _).drew)
          refine wt_take (i := 0) (v := ?_) HTK.out rfl (by decide) (by kernel_rfl) (by kernel_rfl) (fun _ _ _ h => h) (by exact HS0.out) (Or.inl ⟨by rfl, ?_⟩) ?_
          rotate_left
          · intro W hSw
            try dsimp only at hSw
            go_simp
            try (with_reducible rfl)
          try simp only [List.getElem_toArray, List.getElem_cons_zero, List.getElem_cons_succ, Act.put, List.setIfInBounds_toArray, List.set_cons_zero, List.set_cons_succ]
          refine wt_take (i := 1) (v := ?_) HTK.out rfl (by decide) (by kernel_rfl) (by kernel_rfl) (fun _ _ _ h => h) (by exact HS0.out) (Or.inl ⟨by rfl, ?_⟩) ?_
          rotate_left
          · intro W hSw
            try dsimp only at hSw
            go_simp
            try (with_reducible rfl)
          try simp only [List.getElem_toArray, List.getElem_cons_zero, List.getElem_cons_succ, Act.put, List.setIfInBounds_toArray, List.set_cons_zero, List.set_cons_succ]
          refine wt_take (i := 2) (v := ?_) HTK.out rfl (by decide) (by kernel_rfl) (by kernel_rfl) (fun _ _ _ h => h) (by exact HS0.out) (Or.inl ⟨by rfl, ?_⟩) ?_
          rotate_left
          · intro W hSw
            try dsimp only at hSw
            go_simp
            try (with_reducible rfl)
          try simp only [List.getElem_toArray, List.getElem_cons_zero, List.getElem_cons_succ, Act.put, List.setIfInBounds_toArray, List.set_cons_zero, List.set_cons_succ]
          refine wt_take (i := 3) (v := ?_) HTK.out rfl (by decide) (by kernel_rfl) (by kernel_rfl) (fun _ _ _ h => h) (by exact HS0.out) (Or.inl ⟨by rfl, ?_⟩) ?_
          rotate_left
          · intro W hSw
            try dsimp only at hSw
            have q0 := (hSw.cell (p := ⟨g4, k, none⟩) (by exact hl4)).trans q1
            go_simp
            try (with_reducible rfl)
          try simp only [List.getElem_toArray, List.getElem_cons_zero, List.getElem_cons_succ, Act.put, List.setIfInBounds_toArray, List.set_cons_zero, List.set_cons_succ]
          refine wt_take (i := 4) (v := ?_) HTK.out rfl (by decide) (by kernel_rfl) (by kernel_rfl) (fun _ _ _ h => h) (by exact HS0.out) (Or.inl ⟨by rfl, ?_⟩) ?_
          rotate_left
          · intro W hSw
            try dsimp only at hSw
            go_simp
            try (with_reducible rfl)
          try simp only [List.getElem_toArray, List.getElem_cons_zero, List.getElem_cons_succ, Act.put, List.setIfInBounds_toArray, List.set_cons_zero, List.set_cons_succ]
          refine wt_take (i := 5) (v := .agg #[.int .i64 22, .int .i64 (-1), .string (ofL (pathL []))]) HTK.out rfl (by decide) (by kernel_rfl) (by kernel_rfl) (fun _ _ _ h => h) (by exact HS0.out) (yieldsIf_load_at (by rfl) _ _ (by rfl) _ (by rfl) #[.int .i64 22, .int .i64 (-1), .string (ofL (pathL []))] _ (fun W hSw => (Holds.of_block hD).below hSw (by exact blk_lt hD)) Tryz.underlying36 (by rfl) (sizeE3 _ _)) ?_
          try simp only [List.getElem_toArray, List.getElem_cons_zero, List.getElem_cons_succ, Act.put, List.setIfInBounds_toArray, List.set_cons_zero, List.set_cons_succ]
          refine wt_ready (rs := [6]) (by kernel_rfl) (by simp) ?_
          refine AllT.cons rfl (by decide) (fun K hK => ?_) ?_
          · go_simp
            go_at_call 24
            refine (rin01_calls _ nm [] 22 (by decide) (by have := HNS.out; omega) (by decide)).mono ?_
            rintro e wj ⟨rfl, hbz⟩
            have HSX := Lib.hid (HS0.out.trans (hbz.mono HS0.out.size))
            clear hbz
            refine hK.out _ _ (by exact HSX.out) ?_
            clear hK K
            try simp only [List.getElem_toArray, List.getElem_cons_zero, List.getElem_cons_succ, Act.put, List.setIfInBounds_toArray, List.set_cons_zero, List.set_cons_succ]
            refine wt_ready (rs := [7]) (by kernel_rfl) (by simp) ?_
            refine AllT.cons rfl (by decide) (fun K hK => ?_) ?_
            · go_simp
              go_at_call 24
              refine (rin01_calls _ pt.key [nm] 22 (by decide) (by have := HKS.out; omega) (by have h1 : (pathL [nm]).length = nm.data.size + 1 := by { simp [pathL] }; have h2 : nm.data.size = nm.size := rfl; have := HNS.out; omega)).mono ?_
              rintro e wk ⟨rfl, hbz⟩
              have HSY := Lib.hid (HSX.out.trans (hbz.mono HSX.out.size))
              clear hbz
              have HSW := Lib.hid (HBWQ.out.trans (HSY.out.mono HBWQ.out.size))
              refine hK.out _ _ (by exact HSY.out) ?_
              clear hK K
              try simp only [List.getElem_toArray, List.getElem_cons_zero, List.getElem_cons_succ, Act.put, List.setIfInBounds_toArray, List.set_cons_zero, List.set_cons_succ]
              refine wt_last (k := 8) (by kernel_rfl) (by kernel_rfl) (by decide) rfl (fun K hK => ?_)
              refine step_store_at (by rfl) _ _ _ (by rfl) (w.heap.size + 1 + 1) (eCells (some ([pt.key, nm], 22))) (by rfl) (by rfl) (there_of_block (n := 3) ((HSY.out.block _ (blk_lt hE)).trans hE) rfl) (sizeE3 _ _) (e_all _ _) ?_
              have hres := setCells_whole (cs := eCells (some ([pt.key, nm], 22))) ((HSY.out.block _ (blk_lt hE)).trans hE) rfl
              have hbr := (Fr.of_grown (S := fun i => i = w.heap.size + 1 + 1) (setCells_grown (w.heap.size + 1 + 1) (eCells (some ([pt.key, nm], 22))).toList 0 wk) (fun r e => (Option.some.inj e).symm)).to_below HSW.out.size (fun k hk e => by omega)
              have HRES := Lib.hid hres
              have HBRES := Lib.hid (HSW.out.trans hbr)
              clear hres hbr
              refine hK.out _ _ ?_
              clear hK K
              try simp only [List.getElem_toArray, List.getElem_cons_zero, List.getElem_cons_succ, Act.put, List.setIfInBounds_toArray, List.set_cons_zero, List.set_cons_succ]
              go_wp2_with fail
              refine bodyPost_ret (res_E' rfl _ _ (w.heap.size + 1 + 1) (eCells (some ([pt.key, nm], 22))) rfl HRES.out rfl) rfl ?_
              exact ⟨by rw [HEND.out], HBRES.out⟩
            exact AllT.nil
          exact AllT.nil
      · have hpl : plcN pt = -2 := by unfold plcN; rw [hnum, hlst]; rfl
        rw [hpl] at q2
        have HDE := Lib.hid (show docE by_ pp X Y ex ux ey uy pt = (leastN by_ pp true ux uy).map fun n => ([pt.key, n], 22) by unfold docE; rw [hnum, hlst]; rfl)
        have cx7 : wr.cell? ⟨w.heap.size, 7, none⟩ = some (.slice x.ev.a x.ev.n x.ev.c) := cell_at (j := 7) hXr rfl
        have cx8 : wr.cell? ⟨w.heap.size, 8, none⟩ = some (.slice x.us.a x.us.n x.us.c) := cell_at (j := 8) hXr rfl
        have cy7 : wr.cell? ⟨w.heap.size + 1, 7, none⟩ = some (.slice y.ev.a y.ev.n y.ev.c) := cell_at (j := 7) hYr rfl
        have cy8 : wr.cell? ⟨w.heap.size + 1, 8, none⟩ = some (.slice y.us.a y.us.n y.us.c) := cell_at (j := 8) hYr rfl
        have hlx := blk_lt hXr
        have hly := blk_lt hYr
        clear hpt hkc hpc hks hpr hnone hb hpl hXr hYr
        go_upto_region 12 with fail
        go_quiet (fail)
        obtain ⟨wp, hwp⟩ : ∃ wp : World, wp = wr.drewN nq := ⟨_, rfl⟩
        rw [← hwp]
        have hbp : Below wr.heap.size wr wp := by rw [hwp]; exact below_drewN' (Below.refl _ _) _
        replace cx8 := (hbp.cell (p := ⟨w.heap.size, 8, none⟩) (by exact hlx)).trans cx8
        replace cy8 := (hbp.cell (p := ⟨w.heap.size + 1, 8, none⟩) (by exact hly)).trans cy8
        clear hwp q2 cx7 cy7
        go_upto_region 14 with fail
        go_quiet (fail)
        clear cx8 cy8
        obtain ⟨ws, hws⟩ : ∃ ws : World, ws = wp.drewN nq := ⟨_, rfl⟩
        rw [← hws]
        have hbs : Below wr.heap.size wr ws := by rw [hws]; exact below_drewN' (hbp) _
        have HBS := Lib.hid hbs
        clear hws hbp
        try rw [n2]
        try rw [n4]
        have HLI := Lib.hid (rlists_calls ws x.us.a y.us.a x.us.c y.us.c ux uy by_ pp true (HUX.out.below (HBW.out.trans (hbs.mono HBW.out.size)) rfl) (HUY.out.below (HBW.out.trans (hbs.mono HBW.out.size)) rfl) HKU.out)
        clear hbs
        go_upto_region 15 with fail
        go_wp2_with fail
        refine HLI.out.mono ?_
        rintro e wt ⟨rfl, hbt⟩
        have hbq : Below wr.heap.size wr wt := HBS.out.trans (hbt.mono HBS.out.size)
        have HBWQ := Lib.hid (HBW.out.trans (hbq.mono HBW.out.size))
        clear hbt HLI
        cases hle : leastN by_ pp true ux uy with
        | none =>
          rw [hle] at HDE
          simp only [Option.getD_none, Option.isSome_none]
          go_wp2_with fail
          refine ⟨⟨k + 1, by omega, by go_num, fun i q hi hq => ?_, HBR.out.trans (hbq.mono HBR.out.size)⟩, by simp [intOf]; omega⟩
          by_cases hik : i = k
          · subst hik
            rw [HPT.out] at hq
            obtain rfl := Option.some.inj hq
            rw [HDE.out]; rfl
          · exact HNONE.out i q (by omega) hq
        | some nm =>
          rw [hle] at HDE
          simp only [Option.getD_some, Option.isSome_some]
          have HEND := Lib.hid (show docs by_ pp X Y ex ux ey uy pts = some ([pt.key, nm], 22) from docs_at HPT.out HNONE.out HDE.out)
          have HNS := Lib.hid (show nm.size ≤ 100 by
            obtain ⟨z, hz, rfl⟩ := least_mem hle
            refine HNM.out z ?_
            exact List.mem_append_right _ hz)
          clear hle
          go_upto_region 17 with fail
          replace q1 := (hbq.cell (p := ⟨g4, k, none⟩) (by exact blk_lt hkr)).trans q1
          have hE := (hbq.block _ (blk_lt hEr)).trans hEr
          have hD := (hbq.block _ (blk_lt hDr)).trans hDr
          have hl4 : g4 < wt.heap.size := Nat.lt_of_lt_of_le (blk_lt hkr) hbq.size
          clear hEr hDr hkr hbq
          refine wt_start (S := fun W => Below wt.heap.size wt W) 8 (by kernel_rfl) ⟨by kernel_rfl, by kernel_rfl, by kernel_rfl, by decide⟩ ?_
          intro HTK
          have HS0 := Lib.hid (show Below wt.heap.size wt wt.drew from (Below.refl _ _).drew)
          refine wt_take (i := 0) (v := ?_) HTK.out rfl (by decide) (by kernel_rfl) (by kernel_rfl) (fun _ _ _ h => h) (by exact HS0.out) (Or.inl ⟨by rfl, ?_⟩) ?_
          rotate_left
          · intro W hSw
            try dsimp only at hSw
            go_simp
            try (with_reducible rfl)
          try simp only [List.getElem_toArray, List.getElem_cons_zero, List.getElem_cons_succ, Act.put, List.setIfInBounds_toArray, List.set_cons_zero, List.set_cons_succ]
          refine wt_take (i := 1) (v := ?_) HTK.out rfl (by decide) (by kernel_rfl) (by kernel_rfl) (fun _ _ _ h => h) (by exact HS0.out) (Or.inl ⟨by rfl, ?_⟩) ?_
          rotate_left
          · intro W hSw
            try dsimp only at hSw
            go_simp
            try (with_reducible rfl)
          try simp only [List.getElem_toArray, List.getElem_cons_zero, List.getElem_cons_succ, Act.put, List.setIfInBounds_toArray, List.set_cons_zero, List.set_cons_succ]
          refine wt_take (i := 2) (v := ?_) HTK.out rfl (by decide) (by kernel_rfl) (by kernel_rfl) (fun _ _ _ h => h) (by exact HS0.out) (Or.inl ⟨by rfl, ?_⟩) ?_
          rotate_left
          · intro W hSw
            try dsimp only at hSw
            go_simp
            try (with_reducible rfl)
          try simp only [List.getElem_toArray, List.getElem_cons_zero, List.getElem_cons_succ, Act.put, List.setIfInBounds_toArray, List.set_cons_zero, List.set_cons_succ]
          refine wt_take (i := 3) (v := ?_) HTK.out rfl (by decide) (by kernel_rfl) (by kernel_rfl) (fun _ _ _ h => h) (by exact HS0.out) (Or.inl ⟨by rfl, ?_⟩) ?_
          rotate_left
          · intro W hSw
            try dsimp only at hSw
            have q0 := (hSw.cell (p := ⟨g4, k, none⟩) (by exact hl4)).trans q1
            go_simp
            try (with_reducible rfl)
          try simp only [List.getElem_toArray, List.getElem_cons_zero, List.getElem_cons_succ, Act.put, List.setIfInBounds_toArray, List.set_cons_zero, List.set_cons_succ]
          refine wt_take (i := 4) (v := ?_) HTK.out rfl (by decide) (by kernel_rfl) (by kernel_rfl) (fun _ _ _ h => h) (by exact HS0.out) (Or.inl ⟨by rfl, ?_⟩) ?_
          rotate_left
          · intro W hSw
            try dsimp only at hSw
            go_simp
            try (with_reducible rfl)
          try simp only [List.getElem_toArray, List.getElem_cons_zero, List.getElem_cons_succ, Act.put, List.setIfInBounds_toArray, List.set_cons_zero, List.set_cons_succ]
          refine wt_take (i := 5) (v := .agg #[.int .i64 22, .int .i64 (-1), .string (ofL (pathL []))]) HTK.out rfl (by decide) (by kernel_rfl) (by kernel_rfl) (fun _ _ _ h => h) (by exact HS0.out) (yieldsIf_load_at (by rfl) _ _ (by rfl) _ (by rfl) #[.int .i64 22, .int .i64 (-1), .string (ofL (pathL []))] _ (fun W hSw => (Holds.of_block hD).below hSw (by exact blk_lt hD)) Tryz.underlying36 (by rfl) (sizeE3 _ _)) ?_
          try simp only [List.getElem_toArray, List.getElem_cons_zero, List.getElem_cons_succ, Act.put, List.setIfInBounds_toArray, List.set_cons_zero, List.set_cons_succ]
          refine wt_ready (rs := [6]) (by kernel_rfl) (by simp) ?_
          refine AllT.cons rfl (by decide) (fun K hK => ?_) ?_
          · go_simp
            go_at_call 24
            refine (rin01_calls _ nm [] 22 (by decide) (by have := HNS.out; omega) (by decide)).mono ?_
            rintro e wj ⟨rfl, hbz⟩
            have HSX := Lib.hid (HS0.out.trans (hbz.mono HS0.out.size))
            clear hbz
            refine hK.out _ _ (by exact HSX.out) ?_
            clear hK K
            try simp only [List.getElem_toArray, List.getElem_cons_zero, List.getElem_cons_succ, Act.put, List.setIfInBounds_toArray, List.set_cons_zero, List.set_cons_succ]
            refine wt_ready (rs := [7]) (by kernel_rfl) (by simp) ?_
            refine AllT.cons rfl (by decide) (fun K hK => ?_) ?_
            · go_simp
              go_at_call 24
              refine (rin01_calls _ pt.key [nm] 22 (by decide) (by have := HKS.out; omega) (by have h1 : (pathL [nm]).length = nm.data.size + 1 := by { simp [pathL] }; have h2 : nm.data.size = nm.size := rfl; have := HNS.out; omega)).mono ?_
              rintro e wk ⟨rfl, hbz⟩
              have HSY := Lib.hid (HSX.out.trans (hbz.mono HSX.out.size))
              clear hbz
              have HSW := Lib.hid (HBWQ.out.trans (HSY.out.mono HBWQ.out.size))
              refine hK.out _ _ (by exact HSY.out) ?_
              clear hK K
              try simp only [List.getElem_toArray, List.getElem_cons_zero, List.getElem_cons_succ, Act.put, List.setIfInBounds_toArray, List.set_cons_zero, List.set_cons_succ]
              refine wt_last (k := 8) (by kernel_rfl) (by kernel_rfl) (by decide) rfl (fun K hK => ?_)
              refine step_store_at (by rfl) _ _ _ (by rfl) (w.heap.size + 1 + 1) (eCells (some ([pt.key, nm], 22))) (by rfl) (by rfl) (there_of_block (n := 3) ((HSY.out.block _ (blk_lt hE)).trans hE) rfl) (sizeE3 _ _) (e_all _ _) ?_
              have hres := setCells_whole (cs := eCells (some ([pt.key, nm], 22))) ((HSY.out.block _ (blk_lt hE)).trans hE) rfl
              have hbr := (Fr.of_grown (S := fun i => i = w.heap.size + 1 + 1) (setCells_grown (w.heap.size + 1 + 1) (eCells (some ([pt.key, nm], 22))).toList 0 wk) (fun r e => (Option.some.inj e).symm)).to_below HSW.out.size (fun k hk e => by omega)
              have HRES := Lib.hid hres
              have HBRES := Lib.hid (HSW.out.trans hbr)
              clear hres hbr
              refine hK.out _ _ ?_
              clear hK K
              try simp only [List.getElem_toArray, List.getElem_cons_zero, List.getElem_cons_succ, Act.put, List.setIfInBounds_toArray, List.set_cons_zero, List.set_cons_succ]
              go_wp2_with fail
              refine bodyPost_ret (res_E' rfl _ _ (w.heap.size + 1 + 1) (eCells (some ([pt.key, nm], 22))) rfl HRES.out rfl) rfl ?_
              exact ⟨by rw [HEND.out], HBRES.out⟩
            exact AllT.nil
          exact AllT.nil
    · obtain rfl : k = 9 := by omega
      have HEND := Lib.hid (show docs by_ pp X Y ex ux ey uy pts = none from docs_none (fun q hq => by
        obtain ⟨i, hi⟩ := List.mem_iff_getElem?.1 hq
        exact hnone i q (List.getElem?_eq_some_iff.1 hi).1 hi))
      have HE9 := Lib.hid ((hb.block _ (blk_lt HE8.out)).trans HE8.out)
      clear hnone hb
      go_wp2_with fail
      refine (rnone_calls wr).mono ?_
      rintro e wz ⟨rfl, hbz⟩
      have hez := (hbz.block _ (blk_lt HE9.out)).trans HE9.out
      have HBZ := Lib.hid (HBW.out.trans (hbz.mono HBW.out.size))
      have HEZ := Lib.hid hez
      have e0 : wz.cell? ⟨w.heap.size + 1 + 1, 0, none⟩ = some (.int .i64 0) := cell_at (j := 0) hez rfl
      have e1 : wz.cell? ⟨w.heap.size + 1 + 1, 1, none⟩ = some (.int .i64 0) := cell_at (j := 1) hez rfl
      have e2 : wz.cell? ⟨w.heap.size + 1 + 1, 2, none⟩ = some (.string ⟨#[]⟩) := cell_at (j := 2) hez rfl
      have ez : ∀ j, wz.frozen? ⟨w.heap.size + 1 + 1, j, none⟩ = false := fun j => frozen_at hez
      clear hbz hez
      simp only [erV, eCells]
      go_wp2_with fail
      refine bodyPost_ret (res_E' rfl _ _ (w.heap.size + 1 + 1) #[.int .i64 0, .int .i64 (-1), .string ⟨#[]⟩] rfl (row3_heap HEZ.out rfl) rfl) rfl ?_
      exact ⟨by rw [HEND.out], row3_below HBZ.out (Nat.le_refl _) (by omega)⟩
end Go.Proofs.YtiehdfokcnphdaaGreatDoor
