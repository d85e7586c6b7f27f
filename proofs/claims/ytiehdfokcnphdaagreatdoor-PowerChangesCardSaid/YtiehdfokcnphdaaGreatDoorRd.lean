/- power.Read, the walk. -/
import Derived.Test.YtiehdfokcnphdaaGreatDoorPq
namespace Go.Proofs.YtiehdfokcnphdaaGreatDoor
open Go.RowKit

theorem nine_heap {w : World} {g E : Nat} {a0 a1 a2 a3 a4 a5 a6 a7 a8 b0 b1 b2 b3 b4 b5 b6 b7 b8 : Value} (h : w.heap[g]? = some (.cells #[a0, a1, a2, a3, a4, a5, a6, a7, a8] E (0, 0))) :
    (((((((((w.setCell ⟨g, 0, none⟩ b0).setCell ⟨g, 1, none⟩ b1).setCell ⟨g, 2, none⟩ b2).setCell ⟨g, 3, none⟩ b3).setCell ⟨g, 4, none⟩ b4).setCell ⟨g, 5, none⟩ b5).setCell ⟨g, 6, none⟩ b6).setCell ⟨g, 7, none⟩ b7).setCell ⟨g, 8, none⟩ b8).heap[g]? = some (.cells #[b0, b1, b2, b3, b4, b5, b6, b7, b8] E (0, 0)) := by
  rw [setCell_heap_at (setCell_heap_at (setCell_heap_at (setCell_heap_at (setCell_heap_at (setCell_heap_at (setCell_heap_at (setCell_heap_at (setCell_heap_at h))))))))]
  simp only [List.setIfInBounds_toArray, List.set_cons_succ, List.set_cons_zero]
/-- The loop's head in Read. -/
structure RRel (w W3 : World) (g : Nat) (v : V) (ul : List Nm) (i : Nat) (s : Sl) (wr : World) : Prop where
  lv : wr.heap[g]? = some (.cells (lvAt v i s).cells 33 (0, 0))
  fr : Fr (fun k => k = g) W3 wr
  us : if 7 < i then RowOf wr (fun k => W3.heap.size ≤ k) 91 2 s (ncells ul) else s = ⟨none, 0, 0⟩

theorem RRel.usNext {w W3 wr w' : World} {g : Nat} {v : V} {ul : List Nm} {i : Nat} {s : Sl} (h : RRel w W3 g v ul i s wr) (hi : i ≠ 7) (hs : wr.heap.size ≤ w'.heap.size) (hb : ∀ k, k < wr.heap.size → W3.heap.size ≤ k → w'.heap[k]? = wr.heap[k]?) :
    if 7 < i + 1 then RowOf w' (fun k => W3.heap.size ≤ k) 91 2 s (ncells ul) else s = ⟨none, 0, 0⟩ := by
  have hu := h.us
  by_cases h7 : 7 < i
  · rw [if_pos h7] at hu
    rw [if_pos (by omega)]
    exact hu.same hs hb
  · rw [if_neg h7] at hu
    rw [if_neg (by omega)]
    exact hu
theorem RRel.skip {w W3 wr w' : World} {g : Nat} {v : V} {ul : List Nm} {i : Nat} {s s' : Sl} (h : RRel w W3 g v ul i s wr) (hg : g < wr.heap.size) (hb : Below wr.heap.size wr w') (hc : (lvAt v i s).cells = (lvAt v (i + 1) s').cells)
    (hu : if 7 < i + 1 then RowOf w' (fun k => W3.heap.size ≤ k) 91 2 s' (ncells ul) else s' = ⟨none, 0, 0⟩) : RRel w W3 g v ul (i + 1) s' w' :=
  ⟨by rw [← hc]; exact (hb.block g hg).trans h.lv, h.fr.trans (Fr.of_below hb), hu⟩
theorem RRel.put {w W3 wr w4 w' : World} {g : Nat} {v : V} {ul : List Nm} {i j : Nat} {s s' : Sl} {x : Value} (h : RRel w W3 g v ul i s wr) (hb : Below wr.heap.size wr w4) (hg : w'.heap[g]? = some (.cells ((lvAt v i s).cells.setIfInBounds j x) 33 (0, 0))) (hf : Fr (fun k => k = g) w4 w') (hc : (lvAt v i s).cells.setIfInBounds j x = (lvAt v (i + 1) s').cells)
    (hu : if 7 < i + 1 then RowOf w' (fun k => W3.heap.size ≤ k) 91 2 s' (ncells ul) else s' = ⟨none, 0, 0⟩) : RRel w W3 g v ul (i + 1) s' w' :=
  ⟨by rw [← hc]; exact hg, (h.fr.trans (Fr.of_below hb)).trans hf, hu⟩

set_option maxRecDepth 100000 in
set_option maxHeartbeats 3200000 in
theorem read_calls (w : World) (P : Nat → Prop) (x : V6) (v : V) (ul : List Nm) (h : RepV w P x v) (hk : v.kindOf = 5) (hnum : ∀ (i : Nat) (key : ByteArray) (j : Nat) (u : V), pts[i]? = some ⟨key, some j, none⟩ → v.get key = some u → u.kindOf = 2) (hev : v.get kEvents = none) (hus : UsersAre v ul) (hm : Mx w) :
    Calls Tryz.prog 12 #[.agg x.cells] w fun e w' => ∃ s : Sl, e = .returned (.tuple #[.agg (lvAt v 9 s).cells, .nilIface]) ∧ RowOf w' (fun k => w.heap.size ≤ k) 91 2 s (ncells ul) ∧ Below w.heap.size w w' := by
  have hx5 : x.kind = 5 := h.kind.1.trans hk
  have hpos := hm.pos
  have HREP := Lib.hid h
  have HNUM := Lib.hid hnum
  have HEV := Lib.hid hev
  have HUS := Lib.hid hus
  have HM := Lib.hid hm
  clear h hnum hev hus hm hk
  go_enter Tryz.func12, Tryz.ntmps12
  go_wp2_with fail
  clear hx5
  obtain ⟨W1, hW1⟩ : ∃ W1, W1 = (w.alloc (.cells x.cells 44)).alloc (.cells #[.int .i64 0, .int .i64 0, .int .i64 0, .int .i64 0, .int .i64 0, .int .i64 0, .int .i64 0, .slice none 0 0, .slice none 0 0] 33) := ⟨_, rfl⟩
  rw [← hW1]
  have hb1 : Below w.heap.size w W1 := by rw [hW1]; exact ((Below.refl _ _).alloc (Nat.le_refl _) _).alloc (by simp) _
  have hs1 : W1.heap.size = w.heap.size + 2 := by rw [hW1]; simp
  have hx1 : W1.heap[w.heap.size]? = some (.cells x.cells 44 (0, 0)) := by rw [hW1]; exact (Below.heap_alloc _ _ _ (by simp)).trans (heap_new _ _)
  have hr1 : W1.heap[w.heap.size + 1]? = some (.cells #[.int .i64 0, .int .i64 0, .int .i64 0, .int .i64 0, .int .i64 0, .int .i64 0, .int .i64 0, .slice none 0 0, .slice none 0 0] 33 (0, 0)) := by
    rw [hW1]
    have := heap_new (w.alloc (.cells x.cells 44)) (.cells #[.int .i64 0, .int .i64 0, .int .i64 0, .int .i64 0, .int .i64 0, .int .i64 0, .int .i64 0, .slice none 0 0, .slice none 0 0] 33 (0, 0))
    rw [show (w.alloc (.cells x.cells 44)).heap.size = w.heap.size + 1 by simp] at this
    exact this
  clear hW1
  refine (none_empty W1).mono ?_
  rintro e W2 ⟨rfl, hb2⟩
  have hx2 := (hb2.block w.heap.size (by omega)).trans hx1
  have hr2 := (hb2.block (w.heap.size + 1) (by omega)).trans hr1
  have hs2 := hb2.size
  have HB2 := Lib.hid (hb1.trans (hb2.mono hb1.size))
  have HX2 := Lib.hid hx2
  have HR2 := Lib.hid hr2
  clear hb1 hx1 hr1 hb2 hx2 hr2
  unfold lvNone
  simp only [Lv.cells]
  go_wp2_with fail
  have hpc := parts_calls (W2.alloc (.cells #[.int .i64 50, .int .i64 50, .int .i64 50, .int .i64 0, .int .i64 50, .int .i64 0, .int .i64 0, .slice none 0 0, .slice none 0 0] 33)) W2.heap.size
  rw [show (W2.alloc (.cells #[.int .i64 50, .int .i64 50, .int .i64 50, .int .i64 0, .int .i64 50, .int .i64 0, .int .i64 0, .slice none 0 0, .slice none 0 0] 33)).heap.size = W2.heap.size + 1 by simp] at hpc
  refine hpc.mono ?_
  rintro e W3 ⟨rfl, hrw3, hb3⟩
  have hg3 := (hb3.block W2.heap.size (by omega)).trans (heap_new W2 _)
  have hb23 : Below W2.heap.size W2 W3 := ((Below.refl _ _).alloc (Nat.le_refl _) _).trans (hb3.mono (by omega))
  have hx3 := (hb23.block w.heap.size (by omega)).trans HX2.out
  have hr3 := (hb23.block (w.heap.size + 1) (by omega)).trans HR2.out
  have hs3 := hrw3.lt
  have HB3 := Lib.hid (HB2.out.trans (hb23.mono HB2.out.size))
  have HX3 := Lib.hid hx3
  have HR3 := Lib.hid hr3
  have HRW3 := Lib.hid hrw3
  have HG3 := Lib.hid hg3
  clear hpc hb3 hg3 hb23 hx3 hr3 hrw3 HX2 HR2 HB2
  go_wp2_with fail
  go_loopw [19] (fun c wr => ∃ (i : Nat) (s : Sl), i ≤ 9 ∧ c = .int .i64 i ∧ RRel w W3 W2.heap.size v ul i s wr) (fun c _ => 9 - (intOf c).toNat)
  case atStart => exact ⟨0, ⟨none, 0, 0⟩, by omega, rfl, ⟨HG3.out, Fr.refl _ _, rfl⟩⟩
  case round =>
    obtain ⟨i, s, hi, rfl, hrel⟩ := hrel
    have HREL := Lib.hid hrel
    have hbr : Below w.heap.size w wr := HB3.out.trans (hrel.fr.to_below HB3.out.size (fun k hk e => by omega))
    have HBR := Lib.hid hbr
    have hsr := hrel.fr.size
    have hxr := (hrel.fr.block w.heap.size (by omega) (by omega)).trans HX3.out
    have hrr := (hrel.fr.block (w.heap.size + 1) (by omega) (by omega)).trans HR3.out
    have HRR := Lib.hid hrr
    clear hrel hbr
    by_cases hlt : i < 9
    · have hp : pts[i]? = some (pts[i]'(by exact hlt)) := List.getElem?_eq_getElem hlt
      generalize (pts[i]'(by exact hlt)) = p at hp
      have hrw := HRW3.out.same (w' := wr) (HREL.out.fr.block _ (by omega) (by omega))
      have hyc : (pcells W2.heap.size)[i]? = some [.string p.key, ptrV W2.heap.size p.num, ptrV W2.heap.size p.lst] := by simp [hp]
      have c0 : wr.cell? ⟨W2.heap.size + 1, i * 3, none⟩ = some (.string p.key) := hrw.cell (d := 0) hyc rfl
      have c1 : wr.cell? ⟨W2.heap.size + 1, i * 3 + 1, none⟩ = some (ptrV W2.heap.size p.num) := hrw.cell (d := 1) hyc rfl
      have c2 : wr.cell? ⟨W2.heap.size + 1, i * 3 + 2, none⟩ = some (ptrV W2.heap.size p.lst) := hrw.cell (d := 2) hyc rfl
      have hrlt := hrw.lt
      have x0 : wr.cell? ⟨w.heap.size, 0, none⟩ = some (.int .i64 x.kind) := cell_at hxr rfl
      have x1 : wr.cell? ⟨w.heap.size, 1, none⟩ = some (.bool x.yes) := cell_at hxr rfl
      have x2 : wr.cell? ⟨w.heap.size, 2, none⟩ = some (.int .i64 x.int) := cell_at hxr rfl
      have x3 : wr.cell? ⟨w.heap.size, 3, none⟩ = some (.string x.text) := cell_at hxr rfl
      have x4 : wr.cell? ⟨w.heap.size, 4, none⟩ = some (.slice x.list.a x.list.n x.list.c) := cell_at hxr rfl
      have x5 : wr.cell? ⟨w.heap.size, 5, none⟩ = some (.slice x.map.a x.map.n x.map.c) := cell_at hxr rfl
      have HC := Lib.hid (fun (W : World) (h : Below w.heap.size w W) => get_calls W P x v p.key (HREP.out.same h.size (fun g hg _ => h.block g hg)))
      obtain ⟨_, hcase⟩ := pts_cases hp
      have HP := Lib.hid hp
      have HCASE := Lib.hid hcase
      have hwl : w.heap.size < wr.heap.size := by omega
      clear hp hrw hyc hxr hrr hcase
      go_wp2_with fail
      have hgr : W2.heap.size < wr.heap.size := by omega
      have HLT := Lib.hid hlt
      rcases HCASE.out with ⟨key, j, rfl, hj, hi1, hi7⟩ | ⟨rfl, rfl⟩ | ⟨rfl, rfl⟩
      · simp only [ptrV, Option.map] at c1 c2
        go_wp2_with fail
        refine (HC.out (wr.alloc (.cells #[.string key, .pointer (some ⟨W2.heap.size, j, none⟩), .pointer none] 61)) (HBR.out.alloc HBR.out.size _)).mono ?_
        rintro e w4 ⟨x', rfl, hrep, hb⟩
        have hpt := (hb.block wr.heap.size (by simp)).trans (heap_new wr _)
        have q0 := cell_at (j := 0) hpt rfl
        have q1 := cell_at (j := 1) hpt rfl
        have q2 := cell_at (j := 2) hpt rfl
        have hqs := (Array.getElem?_eq_some_iff.1 hpt).1
        have hb4 : Below wr.heap.size wr w4 := (Below.alloc (Below.refl wr.heap.size wr) (Nat.le_refl _) (.cells #[.string key, .pointer (some ⟨W2.heap.size, j, none⟩), .pointer none] 61)).trans (hb.mono (by simp))
        have hs4 := hb4.size
        have HB4 := Lib.hid hb4
        have HXR := Lib.hid hrep
        clear hrep hb hpt hb4 HC x0 x1 x2 x3 x4 x5 c0 c1 c2
        obtain ⟨o, ho⟩ : ∃ o, v.get key = o := ⟨_, rfl⟩
        have HO := Lib.hid ho
        rw [ho]
        clear ho
        cases o with
        | none =>
          simp only [Option.isSome]
          go_wp2_with fail
          exact ⟨⟨i + 1, s, by omega, by go_num, HREL.out.skip hgr (HB4.out.alloc HB4.out.size _) (step_none HP.out HO.out) (HREL.out.usNext hi7 (by simp; omega) (fun k hk _ => (HB4.out.alloc HB4.out.size _).block k hk))⟩, by simp [intOf]; omega⟩
        | some u =>
          have hxr' := HXR.out
          rw [HO.out] at hxr'
          have hki : x'.kind = u.kindOf ∧ x'.int = u.intOf := hxr'.kind
          have hx2 : x'.kind = 2 := hki.1.trans (HNUM.out i key j u HP.out HO.out)
          have HXI := Lib.hid hki.2
          have hgb : (w4.alloc (.cells x'.cells 44)).heap[W2.heap.size]? = some (.cells (lvAt v i s).cells 33 (0, 0)) := (Below.heap_alloc _ _ _ (by omega)).trans ((HB4.out.block _ hgr).trans HREL.out.lv)
          have HRN := Lib.hid (read_num (w4.alloc (.cells x'.cells 44)) W2.heap.size j key x' (lvAt v i s).cells hx2 hgb hj)
          clear hxr' hki hgb hx2
          simp only [Option.isSome]
          go_wp2_with fail
          refine HRN.out.mono ?_
          rintro e w5 ⟨rfl, hg5, hf5⟩
          have HG5 := Lib.hid hg5
          have HF5 := Lib.hid hf5
          clear hg5 hf5 HRN q0 q1 q2
          go_wp2_with fail
          exact ⟨⟨i + 1, s, by omega, by go_num, HREL.out.put (HB4.out.alloc HB4.out.size _) HG5.out HF5.out (by rw [HXI.out]; exact step_some HP.out HO.out) (HREL.out.usNext hi7 (by have := HF5.out.size; simp at this; omega) (fun k hk hk3 => (HF5.out.block k (by simp; omega) (by intro e; omega)).trans ((HB4.out.alloc HB4.out.size _).block k hk)))⟩, by simp [intOf]; omega⟩
      · simp only [ptrV, Option.map] at c1 c2
        go_wp2_with fail
        refine (HC.out (wr.alloc (.cells #[.string kEvents, .pointer none, .pointer (some ⟨W2.heap.size, 7, none⟩)] 61)) (HBR.out.alloc HBR.out.size _)).mono ?_
        rintro e w4 ⟨x', rfl, hrep, hb⟩
        have hpt := (hb.block wr.heap.size (by simp)).trans (heap_new wr _)
        have q0 := cell_at (j := 0) hpt rfl
        have q1 := cell_at (j := 1) hpt rfl
        have q2 := cell_at (j := 2) hpt rfl
        have hqs := (Array.getElem?_eq_some_iff.1 hpt).1
        have hb4 : Below wr.heap.size wr w4 := (Below.alloc (Below.refl wr.heap.size wr) (Nat.le_refl _) (.cells #[.string kEvents, .pointer none, .pointer (some ⟨W2.heap.size, 7, none⟩)] 61)).trans (hb.mono (by simp))
        have hs4 := hb4.size
        have HB4 := Lib.hid hb4
        have HXR := Lib.hid hrep
        clear hrep hb hpt hb4 HC x0 x1 x2 x3 x4 x5 c0 c1 c2
        rw [HEV.out]
        simp only [Option.isSome]
        go_wp2_with fail
        exact ⟨⟨2, s, by omega, by go_num, HREL.out.skip hgr (HB4.out.alloc HB4.out.size _) (step_events v s) (HREL.out.usNext (by decide) (by simp; omega) (fun k hk _ => (HB4.out.alloc HB4.out.size _).block k hk))⟩, by simp [intOf]⟩
      · simp only [ptrV, Option.map] at c1 c2
        go_wp2_with fail
        refine (HC.out (wr.alloc (.cells #[.string kUsers, .pointer none, .pointer (some ⟨W2.heap.size, 8, none⟩)] 61)) (HBR.out.alloc HBR.out.size _)).mono ?_
        rintro e w4 ⟨x', rfl, hrep, hb⟩
        have hpt := (hb.block wr.heap.size (by simp)).trans (heap_new wr _)
        have q0 := cell_at (j := 0) hpt rfl
        have q1 := cell_at (j := 1) hpt rfl
        have q2 := cell_at (j := 2) hpt rfl
        have hqs := (Array.getElem?_eq_some_iff.1 hpt).1
        have hb4 : Below wr.heap.size wr w4 := (Below.alloc (Below.refl wr.heap.size wr) (Nat.le_refl _) (.cells #[.string kUsers, .pointer none, .pointer (some ⟨W2.heap.size, 8, none⟩)] 61)).trans (hb.mono (by simp))
        have hs4 := hb4.size
        have HB4 := Lib.hid hb4
        have HXR := Lib.hid hrep
        clear hrep hb hpt hb4 HC x0 x1 x2 x3 x4 x5 c0 c1 c2
        rcases HUS.out with ⟨hun, hul⟩ | ⟨uy, ui, ut, name, vm, hun, hvk, hisb, hnsz, hul⟩
        · rw [hun]
          have HUL := Lib.hid hul
          clear hun hul
          simp only [Option.isSome]
          go_wp2_with fail
          exact ⟨⟨8, ⟨none, 0, 0⟩, by omega, by go_num, HREL.out.skip hgr (HB4.out.alloc HB4.out.size _) (step_users0 v s) (by rw [if_pos (by decide), HUL.out]; exact ⟨rfl, by simp, .inl ⟨rfl, rfl⟩⟩)⟩, by simp [intOf]⟩
        · have hxr' := HXR.out
          rw [hun] at hxr' ⊢
          obtain ⟨hx5', m, hmk, hmkind, hmint, hmrow⟩ := RepV.single hxr'
          have hgb : (w4.alloc (.cells x'.cells 44)).heap[W2.heap.size]? = some (.cells (lvAt v 7 s).cells 33 (0, 0)) := (Below.heap_alloc _ _ _ (by omega)).trans ((HB4.out.block _ hgr).trans HREL.out.lv)
          have hbw4 : Below w.heap.size w (w4.alloc (.cells x'.cells 44)) := (HBR.out.trans (HB4.out.mono HBR.out.size)).alloc (by omega) _
          have HRN := Lib.hid (read_list (w4.alloc (.cells x'.cells 44)) _ W2.heap.size 8 x' m (lvAt v 7 s).cells hx5' (hmrow.same (by simp) (fun k hk _ => Below.heap_alloc _ _ _ hk)) (by rw [hmk]; exact hisb) (by rw [hmk]; exact hnsz) (hmkind.trans hvk) (HM.out.below hbw4 hpos) hgb (by show 8 < 9; omega))
          have HUL := Lib.hid (show ul = [⟨m.key, m.v.int⟩] by rw [hul, hmk, hmint])
          clear hxr' hx5' hmk hmkind hmint hmrow hgb hbw4 hun hvk hisb hnsz hul
          simp only [Option.isSome]
          go_wp2_with fail
          refine HRN.out.mono ?_
          rintro e w5 ⟨rfl, s', hg5, hrow5, hf5⟩
          have HG5 := Lib.hid hg5
          have HF5 := Lib.hid hf5
          have HROW5 := Lib.hid hrow5
          clear hg5 hf5 hrow5 HRN q0 q1 q2
          go_wp2_with fail
          exact ⟨⟨8, s', by omega, by go_num, HREL.out.put (HB4.out.alloc HB4.out.size _) HG5.out HF5.out (step_users v s s') (by rw [if_pos (by decide), HUL.out]; exact HROW5.out.mono (fun k _ hk => by simp at hk; omega))⟩, by simp [intOf]⟩
    · obtain rfl : i = 9 := by omega
      have hlv := HREL.out.lv
      have v0 := cell_at (j := 0) hlv rfl
      have v1 := cell_at (j := 1) hlv rfl
      have v2 := cell_at (j := 2) hlv rfl
      have v3 := cell_at (j := 3) hlv rfl
      have v4 := cell_at (j := 4) hlv rfl
      have v5 := cell_at (j := 5) hlv rfl
      have v6 := cell_at (j := 6) hlv rfl
      have v7 := cell_at (j := 7) hlv rfl
      have v8 := cell_at (j := 8) hlv rfl
      have z0 := cell_at (j := 0) hrr rfl
      have z1 := cell_at (j := 1) hrr rfl
      have z2 := cell_at (j := 2) hrr rfl
      have z3 := cell_at (j := 3) hrr rfl
      have z4 := cell_at (j := 4) hrr rfl
      have z5 := cell_at (j := 5) hrr rfl
      have z6 := cell_at (j := 6) hrr rfl
      have z7 := cell_at (j := 7) hrr rfl
      have z8 := cell_at (j := 8) hrr rfl
      have hfz := fun o => frozen_at (j := o) hrr
      have hwl : w.heap.size + 1 < wr.heap.size := by omega
      have HLV := Lib.hid hlv
      have hus := HREL.out.us
      rw [if_pos (by decide)] at hus
      have HUSR := Lib.hid hus
      clear hlv hrr hxr hus
      go_wp2_with fail
      refine bodyPost_ret (results_row_tmp rfl _ _ (w.heap.size + 1) 33 _ (0, 0) _ rfl (nine_heap HRR.out) Tryz.underlying33 rfl (by kernel_rfl)) rfl ?_
      refine ⟨s, rfl, ?_, ?_⟩
      · exact (HUSR.out.same (setCells_grown (w.heap.size + 1) (lvAt v 9 s).cells.toList 0 wr).size (fun k _ hk => setCells_other (w.heap.size + 1) (lvAt v 9 s).cells.toList 0 wr k (by omega))).mono (fun k _ hk => by omega)
      · exact HBR.out.grown (setCells_grown (w.heap.size + 1) (lvAt v 9 s).cells.toList 0 wr) HBR.out.size (fun j hj => by injection hj with hj; omega)
end Go.Proofs.YtiehdfokcnphdaaGreatDoor
