/- What is known of a room is told: Update. A room is shown: Show. -/
import Derived.Test.YtmhhoaaoofopfaaLi
import Derived.Test.YtmhhoaaoofopfaaIdd
set_option linter.unusedVariables false
set_option linter.unusedSimpArgs false
namespace Go.Proofs.Ytmhhoaaoofopfaa
open Go.RowKit

set_option maxRecDepth 100000 in
set_option maxHeartbeats 4000000 in
theorem out_none {w : World} {P : Nat → Prop} {g bk bs : Nat} {v : Value} {most : Int} {kn sh : List (ByteArray × Value)} {od : List Sm} (h : LsAt w P g bk bs v most kn sh od) (r : ByteArray) (hr : r.size ≤ maxLen) (hk : getS kn r = none) (hl : od.length ≤ 100000) :
    Calls Try.prog 14 #[.pointer (some ⟨g, 0, none⟩), .string r] w fun e w' => e = .returned (.tuple #[]) ∧ Below w.heap.size w w' := by
  have c1 : w.cell? ⟨g, 1, none⟩ = some (.map (some bk)) := cell_at (j := 1) h.h rfl
  have HK := Lib.hid h.k
  obtain ⟨x0, hx0⟩ : ∃ x0, x0 = zSm := ⟨_, rfl⟩
  have HV := Lib.hid (show (getS kn r).getD (.agg zSm.cells) = .agg x0.cells by rw [hk, hx0]; rfl)
  have HOK := Lib.hid (show (getS kn r).isSome = false by rw [hk]; rfl)
  obtain ⟨w1, hw1⟩ : ∃ w1 : World, w1 = w.alloc (.cells x0.cells 35) := ⟨_, rfl⟩
  have hb1 : Below w.heap.size w w1 := by rw [hw1]; exact (Below.refl _ _).alloc (Nat.le_refl _) _
  have HX1 := Lib.hid (show w1.heap[w.heap.size]? = some (.cells x0.cells 35 (0, 0)) by rw [hw1]; exact heap_new_at _ _ _ rfl)
  have HH1 := Lib.hid (h.below hb1)
  have HB1 := Lib.hid hb1
  have HW1 := Lib.hid hw1
  have d3 : w1.cell? ⟨g, 3, none⟩ = some v := cell_at (j := 3) HH1.out.h rfl
  have hgl1 := blk_lt HH1.out.h
  clear hb1 hw1 hk hx0 h
  go_enter Try.func14, Try.ntmps14
  go_upto_region 1 with (at_lookup; refine lookupS_ok _ rfl _ _ 42 rfl 9 35 Try.underlying9 Try.underlying42 (.agg zSm.cells) (zeroSm _) bk kn rfl HK.out r rfl hr _ _ HV.out HOK.out ?_)
  rw [← HW1.out]
  clear c1
  have hxl := blk_lt HX1.out
  refine wt_start (S := fun W => Below w1.heap.size w1 W) 10 (by kernel_rfl) ⟨by kernel_rfl, by kernel_rfl, by kernel_rfl, by decide⟩ ?_
  intro HTK
  have S0 := Lib.hid (show Below w1.heap.size w1 w1.drew from (Below.refl _ _).drew)
  refine wt_take (i := 0) (v := ?_) HTK.out rfl (by decide) (by kernel_rfl) (by kernel_rfl) (fun _ _ _ h => h) (by exact S0.out) (Or.inl ⟨by rfl, ?_⟩) ?_
  rotate_left
  · intro W hSw
    try dsimp only at hSw
    go_simp
    try (with_reducible rfl)
  try simp only [List.getElem_toArray, List.getElem_cons_zero, List.getElem_cons_succ, Act.put, List.setIfInBounds_toArray, List.set_cons_zero, List.set_cons_succ]
  refine wt_take (i := 1) (v := ?_) HTK.out rfl (by decide) (by kernel_rfl) (by kernel_rfl) (fun _ _ _ h => h) (by exact S0.out) (Or.inl ⟨by rfl, ?_⟩) ?_
  rotate_left
  · intro W hSw
    try dsimp only at hSw
    go_simp
    try (with_reducible rfl)
  try simp only [List.getElem_toArray, List.getElem_cons_zero, List.getElem_cons_succ, Act.put, List.setIfInBounds_toArray, List.set_cons_zero, List.set_cons_succ]
  refine wt_take (i := 2) (v := ?_) HTK.out rfl (by decide) (by kernel_rfl) (by kernel_rfl) (fun _ _ _ h => h) (by exact S0.out) (Or.inl ⟨by rfl, ?_⟩) ?_
  rotate_left
  · intro W hSw
    try dsimp only at hSw
    go_simp
    try (with_reducible rfl)
  try simp only [List.getElem_toArray, List.getElem_cons_zero, List.getElem_cons_succ, Act.put, List.setIfInBounds_toArray, List.set_cons_zero, List.set_cons_succ]
  refine wt_take (i := 3) (v := ?_) HTK.out rfl (by decide) (by kernel_rfl) (by kernel_rfl) (fun _ _ _ h => h) (by exact S0.out) (Or.inl ⟨by rfl, ?_⟩) ?_
  rotate_left
  · intro W hSw
    try dsimp only at hSw
    have q0 := (hSw.cell (p := ⟨g, 3, none⟩) (by exact hgl1)).trans d3
    go_simp
    try (with_reducible rfl)
  try simp only [List.getElem_toArray, List.getElem_cons_zero, List.getElem_cons_succ, Act.put, List.setIfInBounds_toArray, List.set_cons_zero, List.set_cons_succ]
  refine wt_take (i := 4) (v := .agg x0.cells) HTK.out rfl (by decide) (by kernel_rfl) (by kernel_rfl) (fun _ _ _ h => h) (by exact S0.out) (yieldsIf_load_at (by rfl) _ _ (by rfl) _ (by rfl) x0.cells _ (fun W hSw => (Holds.of_block HX1.out).below hSw (by exact hxl)) Try.underlying35 (by rfl) (sizeSm _)) ?_
  try simp only [List.getElem_toArray, List.getElem_cons_zero, List.getElem_cons_succ, Act.put, List.setIfInBounds_toArray, List.set_cons_zero, List.set_cons_succ]
  refine wt_ready (rs := [5]) (by kernel_rfl) (by simp) ?_
  refine AllT.cons rfl (by decide) (fun K hK => ?_) ?_
  · go_simp
    go_at_call 16
    refine (search_calls _ 0 v od x0 (own_below HH1.out.o S0.out) HH1.out.srt (by omega)).mono ?_
    rintro e w2 ⟨rfl, hbz⟩
    have S1 := Lib.hid (S0.out.trans (hbz.mono S0.out.size))
    clear hbz
    refine hK.out _ _ (by exact S1.out) ?_
    clear hK K
    try simp only [List.getElem_toArray, List.getElem_cons_zero, List.getElem_cons_succ, Act.put, List.setIfInBounds_toArray, List.set_cons_zero, List.set_cons_succ]
    refine wt_take (i := 6) (v := ?_) HTK.out rfl (by decide) (by kernel_rfl) (by kernel_rfl) (fun _ _ _ h => h) (by exact S1.out) (Or.inl ⟨by rfl, ?_⟩) ?_
    rotate_left
    · intro W hSw
      try dsimp only at hSw
      go_simp
      try (with_reducible rfl)
    try simp only [List.getElem_toArray, List.getElem_cons_zero, List.getElem_cons_succ, Act.put, List.setIfInBounds_toArray, List.set_cons_zero, List.set_cons_succ]
    refine wt_take (i := 7) (v := ?_) HTK.out rfl (by decide) (by kernel_rfl) (by kernel_rfl) (fun _ _ _ h => h) (by exact S1.out) (Or.inl ⟨by rfl, ?_⟩) ?_
    rotate_left
    · intro W hSw
      try dsimp only at hSw
      go_simp
      try (with_reducible rfl)
    try simp only [List.getElem_toArray, List.getElem_cons_zero, List.getElem_cons_succ, Act.put, List.setIfInBounds_toArray, List.set_cons_zero, List.set_cons_succ]
    refine wt_take (i := 8) (v := ?_) HTK.out rfl (by decide) (by kernel_rfl) (by kernel_rfl) (fun _ _ _ h => h) (by exact S1.out) (Or.inl ⟨by rfl, ?_⟩) ?_
    rotate_left
    · intro W hSw
      try dsimp only at hSw
      go_simp
      try (with_reducible rfl)
    try simp only [List.getElem_toArray, List.getElem_cons_zero, List.getElem_cons_succ, Act.put, List.setIfInBounds_toArray, List.set_cons_zero, List.set_cons_succ]
    refine wt_take (i := 9) (v := ?_) HTK.out rfl (by decide) (by kernel_rfl) (by kernel_rfl) (fun _ _ _ h => h) (by exact S1.out) (Or.inl ⟨by rfl, ?_⟩) ?_
    rotate_left
    · intro W hSw
      try dsimp only at hSw
      go_simp
      try (with_reducible rfl)
    try simp only [List.getElem_toArray, List.getElem_cons_zero, List.getElem_cons_succ, Act.put, List.setIfInBounds_toArray, List.set_cons_zero, List.set_cons_succ]
    refine wt_last (k := 10) (by kernel_rfl) (by kernel_rfl) (by decide) rfl (fun K hK => ?_)
    go_simp
    refine hK.out _ _ ?_
    clear hK K
    try simp only [List.getElem_toArray, List.getElem_cons_zero, List.getElem_cons_succ, Act.put, List.setIfInBounds_toArray, List.set_cons_zero, List.set_cons_succ]
    go_wp2_with fail
    refine bodyPost_end (results_none rfl _ _ _) rfl ?_
    exact ⟨rfl, HB1.out.trans (S1.out.mono HB1.out.size)⟩
  exact AllT.nil
set_option maxRecDepth 100000 in
set_option maxHeartbeats 4000000 in
theorem update_calls {w : World} {P : Nat → Prop} {g bk bs : Nat} {v : Value} {most : Int} {kn sh : List (ByteArray × Value)} {od : List Sm} (h : LsAt w P g bk bs v most kn sh od) (x : Sm) (hr : x.room.size ≤ maxLen) (hk : getS kn x.room = none) (so : Bool) (hso : getS sh x.room = if so then some (.int .i64 1) else none) (hl : od.length ≤ 100000) (hkl : kn.length ≤ 100000) :
    Calls Try.prog 7 #[.pointer (some ⟨g, 0, none⟩), .agg x.cells] w fun e w' => e = .returned (.tuple #[]) ∧ ∃ v', LsAt w' (fun i => P i ∨ w.heap.size ≤ i) g bk bs v' most (putS x.room (.agg x.cells) kn) sh (inL (some x) so od) ∧ Fr P w w' := by
  obtain ⟨w1, hw1⟩ : ∃ w1 : World, w1 = w.alloc (.cells x.cells 35) := ⟨_, rfl⟩
  have hb1 : Below w.heap.size w w1 := by rw [hw1]; exact (Below.refl _ _).alloc (Nat.le_refl _) _
  have HX1 := Lib.hid (show w1.heap[w.heap.size]? = some (.cells x.cells 35 (0, 0)) by rw [hw1]; exact heap_new_at _ _ _ rfl)
  have HH1 := Lib.hid (h.below hb1)
  have HB1 := Lib.hid hb1
  have HW1 := Lib.hid hw1
  have HSO := Lib.hid hso
  have x1 : w1.cell? ⟨w.heap.size, 0, none⟩ = some (.string x.room) := cell_at (j := 0) HX1.out rfl
  have HOUT := Lib.hid (out_none HH1.out x.room hr hk hl)
  have HVL := Lib.hid h.vl
  have HGL := Lib.hid (blk_lt h.h)
  have HKL := Lib.hid h.k.lt
  have HSL := Lib.hid h.s.lt
  clear hb1 hw1 hk hso h
  go_enter Try.func7, Try.ntmps7
  go_upto_region 1 with fail
  rw [← HW1.out]
  go_wp2_with fail
  refine HOUT.out.mono ?_
  rintro e w2 ⟨rfl, hb2⟩
  have HB2 := Lib.hid (HB1.out.trans (hb2.mono HB1.out.size))
  have HH2 := Lib.hid (HH1.out.below hb2)
  have HX2 := Lib.hid ((hb2.block _ (blk_lt HX1.out)).trans HX1.out)
  have x2 : w2.cell? ⟨w.heap.size, 0, none⟩ = some (.string x.room) := cell_at (j := 0) HX2.out rfl
  have d1 : w2.cell? ⟨g, 1, none⟩ = some (.map (some bk)) := cell_at (j := 1) HH2.out.h rfl
  have hgl2 := blk_lt HH2.out.h
  have hxl2 := blk_lt HX2.out
  clear hb2 x1 HOUT
  go_upto_region 2 with fail
  refine wt_start (S := fun W => Below w2.heap.size w2 W) 7 (by kernel_rfl) ⟨by kernel_rfl, by kernel_rfl, by kernel_rfl, by decide⟩ ?_
  intro HTK
  have S0 := Lib.hid (show Below w2.heap.size w2 w2.drew from (Below.refl _ _).drew)
  refine wt_take (i := 0) (v := ?_) HTK.out rfl (by decide) (by kernel_rfl) (by kernel_rfl) (fun _ _ _ h => h) (by exact S0.out) (Or.inl ⟨by rfl, ?_⟩) ?_
  rotate_left
  · intro W hSw
    try dsimp only at hSw
    go_simp
    try (with_reducible rfl)
  try simp only [List.getElem_toArray, List.getElem_cons_zero, List.getElem_cons_succ, Act.put, List.setIfInBounds_toArray, List.set_cons_zero, List.set_cons_succ]
  refine wt_take (i := 1) (v := ?_) HTK.out rfl (by decide) (by kernel_rfl) (by kernel_rfl) (fun _ _ _ h => h) (by exact S0.out) (Or.inl ⟨by rfl, ?_⟩) ?_
  rotate_left
  · intro W hSw
    try dsimp only at hSw
    go_simp
    try (with_reducible rfl)
  try simp only [List.getElem_toArray, List.getElem_cons_zero, List.getElem_cons_succ, Act.put, List.setIfInBounds_toArray, List.set_cons_zero, List.set_cons_succ]
  refine wt_take (i := 2) (v := ?_) HTK.out rfl (by decide) (by kernel_rfl) (by kernel_rfl) (fun _ _ _ h => h) (by exact S0.out) (Or.inl ⟨by rfl, ?_⟩) ?_
  rotate_left
  · intro W hSw
    try dsimp only at hSw
    go_simp
    try (with_reducible rfl)
  try simp only [List.getElem_toArray, List.getElem_cons_zero, List.getElem_cons_succ, Act.put, List.setIfInBounds_toArray, List.set_cons_zero, List.set_cons_succ]
  refine wt_take (i := 3) (v := ?_) HTK.out rfl (by decide) (by kernel_rfl) (by kernel_rfl) (fun _ _ _ h => h) (by exact S0.out) (Or.inl ⟨by rfl, ?_⟩) ?_
  rotate_left
  · intro W hSw
    try dsimp only at hSw
    have q0 := (hSw.cell (p := ⟨g, 1, none⟩) (by exact hgl2)).trans d1
    go_simp
    try (with_reducible rfl)
  try simp only [List.getElem_toArray, List.getElem_cons_zero, List.getElem_cons_succ, Act.put, List.setIfInBounds_toArray, List.set_cons_zero, List.set_cons_succ]
  refine wt_take (i := 4) (v := ?_) HTK.out rfl (by decide) (by kernel_rfl) (by kernel_rfl) (fun _ _ _ h => h) (by exact S0.out) (Or.inl ⟨by rfl, ?_⟩) ?_
  rotate_left
  · intro W hSw
    try dsimp only at hSw
    go_simp
    try (with_reducible rfl)
  try simp only [List.getElem_toArray, List.getElem_cons_zero, List.getElem_cons_succ, Act.put, List.setIfInBounds_toArray, List.set_cons_zero, List.set_cons_succ]
  refine wt_take (i := 5) (v := ?_) HTK.out rfl (by decide) (by kernel_rfl) (by kernel_rfl) (fun _ _ _ h => h) (by exact S0.out) (Or.inl ⟨by rfl, ?_⟩) ?_
  rotate_left
  · intro W hSw
    try dsimp only at hSw
    have q0 := (hSw.cell (p := ⟨w.heap.size, 0, none⟩) (by exact hxl2)).trans x2
    go_simp
    try (with_reducible rfl)
  try simp only [List.getElem_toArray, List.getElem_cons_zero, List.getElem_cons_succ, Act.put, List.setIfInBounds_toArray, List.set_cons_zero, List.set_cons_succ]
  refine wt_take (i := 6) (v := .agg x.cells) HTK.out rfl (by decide) (by kernel_rfl) (by kernel_rfl) (fun _ _ _ h => h) (by exact S0.out) (yieldsIf_load_at (by rfl) _ _ (by rfl) _ (by rfl) x.cells _ (fun W hSw => (Holds.of_block HX2.out).below hSw (by exact hxl2)) Try.underlying35 (by rfl) (sizeSm _)) ?_
  try simp only [List.getElem_toArray, List.getElem_cons_zero, List.getElem_cons_succ, Act.put, List.setIfInBounds_toArray, List.set_cons_zero, List.set_cons_succ]
  refine wt_last (k := 7) (by kernel_rfl) (by kernel_rfl) (by decide) rfl (fun K hK => ?_)
  have HH3 := Lib.hid (HH2.out.below S0.out)
  refine step_updateS (by rfl) _ _ _ 42 (by rfl) 9 35 Try.underlying9 Try.underlying42 bk kn (by rfl) HH3.out.k (by unfold maxLen; omega) x.room (by rfl) hr (.agg x.cells) (by rfl) ?_
  intro w4 hmap hturn
  have hg4 := World.mapTurned.grown hturn
  refine hK.out _ _ ?_
  clear hK K
  try simp only [List.getElem_toArray, List.getElem_cons_zero, List.getElem_cons_succ, Act.put, List.setIfInBounds_toArray, List.set_cons_zero, List.set_cons_succ]
  have e1 : w4.heap[g]? = w2.drew.heap[g]? := hg4.block g (blk_lt HH3.out.h) (fun e => HH3.out.gk (Option.some.inj e))
  have e3 : w4.heap[bs]? = w2.drew.heap[bs]? := hg4.block bs HH3.out.s.lt (fun e => HH3.out.ne (Option.some.inj e).symm)
  have hLs : LsAt w4 P g bk bs v most (putS x.room (.agg x.cells) kn) sh od := ⟨e1.trans HH3.out.h, hmap, HH3.out.s.same e3, own_same HH3.out.o (fun r hr2 er => hg4.block r hr2 (fun e => HH3.out.nk (by rw [er, e]))), HH3.out.ne, HH3.out.nv, HH3.out.nk, HH3.out.ns, HH3.out.gk, HH3.out.gs, HH3.out.pg, HH3.out.pk, HH3.out.ps, HH3.out.pv, fun r er => Nat.lt_of_lt_of_le (HH3.out.vl r er) hg4.size, HH3.out.srt⟩
  have hx4 : w4.heap[w.heap.size]? = some (.cells x.cells 35 (0, 0)) := (hg4.block _ hxl2 (fun e => by have := Option.some.inj e; have := HKL.out; omega)).trans HX2.out
  have hf4 : Fr P w w4 := (Fr.of_below (HB2.out.trans (S0.out.mono HB2.out.size))).trans (Fr.of_grown hg4 (fun r er => by obtain rfl := Option.some.inj er; exact HH3.out.pk))
  have x4 : w4.cell? ⟨w.heap.size, 0, none⟩ = some (.string x.room) := cell_at (j := 0) hx4 rfl
  have HF4 := Lib.hid hf4
  have HIN := Lib.hid (in_calls hLs x.room hr (some x) (by rw [getS_put, if_pos (by simp)]; rfl) so HSO.out hl)
  clear hmap hturn hg4 e1 e3 hLs hx4 hf4 x2 d1
  go_wp2_with fail
  refine HIN.out.mono ?_
  rintro e w5 ⟨rfl, v5, hls5, hf5⟩
  have H5 := Lib.hid hls5
  have F5 := Lib.hid hf5
  clear hls5 hf5 HIN
  go_wp2_with fail
  refine bodyPost_end (results_none rfl _ _ _) rfl ?_
  exact ⟨rfl, v5, H5.out.mono (fun i _ hi => hi.elim .inl (fun h5 => .inr (Nat.le_trans HF4.out.size h5))), HF4.out.trans F5.out⟩
set_option maxRecDepth 100000 in
set_option maxHeartbeats 4000000 in
theorem show_bad {w : World} {g : Nat} (r : ByteArray) (hs : r.size < 4294967281) (hm : Mx w) (hv : isB 1 r.data.toList = false) :
    Calls Try.prog 6 #[.pointer (some ⟨g, 0, none⟩), .string r] w fun e w' => e = .returned (.iface 41 (.int .i64 7)) ∧ Below w.heap.size w w' := by
  have HC := Lib.hid (is_calls w 1 r (by omega) hs hm)
  rw [hv] at HC
  clear hv hm
  go_enter Try.func6, Try.ntmps6
  go_wp2_with fail
  refine HC.out.mono ?_
  rintro e w1 ⟨rfl, hb⟩
  have HB := Lib.hid hb
  clear hb HC
  go_wp2_with fail
  go_ret
  exact ⟨rfl, HB.out⟩
set_option maxRecDepth 100000 in
set_option maxHeartbeats 4000000 in
theorem show_calls {w : World} {P : Nat → Prop} {g bk bs : Nat} {v : Value} {most : Int} {kn sh : List (ByteArray × Value)} {od : List Sm} (h : LsAt w P g bk bs v most kn sh od) (r : ByteArray) (hs : r.size < 4294967281) (hm : Mx w) (hv : isB 1 r.data.toList = true) (hso : getS sh r = none) (hfull : (sh.length : Int) < most) (kx : Option Sm) (hk : getS kn r = kx.map fun x => .agg x.cells) (hl : od.length ≤ 100000) (hsl : sh.length ≤ 100000) :
    Calls Try.prog 6 #[.pointer (some ⟨g, 0, none⟩), .string r] w fun e w' => e = .returned .nilIface ∧ ∃ v', LsAt w' (fun i => P i ∨ w.heap.size ≤ i) g bk bs v' most kn (putS r (.int .i64 1) sh) (inL kx true od) ∧ Fr P w w' := by
  have HC := Lib.hid (is_calls w 1 r (by omega) hs hm)
  rw [hv] at HC
  have HH := Lib.hid h
  have hrm : r.size ≤ maxLen := by unfold maxLen; omega
  have HSH := Lib.hid (fun (W : World) (hW : Below w.heap.size w W) => shown_calls W r hrm (h.below hW) 0 (by rw [hso]; rfl))
  have HVO := Lib.hid (show (getS sh r).getD (.int .i64 0) = .int .i64 0 by rw [hso]; rfl)
  have hfd : decide (most ≤ (sh.length : Int)) = false := by simp; omega
  have hfd2 : decide ((sh.length : Int) ≥ most) = false := by simp; omega
  have HKX := Lib.hid hk
  clear hv hm hso hfull hk h
  go_enter Try.func6, Try.ntmps6
  go_wp2_with fail
  refine HC.out.mono ?_
  rintro e w1 ⟨rfl, hb⟩
  have HB1 := Lib.hid hb
  clear hb HC
  go_wp2_with fail
  refine (HSH.out w1 HB1.out).mono ?_
  rintro e w2 ⟨rfl, hb⟩
  have HB2 := Lib.hid (HB1.out.trans (hb.mono HB1.out.size))
  have HH2 := Lib.hid (HH.out.below HB2.out)
  have d0 : w2.cell? ⟨g, 0, none⟩ = some (.int .i64 most) := cell_at (j := 0) HH2.out.h rfl
  have d2 : w2.cell? ⟨g, 2, none⟩ = some (.map (some bs)) := cell_at (j := 2) HH2.out.h rfl
  have hgl := blk_lt HH2.out.h
  have hsb := HH2.out.s.lt
  clear hb HSH HB1
  go_upto_region 5 with fail
  refine wt_start (S := fun W => Below w2.heap.size w2 W) 10 (by kernel_rfl) ⟨by kernel_rfl, by kernel_rfl, by kernel_rfl, by decide⟩ ?_
  intro HTK
  have S0 := Lib.hid (show Below w2.heap.size w2 w2.drew from (Below.refl _ _).drew)
  refine wt_take (i := 0) (v := ?_) HTK.out rfl (by decide) (by kernel_rfl) (by kernel_rfl) (fun _ _ _ h => h) (by exact S0.out) (Or.inl ⟨by rfl, ?_⟩) ?_
  rotate_left
  · intro W hSw
    try dsimp only at hSw
    go_simp
    try (with_reducible rfl)
  try simp only [List.getElem_toArray, List.getElem_cons_zero, List.getElem_cons_succ, Act.put, List.setIfInBounds_toArray, List.set_cons_zero, List.set_cons_succ]
  refine wt_take (i := 1) (v := ?_) HTK.out rfl (by decide) (by kernel_rfl) (by kernel_rfl) (fun _ _ _ h => h) (by exact S0.out) (Or.inl ⟨by rfl, ?_⟩) ?_
  rotate_left
  · intro W hSw
    try dsimp only at hSw
    go_simp
    try (with_reducible rfl)
  try simp only [List.getElem_toArray, List.getElem_cons_zero, List.getElem_cons_succ, Act.put, List.setIfInBounds_toArray, List.set_cons_zero, List.set_cons_succ]
  refine wt_take (i := 2) (v := ?_) HTK.out rfl (by decide) (by kernel_rfl) (by kernel_rfl) (fun _ _ _ h => h) (by exact S0.out) (Or.inl ⟨by rfl, ?_⟩) ?_
  rotate_left
  · intro W hSw
    try dsimp only at hSw
    go_simp
    try (with_reducible rfl)
  try simp only [List.getElem_toArray, List.getElem_cons_zero, List.getElem_cons_succ, Act.put, List.setIfInBounds_toArray, List.set_cons_zero, List.set_cons_succ]
  refine wt_take (i := 3) (v := ?_) HTK.out rfl (by decide) (by kernel_rfl) (by kernel_rfl) (fun _ _ _ h => h) (by exact S0.out) (Or.inl ⟨by rfl, ?_⟩) ?_
  rotate_left
  · intro W hSw
    try dsimp only at hSw
    have q0 := (hSw.cell (p := ⟨g, 2, none⟩) (by exact hgl)).trans d2
    go_simp
    try (with_reducible rfl)
  try simp only [List.getElem_toArray, List.getElem_cons_zero, List.getElem_cons_succ, Act.put, List.setIfInBounds_toArray, List.set_cons_zero, List.set_cons_succ]
  refine wt_take (i := 4) (v := .int .i64 sh.length) HTK.out rfl (by decide) (by kernel_rfl) (by kernel_rfl) (fun _ _ _ h => h) (by exact S0.out) (yieldsIf_lenS (by rfl) _ 30 (by rfl) 9 3 Try.underlying30 bs sh (by rfl) (fun W hSw => HH2.out.s.below hSw hsb)) ?_
  try simp only [List.getElem_toArray, List.getElem_cons_zero, List.getElem_cons_succ, Act.put, List.setIfInBounds_toArray, List.set_cons_zero, List.set_cons_succ]
  refine wt_take (i := 5) (v := ?_) HTK.out rfl (by decide) (by kernel_rfl) (by kernel_rfl) (fun _ _ _ h => h) (by exact S0.out) (Or.inl ⟨by rfl, ?_⟩) ?_
  rotate_left
  · intro W hSw
    try dsimp only at hSw
    go_simp
    try (with_reducible rfl)
  try simp only [List.getElem_toArray, List.getElem_cons_zero, List.getElem_cons_succ, Act.put, List.setIfInBounds_toArray, List.set_cons_zero, List.set_cons_succ]
  refine wt_take (i := 6) (v := ?_) HTK.out rfl (by decide) (by kernel_rfl) (by kernel_rfl) (fun _ _ _ h => h) (by exact S0.out) (Or.inl ⟨by rfl, ?_⟩) ?_
  rotate_left
  · intro W hSw
    try dsimp only at hSw
    go_simp
    try (with_reducible rfl)
  try simp only [List.getElem_toArray, List.getElem_cons_zero, List.getElem_cons_succ, Act.put, List.setIfInBounds_toArray, List.set_cons_zero, List.set_cons_succ]
  refine wt_take (i := 7) (v := ?_) HTK.out rfl (by decide) (by kernel_rfl) (by kernel_rfl) (fun _ _ _ h => h) (by exact S0.out) (Or.inl ⟨by rfl, ?_⟩) ?_
  rotate_left
  · intro W hSw
    try dsimp only at hSw
    go_simp
    try (with_reducible rfl)
  try simp only [List.getElem_toArray, List.getElem_cons_zero, List.getElem_cons_succ, Act.put, List.setIfInBounds_toArray, List.set_cons_zero, List.set_cons_succ]
  refine wt_take (i := 8) (v := ?_) HTK.out rfl (by decide) (by kernel_rfl) (by kernel_rfl) (fun _ _ _ h => h) (by exact S0.out) (Or.inl ⟨by rfl, ?_⟩) ?_
  rotate_left
  · intro W hSw
    try dsimp only at hSw
    have q0 := (hSw.cell (p := ⟨g, 0, none⟩) (by exact hgl)).trans d0
    go_simp
    try (with_reducible rfl)
  try simp only [List.getElem_toArray, List.getElem_cons_zero, List.getElem_cons_succ, Act.put, List.setIfInBounds_toArray, List.set_cons_zero, List.set_cons_succ]
  refine wt_take (i := 9) (v := ?_) HTK.out rfl (by decide) (by kernel_rfl) (by kernel_rfl) (fun _ _ _ h => h) (by exact S0.out) (Or.inl ⟨by rfl, ?_⟩) ?_
  rotate_left
  · intro W hSw
    try dsimp only at hSw
    go_simp
    try (with_reducible rfl)
  try simp only [List.getElem_toArray, List.getElem_cons_zero, List.getElem_cons_succ, Act.put, List.setIfInBounds_toArray, List.set_cons_zero, List.set_cons_succ]
  refine wt_last (k := 10) (by kernel_rfl) (by kernel_rfl) (by decide) rfl (fun K hK => ?_)
  go_simp
  refine hK.out _ _ ?_
  clear hK K
  try simp only [List.getElem_toArray, List.getElem_cons_zero, List.getElem_cons_succ, Act.put, List.setIfInBounds_toArray, List.set_cons_zero, List.set_cons_succ]
  go_wp2_with (first
    | (at_lookup; refine lookupS _ rfl _ _ 30 rfl 9 3 Try.underlying9 Try.underlying30 (.int .i64 0) (by kernel_rfl) bs sh rfl (HH2.out.below S0.out).s r rfl hrm _ HVO.out ?_)
    | (at_mapUpdate; refine updateS _ rfl _ _ _ 30 rfl 9 3 Try.underlying9 Try.underlying30 bs sh rfl (HH2.out.below S0.out).s (by unfold maxLen; omega) r rfl hrm _ rfl ?_))
  intro w4 hmap hturn
  have HH3 := Lib.hid (HH2.out.below S0.out)
  have hg4 := World.mapTurned.grown hturn
  have e1 : w4.heap[g]? = w2.drew.heap[g]? := hg4.block g (blk_lt HH3.out.h) (fun e => HH3.out.gs (Option.some.inj e))
  have e2 : w4.heap[bk]? = w2.drew.heap[bk]? := hg4.block bk HH3.out.k.lt (fun e => HH3.out.ne (Option.some.inj e))
  have hLs : LsAt w4 P g bk bs v most kn (putS r (.int .i64 1) sh) od := ⟨e1.trans HH3.out.h, HH3.out.k.same e2, hmap, own_same HH3.out.o (fun q hr2 er => hg4.block q hr2 (fun e => HH3.out.ns (by rw [er, e]))), HH3.out.ne, HH3.out.nv, HH3.out.nk, HH3.out.ns, HH3.out.gk, HH3.out.gs, HH3.out.pg, HH3.out.pk, HH3.out.ps, HH3.out.pv, fun q er => Nat.lt_of_lt_of_le (HH3.out.vl q er) hg4.size, HH3.out.srt⟩
  have hf4 : Fr P w w4 := (Fr.of_below (HB2.out.trans (S0.out.mono HB2.out.size))).trans (Fr.of_grown hg4 (fun q er => by obtain rfl := Option.some.inj er; exact HH3.out.ps))
  have HF4 := Lib.hid hf4
  have HIN := Lib.hid (in_calls hLs r hrm kx HKX.out true (by rw [getS_put, if_pos (by simp)]; rfl) hl)
  clear hmap hturn hg4 e1 e2 hLs hf4 d0 d2
  go_wp2_with fail
  refine HIN.out.mono ?_
  rintro e w5 ⟨rfl, v5, hls5, hf5⟩
  have H5 := Lib.hid hls5
  have F5 := Lib.hid hf5
  clear hls5 hf5 HIN
  go_wp2_with fail
  go_ret
  exact ⟨rfl, v5, H5.out.mono (fun i _ hi => hi.elim .inl (fun h5 => .inr (Nat.le_trans HF4.out.size h5))), HF4.out.trans F5.out⟩
end Go.Proofs.Ytmhhoaaoofopfaa
