/- A table and the document's: alike. -/
import Derived.Test.YtgnoaeldmpbjmaaGreatDoorDr
set_option linter.unusedVariables false
set_option linter.unusedSimpArgs false
namespace Go.Proofs.YtgnoaeldmpbjmaaGreatDoor
open Go.RowKit Go.Maps Go.Sort

set_option maxRecDepth 100000 in
/-- Two rows of the same texts. -/
theorem strs_same (w : World) (P Q : Nat → Prop) (sa sb : Sl) (l : List ByteArray) (h1 : RowOf w P 9 1 sa (srows l)) (h2 : RowOf w Q 9 1 sb (srows l)) :
    Calls Tryz.prog 42 #[sa.val, sb.val] w fun e w' => e = .returned (.bool true) ∧ Below w.heap.size w w' := by
  have hn1 : sa.n = l.length := by have := h1.1; simpa using this
  have hn2 : sb.n = l.length := by have := h2.1; simpa using this
  have hnn : l.length ≤ 1000000 := by have := h1.2.1; simpa using this
  have H1 := Lib.hid h1
  have H2 := Lib.hid h2
  obtain ⟨A1, n1, c1⟩ := sa
  obtain ⟨A2, n2, c2⟩ := sb
  dsimp only at hn1 hn2
  subst hn1 hn2
  clear h1 h2
  simp only [Sl.val]
  go_enter Tryz.func42, Tryz.ntmps42
  go_wp2_with fail
  go_loopw [13] (fun v wr => ∃ i : Nat, i ≤ l.length ∧ v = .int .i64 i ∧ Below w.heap.size w wr) (fun v _ => l.length - (intOf v).toNat)
  case atStart => exact ⟨0, by omega, rfl, Below.refl _ _⟩
  case round =>
    obtain ⟨i, hi, rfl, hb⟩ := hrel
    have HB := Lib.hid hb
    by_cases hlt : i < l.length
    · have hy : l[i]? = some l[i] := List.getElem?_eq_getElem hlt
      generalize l[i] = y at hy
      have hyc : (srows l)[i]? = some [.string y] := by simp [hy]
      obtain ⟨r1, ha1⟩ : ∃ r, A1 = some ⟨r, 0, none⟩ := by
        rcases H1.out.2.2 with ⟨_, hnil⟩ | ⟨r, h1, _⟩
        · have := congrArg List.length hnil; simp at this; subst this; simp at hlt
        · exact ⟨r, h1⟩
      obtain ⟨r2, ha2⟩ : ∃ r, A2 = some ⟨r, 0, none⟩ := by
        rcases H2.out.2.2 with ⟨_, hnil⟩ | ⟨r, h1, _⟩
        · have := congrArg List.length hnil; simp at this; subst this; simp at hlt
        · exact ⟨r, h1⟩
      obtain ⟨_, hrl1, hrw1⟩ := H1.out.at ha1
      obtain ⟨_, hrl2, hrw2⟩ := H2.out.at ha2
      have k1 : wr.cell? ⟨r1, i, none⟩ = some (.string y) := by
        have := (hb.cell (p := ⟨r1, i * 1 + 0, none⟩) hrw1.lt).trans (hrw1.cell (d := 0) hyc rfl)
        simpa using this
      have k2 : wr.cell? ⟨r2, i, none⟩ = some (.string y) := by
        have := (hb.cell (p := ⟨r2, i * 1 + 0, none⟩) hrw2.lt).trans (hrw2.cell (d := 0) hyc rfl)
        simpa using this
      subst ha1 ha2
      clear hy hyc hrw1 hrw2 hb
      go_wp2_with fail
      go_quiet (fail)
      go_wp2_with fail
      exact ⟨⟨i + 1, by omega, by go_num, below_drewN' HB.out _⟩, by simp [intOf]; omega⟩
    · obtain rfl : i = l.length := by omega
      clear hb
      go_wp2_with fail
      go_ret
      exact ⟨rfl, HB.out⟩
def SmallE (l : List En) : Prop := ∀ x ∈ l, x.a.size ≤ maxLen
theorem small_do {l : List En} (h : SmallE l) (server : ByteArray) (most : Int) (x : Ac) (hx : x.a.size ≤ maxLen) : SmallE (doL server most l x) := by
  intro y hy
  unfold doL at hy
  split at hy
  · unfold dropL at hy
    split at hy
    · exact h y ((List.mem_filter.1 hy).1)
    · exact h y hy
  · unfold addL at hy
    split at hy
    · rcases mem_ins hy with rfl | hy
      · exact hx
      · exact h y hy
    · exact h y hy

set_option maxRecDepth 100000 in
set_option maxHeartbeats 4000000 in
theorem both_is (P : Nat → Prop) (w0 w : World) (g b : Nat) (server : ByteArray) (most : Int) (l : List En) (s : Sl) (hB : Both P w0 g b server most l s w) (hl : RiseE l) (hs : SmallE l) (hn : l.length ≤ 1000000) :
    Calls Tryz.prog 18 #[.pointer (some ⟨g, 0, none⟩), .agg (tCells server most s)] w fun e w' => e = .returned (.bool true) ∧ Below w.heap.size w w' := by
  have hgl := blk_lt hB.t.blk
  have hnl : s.n = l.length := by have := hB.r.1; simpa using this
  have HB := Lib.hid hB
  have HALL := Lib.hid (fun (W : World) (h : Below w.heap.size w W) => allE_calls W g b server most l (hB.t.below h) hl hn)
  have HLEN := Lib.hid (fun (W : World) (h : Below w.heap.size w W) => len_calls W g b server most l (hB.t.below h))
  have HGET := Lib.hid (fun (W : World) (h : Below w.heap.size w W) (x : En) (hx : x ∈ l) => hl.get hx ▸ get_calls W g b server most l x.a (hB.t.below h) (hs x hx))
  have HOF := Lib.hid (fun (W : World) (h : Below w.heap.size w W) (room : ByteArray) => ofE_calls W g b server most l room (hB.t.below h) hl hn)
  have HROF := Lib.hid (fun (W : World) (h : Below w.heap.size w W) (room : ByteArray) => rof_calls W server most s _ l room (hB.r.same h.size (fun g hg _ => h.block g hg)) hn)
  have HROW := Lib.hid hB.r
  obtain ⟨A, n, c⟩ := s
  dsimp only at hnl
  subst hnl
  clear hB hl hs
  simp only [tCells, Sl.val] at *
  go_enter Tryz.func18, Tryz.ntmps18
  go_wp2_with fail
  refine (HALL.out _ ((Below.refl _ _).alloc (Nat.le_refl _) _)).mono ?_
  rintro e w1 ⟨⟨xa, xn, xc⟩, rfl, hrow, hb⟩
  have hxn : xn = l.length := by have := hrow.1; simpa using this
  subst hxn
  have hbox : w1.heap[w.heap.size]? = some (.cells #[.string server, .int .i64 most, .slice A l.length c] 34 (0, 0)) := (hb.block _ (by simp)).trans (heap_new_at _ _ _ rfl)
  have k2 := cell_at (j := 2) hbox rfl
  have HB1 := Lib.hid (show Below w.heap.size w w1 from ((Below.refl _ _).alloc (Nat.le_refl _) _).trans (hb.mono (by simp)))
  have HX := Lib.hid (show RowOf w1 (fun g => w.heap.size + 1 ≤ g) 49 3 ⟨xa, l.length, xc⟩ (rowsE l) from hrow.mono fun i _ h => by simpa using h)
  have HBOX := Lib.hid hbox
  clear hb hrow hbox HALL
  go_wp2_with fail
  refine wt_start (S := fun W => W.cell? ⟨w.heap.size, 2, none⟩ = some (.slice A l.length c)) 13 (by kernel_rfl) ⟨by kernel_rfl, by kernel_rfl, by kernel_rfl, by decide⟩ ?_
  intro HTK
  refine wt_take (i := 0) (v := ?_) HTK.out rfl (by decide) (by kernel_rfl) (by kernel_rfl) (fun _ _ _ h => h) (by exact k2) (Or.inl ⟨by rfl, ?_⟩) ?_
  rotate_left
  · intro W hSw
    try dsimp only at hSw
    go_simp
    try (with_reducible rfl)
  try simp only [List.getElem_toArray, List.getElem_cons_zero, List.getElem_cons_succ, Act.put, List.setIfInBounds_toArray, List.set_cons_zero, List.set_cons_succ]
  refine wt_take (i := 2) (v := ?_) HTK.out rfl (by decide) (by kernel_rfl) (by kernel_rfl) (fun _ _ _ h => h) (by exact k2) (Or.inl ⟨by rfl, ?_⟩) ?_
  rotate_left
  · intro W hSw
    try dsimp only at hSw
    go_simp
    try (with_reducible rfl)
  try simp only [List.getElem_toArray, List.getElem_cons_zero, List.getElem_cons_succ, Act.put, List.setIfInBounds_toArray, List.set_cons_zero, List.set_cons_succ]
  refine wt_take (i := 3) (v := ?_) HTK.out rfl (by decide) (by kernel_rfl) (by kernel_rfl) (fun _ _ _ h => h) (by exact k2) (Or.inl ⟨by rfl, ?_⟩) ?_
  rotate_left
  · intro W hSw
    try dsimp only at hSw
    go_simp
    try (with_reducible rfl)
  try simp only [List.getElem_toArray, List.getElem_cons_zero, List.getElem_cons_succ, Act.put, List.setIfInBounds_toArray, List.set_cons_zero, List.set_cons_succ]
  refine wt_take (i := 4) (v := ?_) HTK.out rfl (by decide) (by kernel_rfl) (by kernel_rfl) (fun _ _ _ h => h) (by exact k2) (Or.inl ⟨by rfl, ?_⟩) ?_
  rotate_left
  · intro W hSw
    try dsimp only at hSw
    go_simp
    try (with_reducible rfl)
  try simp only [List.getElem_toArray, List.getElem_cons_zero, List.getElem_cons_succ, Act.put, List.setIfInBounds_toArray, List.set_cons_zero, List.set_cons_succ]
  refine wt_ready (rs := [1]) (by kernel_rfl) (by simp) ?_
  refine AllT.cons rfl (by decide) (fun K hK => ?_) ?_
  · go_simp
    go_at_call 23
    refine (HLEN.out w1.drew HB1.out.drew).mono ?_
    rintro e wx ⟨rfl, rfl⟩
    refine hK.out _ _ (by exact k2) ?_
    clear hK K
    try simp only [List.getElem_toArray, List.getElem_cons_zero, List.getElem_cons_succ, Act.put, List.setIfInBounds_toArray, List.set_cons_zero, List.set_cons_succ]
    refine wt_take (i := 5) (v := ?_) HTK.out rfl (by decide) (by kernel_rfl) (by kernel_rfl) (fun _ _ _ h => h) (by exact k2) (Or.inl ⟨by rfl, ?_⟩) ?_
    rotate_left
    · intro W hSw
      try dsimp only at hSw
      go_simp
      try (with_reducible rfl)
    try simp only [List.getElem_toArray, List.getElem_cons_zero, List.getElem_cons_succ, Act.put, List.setIfInBounds_toArray, List.set_cons_zero, List.set_cons_succ]
    refine wt_take (i := 6) (v := ?_) HTK.out rfl (by decide) (by kernel_rfl) (by kernel_rfl) (fun _ _ _ h => h) (by exact k2) (Or.inl ⟨by rfl, ?_⟩) ?_
    rotate_left
    · intro W hSw
      try dsimp only at hSw
      go_simp
      try (with_reducible rfl)
    try simp only [List.getElem_toArray, List.getElem_cons_zero, List.getElem_cons_succ, Act.put, List.setIfInBounds_toArray, List.set_cons_zero, List.set_cons_succ]
    refine wt_take (i := 7) (v := ?_) HTK.out rfl (by decide) (by kernel_rfl) (by kernel_rfl) (fun _ _ _ h => h) (by exact k2) (Or.inl ⟨by rfl, ?_⟩) ?_
    rotate_left
    · intro W hSw
      try dsimp only at hSw
      go_simp
      try (with_reducible rfl)
    try simp only [List.getElem_toArray, List.getElem_cons_zero, List.getElem_cons_succ, Act.put, List.setIfInBounds_toArray, List.set_cons_zero, List.set_cons_succ]
    refine wt_take (i := 8) (v := ?_) HTK.out rfl (by decide) (by kernel_rfl) (by kernel_rfl) (fun _ _ _ h => h) (by exact k2) (Or.inl ⟨by rfl, ?_⟩) ?_
    rotate_left
    · intro W hSw
      try dsimp only at hSw
      go_simp
      try (with_reducible rfl)
    try simp only [List.getElem_toArray, List.getElem_cons_zero, List.getElem_cons_succ, Act.put, List.setIfInBounds_toArray, List.set_cons_zero, List.set_cons_succ]
    refine wt_take (i := 9) (v := ?_) HTK.out rfl (by decide) (by kernel_rfl) (by kernel_rfl) (fun _ _ _ h => h) (by exact k2) (Or.inl ⟨by rfl, ?_⟩) ?_
    rotate_left
    · intro W hSw
      try dsimp only at hSw
      go_simp
      try (with_reducible rfl)
    try simp only [List.getElem_toArray, List.getElem_cons_zero, List.getElem_cons_succ, Act.put, List.setIfInBounds_toArray, List.set_cons_zero, List.set_cons_succ]
    refine wt_take (i := 10) (v := ?_) HTK.out rfl (by decide) (by kernel_rfl) (by kernel_rfl) (fun _ _ _ h => h) (by exact k2) (Or.inl ⟨by rfl, ?_⟩) ?_
    rotate_left
    · intro W hSw
      try dsimp only at hSw
      go_simp
      try (with_reducible rfl)
    try simp only [List.getElem_toArray, List.getElem_cons_zero, List.getElem_cons_succ, Act.put, List.setIfInBounds_toArray, List.set_cons_zero, List.set_cons_succ]
    refine wt_take (i := 11) (v := ?_) HTK.out rfl (by decide) (by kernel_rfl) (by kernel_rfl) (fun _ _ _ h => h) (by exact k2) (Or.inl ⟨by rfl, ?_⟩) ?_
    rotate_left
    · intro W hSw
      try dsimp only at hSw
      go_simp
      try (with_reducible rfl)
    try simp only [List.getElem_toArray, List.getElem_cons_zero, List.getElem_cons_succ, Act.put, List.setIfInBounds_toArray, List.set_cons_zero, List.set_cons_succ]
    refine wt_take (i := 12) (v := ?_) HTK.out rfl (by decide) (by kernel_rfl) (by kernel_rfl) (fun _ _ _ h => h) (by exact k2) (Or.inl ⟨by rfl, ?_⟩) ?_
    rotate_left
    · intro W hSw
      try dsimp only at hSw
      go_simp
      try (with_reducible rfl)
    try simp only [List.getElem_toArray, List.getElem_cons_zero, List.getElem_cons_succ, Act.put, List.setIfInBounds_toArray, List.set_cons_zero, List.set_cons_succ]
    refine wt_last (k := 13) (by kernel_rfl) (by kernel_rfl) (by decide) rfl (fun K hK => ?_)
    go_simp
    refine hK.out _ _ ?_
    clear hK K
    try simp only [List.getElem_toArray, List.getElem_cons_zero, List.getElem_cons_succ, Act.put, List.setIfInBounds_toArray, List.set_cons_zero, List.set_cons_succ]
    go_wp2_with fail
    go_loopw [29] (fun v wr => ∃ i : Nat, i ≤ l.length ∧ v = .int .i64 i ∧ Below w1.heap.size w1 wr) (fun v _ => l.length - (intOf v).toNat)
    case atStart => exact ⟨0, by omega, rfl, (Below.refl _ _).drew⟩
    case round =>
      obtain ⟨i, hi, rfl, hb⟩ := hrel
      by_cases hlt : i < l.length
      · have hy : l[i]? = some l[i] := List.getElem?_eq_getElem hlt
        have hmem : l[i] ∈ l := List.getElem_mem hlt
        generalize l[i] = y at hy hmem
        obtain ⟨rx, hax⟩ : ∃ r, xa = some ⟨r, 0, none⟩ := by
          rcases HX.out.2.2 with ⟨_, hnil⟩ | ⟨r, h1, _⟩
          · have := congrArg List.length hnil; simp at this; subst this; simp at hlt
          · exact ⟨r, h1⟩
        obtain ⟨ra, haa⟩ : ∃ r, A = some ⟨r, 0, none⟩ := by
          rcases HROW.out.2.2 with ⟨_, hnil⟩ | ⟨r, h1, _⟩
          · have := congrArg List.length hnil; simp at this; subst this; simp at hlt
          · exact ⟨r, h1⟩
        obtain ⟨_, hrl1, hrw1⟩ := HX.out.at hax
        obtain ⟨_, hrl2, hrw2⟩ := HROW.out.at haa
        have hyc : (rowsE l)[i]? = some y.cells.toList := by simp [hy]
        have HG := Lib.hid (fun (W : World) (h : Below w.heap.size w W) => HGET.out W h y hmem)
        obtain ⟨ya, yr, yb⟩ := y
        have x0 : wr.cell? ⟨rx, i * 3, none⟩ = some (.string ya) := (hb.cell (p := ⟨rx, i * 3 + 0, none⟩) hrw1.lt).trans (hrw1.cell (d := 0) hyc rfl)
        have x1 : wr.cell? ⟨rx, i * 3 + 1, none⟩ = some (.string yr) := (hb.cell (p := ⟨rx, i * 3 + 1, none⟩) hrw1.lt).trans (hrw1.cell (d := 1) hyc rfl)
        have x2 : wr.cell? ⟨rx, i * 3 + 2, none⟩ = some (.string yb) := (hb.cell (p := ⟨rx, i * 3 + 2, none⟩) hrw1.lt).trans (hrw1.cell (d := 2) hyc rfl)
        have hbw : Below w.heap.size w wr := HB1.out.trans (hb.mono HB1.out.size)
        have y0 : wr.cell? ⟨ra, i * 3, none⟩ = some (.string ya) := (hbw.cell (p := ⟨ra, i * 3 + 0, none⟩) hrw2.lt).trans (hrw2.cell (d := 0) hyc rfl)
        have y1 : wr.cell? ⟨ra, i * 3 + 1, none⟩ = some (.string yr) := (hbw.cell (p := ⟨ra, i * 3 + 1, none⟩) hrw2.lt).trans (hrw2.cell (d := 1) hyc rfl)
        have y2 : wr.cell? ⟨ra, i * 3 + 2, none⟩ = some (.string yb) := (hbw.cell (p := ⟨ra, i * 3 + 2, none⟩) hrw2.lt).trans (hrw2.cell (d := 2) hyc rfl)
        have hrwr : ra < wr.heap.size := Nat.lt_of_lt_of_le hrl2 hbw.size
        have hboxr : wr.heap[w.heap.size]? = some (.cells #[.string server, .int .i64 most, .slice A l.length c] 34 (0, 0)) := (hb.block _ (blk_lt HBOX.out)).trans HBOX.out
        have k2r := cell_at (j := 2) hboxr rfl
        have hwlt := blk_lt hboxr
        subst hax haa
        have HB := Lib.hid hb
        have HBR := Lib.hid hboxr
        clear hy hyc hrw1 hrw2 hb hbw hmem hboxr HGET k2
        go_wp2_with fail
        have hbw2 : Below w.heap.size w ((wr.alloc (.cells #[.string ya, .string yr, .string yb] 49)).alloc (.cells #[.string ya, .string yr, .string yb] 105)) := ((HB1.out.trans (HB.out.mono HB1.out.size)).alloc (by omega) _).alloc (by simp; omega) _
        refine (HG.out _ hbw2).mono ?_
        rintro e w2 ⟨rfl, hb2⟩
        have hq2 : w2.heap[wr.heap.size]? = some (.cells #[.string ya, .string yr, .string yb] 49 (0, 0)) := (hb2.block _ (by simp <;> omega)).trans ((heap_old_at _ _ _ (by simp <;> omega)).trans (heap_new_at _ _ _ rfl))
        have hu2 : w2.heap[wr.heap.size + 1]? = some (.cells #[.string ya, .string yr, .string yb] 105 (0, 0)) := (hb2.block _ (by simp)).trans (heap_new_at _ _ _ (by simp))
        have hbx2 : w2.heap[w.heap.size]? = some (.cells #[.string server, .int .i64 most, .slice (some ⟨ra, 0, none⟩) l.length c] 34 (0, 0)) := (hb2.block _ (by simp; omega)).trans ((heap_old_at _ _ _ (by simp; omega)).trans ((heap_old_at _ _ _ hwlt).trans HBR.out))
        have hb12 : Below w1.heap.size w1 w2 := ((HB.out.alloc HB.out.size _).alloc (by have := HB.out.size; simp; omega) _).trans (hb2.mono (by have := HB.out.size; simp; omega))
        have H2 := Lib.hid (And.intro hb12 (And.intro hq2 (And.intro hu2 hbx2)))
        clear hbw2 hb2 hq2 hu2 hbx2 hb12 HG x0 x1 x2 y0 y1 y2 k2r
        unfold getV
        go_wp2_with fail
        have hw3q : (w2.alloc (.cells #[.string ya, .string yr, .string yb] 49)).heap[wr.heap.size]? = some (.cells #[.string ya, .string yr, .string yb] 49 (0, 0)) := (heap_old_at _ _ _ (blk_lt H2.out.2.1)).trans H2.out.2.1
        have hw3u : (w2.alloc (.cells #[.string ya, .string yr, .string yb] 49)).heap[wr.heap.size + 1]? = some (.cells #[.string ya, .string yr, .string yb] 105 (0, 0)) := (heap_old_at _ _ _ (blk_lt H2.out.2.2.1)).trans H2.out.2.2.1
        have hw3v : (w2.alloc (.cells #[.string ya, .string yr, .string yb] 49)).heap[w2.heap.size]? = some (.cells #[.string ya, .string yr, .string yb] 49 (0, 0)) := heap_new_at _ _ _ rfl
        have hw3b : (w2.alloc (.cells #[.string ya, .string yr, .string yb] 49)).heap[w.heap.size]? = some (.cells #[.string server, .int .i64 most, .slice (some ⟨ra, 0, none⟩) l.length c] 34 (0, 0)) := (heap_old_at _ _ _ (blk_lt H2.out.2.2.2)).trans H2.out.2.2.2
        have hb3 : Below w1.heap.size w1 (w2.alloc (.cells #[.string ya, .string yr, .string yb] 49)) := H2.out.1.alloc H2.out.1.size _
        generalize w2.alloc (.cells #[.string ya, .string yr, .string yb] 49) = w3 at *
        have q0 : w3.cell? ⟨wr.heap.size, 0, none⟩ = some _ := cell_at (j := 0) hw3q rfl
        have q1 : w3.cell? ⟨wr.heap.size, 1, none⟩ = some _ := cell_at (j := 1) hw3q rfl
        have q2 : w3.cell? ⟨wr.heap.size, 2, none⟩ = some _ := cell_at (j := 2) hw3q rfl
        have u0 : w3.cell? ⟨wr.heap.size + 1, 0, none⟩ = some _ := cell_at (j := 0) hw3u rfl
        have u1 : w3.cell? ⟨wr.heap.size + 1, 1, none⟩ = some _ := cell_at (j := 1) hw3u rfl
        have u2 : w3.cell? ⟨wr.heap.size + 1, 2, none⟩ = some _ := cell_at (j := 2) hw3u rfl
        have v0 : w3.cell? ⟨w2.heap.size, 0, none⟩ = some _ := cell_at (j := 0) hw3v rfl
        have v1 : w3.cell? ⟨w2.heap.size, 1, none⟩ = some _ := cell_at (j := 1) hw3v rfl
        have v2 : w3.cell? ⟨w2.heap.size, 2, none⟩ = some _ := cell_at (j := 2) hw3v rfl
        have b0 : w3.cell? ⟨w.heap.size, 0, none⟩ = some _ := cell_at (j := 0) hw3b rfl
        have b1 : w3.cell? ⟨w.heap.size, 1, none⟩ = some _ := cell_at (j := 1) hw3b rfl
        have b2 : w3.cell? ⟨w.heap.size, 2, none⟩ = some _ := cell_at (j := 2) hw3b rfl
        have Hw3 := Lib.hid (And.intro hb3 (And.intro hw3q (And.intro hw3u (And.intro hw3v hw3b))))
        clear hb3 hw3q hw3u hw3v hw3b H2
        refine wt_start (S := fun W => W.cell? ⟨wr.heap.size, 0, none⟩ = some (.string ya) ∧ W.cell? ⟨wr.heap.size, 1, none⟩ = some (.string yr) ∧ W.cell? ⟨wr.heap.size, 2, none⟩ = some (.string yb) ∧ W.cell? ⟨wr.heap.size + 1, 0, none⟩ = some (.string ya) ∧ W.cell? ⟨wr.heap.size + 1, 1, none⟩ = some (.string yr) ∧ W.cell? ⟨wr.heap.size + 1, 2, none⟩ = some (.string yb) ∧ W.cell? ⟨w2.heap.size, 0, none⟩ = some (.string ya) ∧ W.cell? ⟨w2.heap.size, 1, none⟩ = some (.string yr) ∧ W.cell? ⟨w2.heap.size, 2, none⟩ = some (.string yb) ∧ W.cell? ⟨w.heap.size, 0, none⟩ = some (.string server) ∧ W.cell? ⟨w.heap.size, 1, none⟩ = some (.int .i64 most) ∧ W.cell? ⟨w.heap.size, 2, none⟩ = some (.slice (some ⟨ra, 0, none⟩) l.length c)) 39 (by kernel_rfl) ⟨by kernel_rfl, by kernel_rfl, by kernel_rfl, by decide⟩ ?_
        intro HTK
        refine wt_take (i := 0) (v := ?_) HTK.out rfl (by decide) (by kernel_rfl) (by kernel_rfl) (fun _ _ _ h => h) (by exact ⟨q0, q1, q2, u0, u1, u2, v0, v1, v2, b0, b1, b2⟩) (Or.inl ⟨by rfl, ?_⟩) ?_
        rotate_left
        · intro W hSw
          obtain ⟨m0, m1, m2, m3, m4, m5, m6, m7, m8, m9, m10, m11⟩ := hSw
          go_simp
          try (with_reducible rfl)
        try simp only [List.getElem_toArray, List.getElem_cons_zero, List.getElem_cons_succ, Act.put, List.setIfInBounds_toArray, List.set_cons_zero, List.set_cons_succ]
        refine wt_take (i := 1) (v := ?_) HTK.out rfl (by decide) (by kernel_rfl) (by kernel_rfl) (fun _ _ _ h => h) (by exact ⟨q0, q1, q2, u0, u1, u2, v0, v1, v2, b0, b1, b2⟩) (Or.inl ⟨by rfl, ?_⟩) ?_
        rotate_left
        · intro W hSw
          obtain ⟨m0, m1, m2, m3, m4, m5, m6, m7, m8, m9, m10, m11⟩ := hSw
          go_simp
          try (with_reducible rfl)
        try simp only [List.getElem_toArray, List.getElem_cons_zero, List.getElem_cons_succ, Act.put, List.setIfInBounds_toArray, List.set_cons_zero, List.set_cons_succ]
        refine wt_take (i := 2) (v := ?_) HTK.out rfl (by decide) (by kernel_rfl) (by kernel_rfl) (fun _ _ _ h => h) (by exact ⟨q0, q1, q2, u0, u1, u2, v0, v1, v2, b0, b1, b2⟩) (Or.inl ⟨by rfl, ?_⟩) ?_
        rotate_left
        · intro W hSw
          obtain ⟨m0, m1, m2, m3, m4, m5, m6, m7, m8, m9, m10, m11⟩ := hSw
          go_simp
          try (with_reducible rfl)
        try simp only [List.getElem_toArray, List.getElem_cons_zero, List.getElem_cons_succ, Act.put, List.setIfInBounds_toArray, List.set_cons_zero, List.set_cons_succ]
        refine wt_take (i := 3) (v := ?_) HTK.out rfl (by decide) (by kernel_rfl) (by kernel_rfl) (fun _ _ _ h => h) (by exact ⟨q0, q1, q2, u0, u1, u2, v0, v1, v2, b0, b1, b2⟩) (Or.inl ⟨by rfl, ?_⟩) ?_
        rotate_left
        · intro W hSw
          obtain ⟨m0, m1, m2, m3, m4, m5, m6, m7, m8, m9, m10, m11⟩ := hSw
          go_simp
          try (with_reducible rfl)
        try simp only [List.getElem_toArray, List.getElem_cons_zero, List.getElem_cons_succ, Act.put, List.setIfInBounds_toArray, List.set_cons_zero, List.set_cons_succ]
        refine wt_take (i := 4) (v := ?_) HTK.out rfl (by decide) (by kernel_rfl) (by kernel_rfl) (fun _ _ _ h => h) (by exact ⟨q0, q1, q2, u0, u1, u2, v0, v1, v2, b0, b1, b2⟩) (Or.inl ⟨by rfl, ?_⟩) ?_
        rotate_left
        · intro W hSw
          obtain ⟨m0, m1, m2, m3, m4, m5, m6, m7, m8, m9, m10, m11⟩ := hSw
          go_simp
          try (with_reducible rfl)
        try simp only [List.getElem_toArray, List.getElem_cons_zero, List.getElem_cons_succ, Act.put, List.setIfInBounds_toArray, List.set_cons_zero, List.set_cons_succ]
        refine wt_take (i := 5) (v := ?_) HTK.out rfl (by decide) (by kernel_rfl) (by kernel_rfl) (fun _ _ _ h => h) (by exact ⟨q0, q1, q2, u0, u1, u2, v0, v1, v2, b0, b1, b2⟩) (Or.inl ⟨by rfl, ?_⟩) ?_
        rotate_left
        · intro W hSw
          obtain ⟨m0, m1, m2, m3, m4, m5, m6, m7, m8, m9, m10, m11⟩ := hSw
          go_simp
          try (with_reducible rfl)
        try simp only [List.getElem_toArray, List.getElem_cons_zero, List.getElem_cons_succ, Act.put, List.setIfInBounds_toArray, List.set_cons_zero, List.set_cons_succ]
        refine wt_take (i := 6) (v := ?_) HTK.out rfl (by decide) (by kernel_rfl) (by kernel_rfl) (fun _ _ _ h => h) (by exact ⟨q0, q1, q2, u0, u1, u2, v0, v1, v2, b0, b1, b2⟩) (Or.inl ⟨by rfl, ?_⟩) ?_
        rotate_left
        · intro W hSw
          obtain ⟨m0, m1, m2, m3, m4, m5, m6, m7, m8, m9, m10, m11⟩ := hSw
          go_simp
          try (with_reducible rfl)
        try simp only [List.getElem_toArray, List.getElem_cons_zero, List.getElem_cons_succ, Act.put, List.setIfInBounds_toArray, List.set_cons_zero, List.set_cons_succ]
        refine wt_take (i := 7) (v := ?_) HTK.out rfl (by decide) (by kernel_rfl) (by kernel_rfl) (fun _ _ _ h => h) (by exact ⟨q0, q1, q2, u0, u1, u2, v0, v1, v2, b0, b1, b2⟩) (Or.inl ⟨by rfl, ?_⟩) ?_
        rotate_left
        · intro W hSw
          obtain ⟨m0, m1, m2, m3, m4, m5, m6, m7, m8, m9, m10, m11⟩ := hSw
          go_simp
          try (with_reducible rfl)
        try simp only [List.getElem_toArray, List.getElem_cons_zero, List.getElem_cons_succ, Act.put, List.setIfInBounds_toArray, List.set_cons_zero, List.set_cons_succ]
        refine wt_take (i := 8) (v := ?_) HTK.out rfl (by decide) (by kernel_rfl) (by kernel_rfl) (fun _ _ _ h => h) (by exact ⟨q0, q1, q2, u0, u1, u2, v0, v1, v2, b0, b1, b2⟩) (Or.inl ⟨by rfl, ?_⟩) ?_
        rotate_left
        · intro W hSw
          obtain ⟨m0, m1, m2, m3, m4, m5, m6, m7, m8, m9, m10, m11⟩ := hSw
          go_simp
          try (with_reducible rfl)
        try simp only [List.getElem_toArray, List.getElem_cons_zero, List.getElem_cons_succ, Act.put, List.setIfInBounds_toArray, List.set_cons_zero, List.set_cons_succ]
        refine wt_take (i := 9) (v := ?_) HTK.out rfl (by decide) (by kernel_rfl) (by kernel_rfl) (fun _ _ _ h => h) (by exact ⟨q0, q1, q2, u0, u1, u2, v0, v1, v2, b0, b1, b2⟩) (Or.inl ⟨by rfl, ?_⟩) ?_
        rotate_left
        · intro W hSw
          obtain ⟨m0, m1, m2, m3, m4, m5, m6, m7, m8, m9, m10, m11⟩ := hSw
          go_simp
          try (with_reducible rfl)
        try simp only [List.getElem_toArray, List.getElem_cons_zero, List.getElem_cons_succ, Act.put, List.setIfInBounds_toArray, List.set_cons_zero, List.set_cons_succ]
        refine wt_take (i := 10) (v := ?_) HTK.out rfl (by decide) (by kernel_rfl) (by kernel_rfl) (fun _ _ _ h => h) (by exact ⟨q0, q1, q2, u0, u1, u2, v0, v1, v2, b0, b1, b2⟩) (Or.inl ⟨by rfl, ?_⟩) ?_
        rotate_left
        · intro W hSw
          obtain ⟨m0, m1, m2, m3, m4, m5, m6, m7, m8, m9, m10, m11⟩ := hSw
          go_simp
          try (with_reducible rfl)
        try simp only [List.getElem_toArray, List.getElem_cons_zero, List.getElem_cons_succ, Act.put, List.setIfInBounds_toArray, List.set_cons_zero, List.set_cons_succ]
        refine wt_take (i := 11) (v := ?_) HTK.out rfl (by decide) (by kernel_rfl) (by kernel_rfl) (fun _ _ _ h => h) (by exact ⟨q0, q1, q2, u0, u1, u2, v0, v1, v2, b0, b1, b2⟩) (Or.inl ⟨by rfl, ?_⟩) ?_
        rotate_left
        · intro W hSw
          obtain ⟨m0, m1, m2, m3, m4, m5, m6, m7, m8, m9, m10, m11⟩ := hSw
          go_simp
          try (with_reducible rfl)
        try simp only [List.getElem_toArray, List.getElem_cons_zero, List.getElem_cons_succ, Act.put, List.setIfInBounds_toArray, List.set_cons_zero, List.set_cons_succ]
        refine wt_take (i := 12) (v := ?_) HTK.out rfl (by decide) (by kernel_rfl) (by kernel_rfl) (fun _ _ _ h => h) (by exact ⟨q0, q1, q2, u0, u1, u2, v0, v1, v2, b0, b1, b2⟩) (Or.inl ⟨by rfl, ?_⟩) ?_
        rotate_left
        · intro W hSw
          obtain ⟨m0, m1, m2, m3, m4, m5, m6, m7, m8, m9, m10, m11⟩ := hSw
          go_simp
          try (with_reducible rfl)
        try simp only [List.getElem_toArray, List.getElem_cons_zero, List.getElem_cons_succ, Act.put, List.setIfInBounds_toArray, List.set_cons_zero, List.set_cons_succ]
        refine wt_take (i := 13) (v := ?_) HTK.out rfl (by decide) (by kernel_rfl) (by kernel_rfl) (fun _ _ _ h => h) (by exact ⟨q0, q1, q2, u0, u1, u2, v0, v1, v2, b0, b1, b2⟩) (Or.inl ⟨by rfl, ?_⟩) ?_
        rotate_left
        · intro W hSw
          obtain ⟨m0, m1, m2, m3, m4, m5, m6, m7, m8, m9, m10, m11⟩ := hSw
          go_simp
          try (with_reducible rfl)
        try simp only [List.getElem_toArray, List.getElem_cons_zero, List.getElem_cons_succ, Act.put, List.setIfInBounds_toArray, List.set_cons_zero, List.set_cons_succ]
        refine wt_take (i := 14) (v := ?_) HTK.out rfl (by decide) (by kernel_rfl) (by kernel_rfl) (fun _ _ _ h => h) (by exact ⟨q0, q1, q2, u0, u1, u2, v0, v1, v2, b0, b1, b2⟩) (Or.inl ⟨by rfl, ?_⟩) ?_
        rotate_left
        · intro W hSw
          obtain ⟨m0, m1, m2, m3, m4, m5, m6, m7, m8, m9, m10, m11⟩ := hSw
          go_simp
          try (with_reducible rfl)
        try simp only [List.getElem_toArray, List.getElem_cons_zero, List.getElem_cons_succ, Act.put, List.setIfInBounds_toArray, List.set_cons_zero, List.set_cons_succ]
        refine wt_take (i := 15) (v := ?_) HTK.out rfl (by decide) (by kernel_rfl) (by kernel_rfl) (fun _ _ _ h => h) (by exact ⟨q0, q1, q2, u0, u1, u2, v0, v1, v2, b0, b1, b2⟩) (Or.inl ⟨by rfl, ?_⟩) ?_
        rotate_left
        · intro W hSw
          obtain ⟨m0, m1, m2, m3, m4, m5, m6, m7, m8, m9, m10, m11⟩ := hSw
          go_simp
          try (with_reducible rfl)
        try simp only [List.getElem_toArray, List.getElem_cons_zero, List.getElem_cons_succ, Act.put, List.setIfInBounds_toArray, List.set_cons_zero, List.set_cons_succ]
        refine wt_take (i := 16) (v := ?_) HTK.out rfl (by decide) (by kernel_rfl) (by kernel_rfl) (fun _ _ _ h => h) (by exact ⟨q0, q1, q2, u0, u1, u2, v0, v1, v2, b0, b1, b2⟩) (Or.inl ⟨by rfl, ?_⟩) ?_
        rotate_left
        · intro W hSw
          obtain ⟨m0, m1, m2, m3, m4, m5, m6, m7, m8, m9, m10, m11⟩ := hSw
          go_simp
          try (with_reducible rfl)
        try simp only [List.getElem_toArray, List.getElem_cons_zero, List.getElem_cons_succ, Act.put, List.setIfInBounds_toArray, List.set_cons_zero, List.set_cons_succ]
        refine wt_take (i := 17) (v := ?_) HTK.out rfl (by decide) (by kernel_rfl) (by kernel_rfl) (fun _ _ _ h => h) (by exact ⟨q0, q1, q2, u0, u1, u2, v0, v1, v2, b0, b1, b2⟩) (Or.inl ⟨by rfl, ?_⟩) ?_
        rotate_left
        · intro W hSw
          obtain ⟨m0, m1, m2, m3, m4, m5, m6, m7, m8, m9, m10, m11⟩ := hSw
          go_simp
          try (with_reducible rfl)
        try simp only [List.getElem_toArray, List.getElem_cons_zero, List.getElem_cons_succ, Act.put, List.setIfInBounds_toArray, List.set_cons_zero, List.set_cons_succ]
        refine wt_take (i := 18) (v := ?_) HTK.out rfl (by decide) (by kernel_rfl) (by kernel_rfl) (fun _ _ _ h => h) (by exact ⟨q0, q1, q2, u0, u1, u2, v0, v1, v2, b0, b1, b2⟩) (Or.inl ⟨by rfl, ?_⟩) ?_
        rotate_left
        · intro W hSw
          obtain ⟨m0, m1, m2, m3, m4, m5, m6, m7, m8, m9, m10, m11⟩ := hSw
          go_simp
          try (with_reducible rfl)
        try simp only [List.getElem_toArray, List.getElem_cons_zero, List.getElem_cons_succ, Act.put, List.setIfInBounds_toArray, List.set_cons_zero, List.set_cons_succ]
        refine wt_take (i := 19) (v := ?_) HTK.out rfl (by decide) (by kernel_rfl) (by kernel_rfl) (fun _ _ _ h => h) (by exact ⟨q0, q1, q2, u0, u1, u2, v0, v1, v2, b0, b1, b2⟩) (Or.inl ⟨by rfl, ?_⟩) ?_
        rotate_left
        · intro W hSw
          obtain ⟨m0, m1, m2, m3, m4, m5, m6, m7, m8, m9, m10, m11⟩ := hSw
          go_simp
          try (with_reducible rfl)
        try simp only [List.getElem_toArray, List.getElem_cons_zero, List.getElem_cons_succ, Act.put, List.setIfInBounds_toArray, List.set_cons_zero, List.set_cons_succ]
        refine wt_take (i := 20) (v := ?_) HTK.out rfl (by decide) (by kernel_rfl) (by kernel_rfl) (fun _ _ _ h => h) (by exact ⟨q0, q1, q2, u0, u1, u2, v0, v1, v2, b0, b1, b2⟩) (Or.inl ⟨by rfl, ?_⟩) ?_
        rotate_left
        · intro W hSw
          obtain ⟨m0, m1, m2, m3, m4, m5, m6, m7, m8, m9, m10, m11⟩ := hSw
          go_simp
          try (with_reducible rfl)
        try simp only [List.getElem_toArray, List.getElem_cons_zero, List.getElem_cons_succ, Act.put, List.setIfInBounds_toArray, List.set_cons_zero, List.set_cons_succ]
        refine wt_take (i := 21) (v := ?_) HTK.out rfl (by decide) (by kernel_rfl) (by kernel_rfl) (fun _ _ _ h => h) (by exact ⟨q0, q1, q2, u0, u1, u2, v0, v1, v2, b0, b1, b2⟩) (Or.inl ⟨by rfl, ?_⟩) ?_
        rotate_left
        · intro W hSw
          obtain ⟨m0, m1, m2, m3, m4, m5, m6, m7, m8, m9, m10, m11⟩ := hSw
          go_simp
          try (with_reducible rfl)
        try simp only [List.getElem_toArray, List.getElem_cons_zero, List.getElem_cons_succ, Act.put, List.setIfInBounds_toArray, List.set_cons_zero, List.set_cons_succ]
        refine wt_take (i := 22) (v := ?_) HTK.out rfl (by decide) (by kernel_rfl) (by kernel_rfl) (fun _ _ _ h => h) (by exact ⟨q0, q1, q2, u0, u1, u2, v0, v1, v2, b0, b1, b2⟩) (Or.inl ⟨by rfl, ?_⟩) ?_
        rotate_left
        · intro W hSw
          obtain ⟨m0, m1, m2, m3, m4, m5, m6, m7, m8, m9, m10, m11⟩ := hSw
          go_simp
          try (with_reducible rfl)
        try simp only [List.getElem_toArray, List.getElem_cons_zero, List.getElem_cons_succ, Act.put, List.setIfInBounds_toArray, List.set_cons_zero, List.set_cons_succ]
        refine wt_take (i := 23) (v := ?_) HTK.out rfl (by decide) (by kernel_rfl) (by kernel_rfl) (fun _ _ _ h => h) (by exact ⟨q0, q1, q2, u0, u1, u2, v0, v1, v2, b0, b1, b2⟩) (Or.inl ⟨by rfl, ?_⟩) ?_
        rotate_left
        · intro W hSw
          obtain ⟨m0, m1, m2, m3, m4, m5, m6, m7, m8, m9, m10, m11⟩ := hSw
          go_simp
          try (with_reducible rfl)
        try simp only [List.getElem_toArray, List.getElem_cons_zero, List.getElem_cons_succ, Act.put, List.setIfInBounds_toArray, List.set_cons_zero, List.set_cons_succ]
        refine wt_take (i := 24) (v := ?_) HTK.out rfl (by decide) (by kernel_rfl) (by kernel_rfl) (fun _ _ _ h => h) (by exact ⟨q0, q1, q2, u0, u1, u2, v0, v1, v2, b0, b1, b2⟩) (Or.inl ⟨by rfl, ?_⟩) ?_
        rotate_left
        · intro W hSw
          obtain ⟨m0, m1, m2, m3, m4, m5, m6, m7, m8, m9, m10, m11⟩ := hSw
          go_simp
          try (with_reducible rfl)
        try simp only [List.getElem_toArray, List.getElem_cons_zero, List.getElem_cons_succ, Act.put, List.setIfInBounds_toArray, List.set_cons_zero, List.set_cons_succ]
        refine wt_take (i := 25) (v := ?_) HTK.out rfl (by decide) (by kernel_rfl) (by kernel_rfl) (fun _ _ _ h => h) (by exact ⟨q0, q1, q2, u0, u1, u2, v0, v1, v2, b0, b1, b2⟩) (Or.inl ⟨by rfl, ?_⟩) ?_
        rotate_left
        · intro W hSw
          obtain ⟨m0, m1, m2, m3, m4, m5, m6, m7, m8, m9, m10, m11⟩ := hSw
          go_simp
          try (with_reducible rfl)
        try simp only [List.getElem_toArray, List.getElem_cons_zero, List.getElem_cons_succ, Act.put, List.setIfInBounds_toArray, List.set_cons_zero, List.set_cons_succ]
        refine wt_take (i := 26) (v := ?_) HTK.out rfl (by decide) (by kernel_rfl) (by kernel_rfl) (fun _ _ _ h => h) (by exact ⟨q0, q1, q2, u0, u1, u2, v0, v1, v2, b0, b1, b2⟩) (Or.inl ⟨by rfl, ?_⟩) ?_
        rotate_left
        · intro W hSw
          obtain ⟨m0, m1, m2, m3, m4, m5, m6, m7, m8, m9, m10, m11⟩ := hSw
          go_simp
          try (with_reducible rfl)
        try simp only [List.getElem_toArray, List.getElem_cons_zero, List.getElem_cons_succ, Act.put, List.setIfInBounds_toArray, List.set_cons_zero, List.set_cons_succ]
        refine wt_take (i := 27) (v := ?_) HTK.out rfl (by decide) (by kernel_rfl) (by kernel_rfl) (fun _ _ _ h => h) (by exact ⟨q0, q1, q2, u0, u1, u2, v0, v1, v2, b0, b1, b2⟩) (Or.inl ⟨by rfl, ?_⟩) ?_
        rotate_left
        · intro W hSw
          obtain ⟨m0, m1, m2, m3, m4, m5, m6, m7, m8, m9, m10, m11⟩ := hSw
          go_simp
          try (with_reducible rfl)
        try simp only [List.getElem_toArray, List.getElem_cons_zero, List.getElem_cons_succ, Act.put, List.setIfInBounds_toArray, List.set_cons_zero, List.set_cons_succ]
        refine wt_take (i := 28) (v := ?_) HTK.out rfl (by decide) (by kernel_rfl) (by kernel_rfl) (fun _ _ _ h => h) (by exact ⟨q0, q1, q2, u0, u1, u2, v0, v1, v2, b0, b1, b2⟩) (Or.inl ⟨by rfl, ?_⟩) ?_
        rotate_left
        · intro W hSw
          obtain ⟨m0, m1, m2, m3, m4, m5, m6, m7, m8, m9, m10, m11⟩ := hSw
          go_simp
          try (with_reducible rfl)
        try simp only [List.getElem_toArray, List.getElem_cons_zero, List.getElem_cons_succ, Act.put, List.setIfInBounds_toArray, List.set_cons_zero, List.set_cons_succ]
        refine wt_take (i := 29) (v := ?_) HTK.out rfl (by decide) (by kernel_rfl) (by kernel_rfl) (fun _ _ _ h => h) (by exact ⟨q0, q1, q2, u0, u1, u2, v0, v1, v2, b0, b1, b2⟩) (Or.inl ⟨by rfl, ?_⟩) ?_
        rotate_left
        · intro W hSw
          obtain ⟨m0, m1, m2, m3, m4, m5, m6, m7, m8, m9, m10, m11⟩ := hSw
          go_simp
          try (with_reducible rfl)
        try simp only [List.getElem_toArray, List.getElem_cons_zero, List.getElem_cons_succ, Act.put, List.setIfInBounds_toArray, List.set_cons_zero, List.set_cons_succ]
        refine wt_take (i := 30) (v := ?_) HTK.out rfl (by decide) (by kernel_rfl) (by kernel_rfl) (fun _ _ _ h => h) (by exact ⟨q0, q1, q2, u0, u1, u2, v0, v1, v2, b0, b1, b2⟩) (Or.inl ⟨by rfl, ?_⟩) ?_
        rotate_left
        · intro W hSw
          obtain ⟨m0, m1, m2, m3, m4, m5, m6, m7, m8, m9, m10, m11⟩ := hSw
          go_simp
          try (with_reducible rfl)
        try simp only [List.getElem_toArray, List.getElem_cons_zero, List.getElem_cons_succ, Act.put, List.setIfInBounds_toArray, List.set_cons_zero, List.set_cons_succ]
        refine wt_take (i := 31) (v := ?_) HTK.out rfl (by decide) (by kernel_rfl) (by kernel_rfl) (fun _ _ _ h => h) (by exact ⟨q0, q1, q2, u0, u1, u2, v0, v1, v2, b0, b1, b2⟩) (Or.inl ⟨by rfl, ?_⟩) ?_
        rotate_left
        · intro W hSw
          obtain ⟨m0, m1, m2, m3, m4, m5, m6, m7, m8, m9, m10, m11⟩ := hSw
          go_simp
          try (with_reducible rfl)
        try simp only [List.getElem_toArray, List.getElem_cons_zero, List.getElem_cons_succ, Act.put, List.setIfInBounds_toArray, List.set_cons_zero, List.set_cons_succ]
        refine wt_take (i := 33) (v := ?_) HTK.out rfl (by decide) (by kernel_rfl) (by kernel_rfl) (fun _ _ _ h => h) (by exact ⟨q0, q1, q2, u0, u1, u2, v0, v1, v2, b0, b1, b2⟩) (Or.inl ⟨by rfl, ?_⟩) ?_
        rotate_left
        · intro W hSw
          obtain ⟨m0, m1, m2, m3, m4, m5, m6, m7, m8, m9, m10, m11⟩ := hSw
          go_simp
          try (with_reducible rfl)
        try simp only [List.getElem_toArray, List.getElem_cons_zero, List.getElem_cons_succ, Act.put, List.setIfInBounds_toArray, List.set_cons_zero, List.set_cons_succ]
        refine wt_take (i := 34) (v := ?_) HTK.out rfl (by decide) (by kernel_rfl) (by kernel_rfl) (fun _ _ _ h => h) (by exact ⟨q0, q1, q2, u0, u1, u2, v0, v1, v2, b0, b1, b2⟩) (Or.inl ⟨by rfl, ?_⟩) ?_
        rotate_left
        · intro W hSw
          obtain ⟨m0, m1, m2, m3, m4, m5, m6, m7, m8, m9, m10, m11⟩ := hSw
          go_simp
          try (with_reducible rfl)
        try simp only [List.getElem_toArray, List.getElem_cons_zero, List.getElem_cons_succ, Act.put, List.setIfInBounds_toArray, List.set_cons_zero, List.set_cons_succ]
        refine wt_take (i := 35) (v := ?_) HTK.out rfl (by decide) (by kernel_rfl) (by kernel_rfl) (fun _ _ _ h => h) (by exact ⟨q0, q1, q2, u0, u1, u2, v0, v1, v2, b0, b1, b2⟩) (Or.inl ⟨by rfl, ?_⟩) ?_
        rotate_left
        · intro W hSw
          obtain ⟨m0, m1, m2, m3, m4, m5, m6, m7, m8, m9, m10, m11⟩ := hSw
          go_simp
          try (with_reducible rfl)
        try simp only [List.getElem_toArray, List.getElem_cons_zero, List.getElem_cons_succ, Act.put, List.setIfInBounds_toArray, List.set_cons_zero, List.set_cons_succ]
        refine wt_ready (rs := [32]) (by kernel_rfl) (by simp) ?_
        refine AllT.cons rfl (by decide) (fun K hK => ?_) ?_
        · go_simp
          go_at_call 22
          refine (HOF.out w3.drew (HB1.out.trans (Hw3.out.1.drew.mono HB1.out.size)) yr).mono ?_
          rintro e w4 ⟨so, rfl, hro, hb4'⟩
          have hb4 : Below w3.heap.size w3 w4 := ⟨hb4'.os, hb4'.tape, hb4'.output, hb4'.size, hb4'.block⟩
          have hw4q := (hb4.block _ (blk_lt Hw3.out.2.1)).trans Hw3.out.2.1
          have hw4u := (hb4.block _ (blk_lt Hw3.out.2.2.1)).trans Hw3.out.2.2.1
          have hw4v := (hb4.block _ (blk_lt Hw3.out.2.2.2.1)).trans Hw3.out.2.2.2.1
          have hw4b := (hb4.block _ (blk_lt Hw3.out.2.2.2.2)).trans Hw3.out.2.2.2.2
          have q0 : w4.cell? ⟨wr.heap.size, 0, none⟩ = some _ := cell_at (j := 0) hw4q rfl
          have q1 : w4.cell? ⟨wr.heap.size, 1, none⟩ = some _ := cell_at (j := 1) hw4q rfl
          have q2 : w4.cell? ⟨wr.heap.size, 2, none⟩ = some _ := cell_at (j := 2) hw4q rfl
          have u0 : w4.cell? ⟨wr.heap.size + 1, 0, none⟩ = some _ := cell_at (j := 0) hw4u rfl
          have u1 : w4.cell? ⟨wr.heap.size + 1, 1, none⟩ = some _ := cell_at (j := 1) hw4u rfl
          have u2 : w4.cell? ⟨wr.heap.size + 1, 2, none⟩ = some _ := cell_at (j := 2) hw4u rfl
          have v0 : w4.cell? ⟨w2.heap.size, 0, none⟩ = some _ := cell_at (j := 0) hw4v rfl
          have v1 : w4.cell? ⟨w2.heap.size, 1, none⟩ = some _ := cell_at (j := 1) hw4v rfl
          have v2 : w4.cell? ⟨w2.heap.size, 2, none⟩ = some _ := cell_at (j := 2) hw4v rfl
          have b0 : w4.cell? ⟨w.heap.size, 0, none⟩ = some _ := cell_at (j := 0) hw4b rfl
          have b1 : w4.cell? ⟨w.heap.size, 1, none⟩ = some _ := cell_at (j := 1) hw4b rfl
          have b2 : w4.cell? ⟨w.heap.size, 2, none⟩ = some _ := cell_at (j := 2) hw4b rfl
          have Hw4 := Lib.hid (And.intro (Hw3.out.1.trans (hb4.mono Hw3.out.1.size)) (And.intro hw4q (And.intro hw4u (And.intro hw4v hw4b))))
          clear hw4q hw4u hw4v hw4b
          have HRO := Lib.hid hro
          clear hro hb4 hb4'
          refine hK.out _ _ (by exact ⟨q0, q1, q2, u0, u1, u2, v0, v1, v2, b0, b1, b2⟩) ?_
          clear hK K
          try simp only [List.getElem_toArray, List.getElem_cons_zero, List.getElem_cons_succ, Act.put, List.setIfInBounds_toArray, List.set_cons_zero, List.set_cons_succ]
          refine wt_ready (rs := [36]) (by kernel_rfl) (by simp) ?_
          refine AllT.cons rfl (by decide) (fun K hK => ?_) ?_
          · go_simp
            go_at_call 43
            refine (HROF.out w4 (HB1.out.trans (Hw4.out.1.mono HB1.out.size)) yr).mono ?_
            rintro e w5 ⟨sr, rfl, hrr, hb5⟩
            have hw5q := (hb5.block _ (blk_lt Hw4.out.2.1)).trans Hw4.out.2.1
            have hw5u := (hb5.block _ (blk_lt Hw4.out.2.2.1)).trans Hw4.out.2.2.1
            have hw5v := (hb5.block _ (blk_lt Hw4.out.2.2.2.1)).trans Hw4.out.2.2.2.1
            have hw5b := (hb5.block _ (blk_lt Hw4.out.2.2.2.2)).trans Hw4.out.2.2.2.2
            have q0 : w5.cell? ⟨wr.heap.size, 0, none⟩ = some _ := cell_at (j := 0) hw5q rfl
            have q1 : w5.cell? ⟨wr.heap.size, 1, none⟩ = some _ := cell_at (j := 1) hw5q rfl
            have q2 : w5.cell? ⟨wr.heap.size, 2, none⟩ = some _ := cell_at (j := 2) hw5q rfl
            have u0 : w5.cell? ⟨wr.heap.size + 1, 0, none⟩ = some _ := cell_at (j := 0) hw5u rfl
            have u1 : w5.cell? ⟨wr.heap.size + 1, 1, none⟩ = some _ := cell_at (j := 1) hw5u rfl
            have u2 : w5.cell? ⟨wr.heap.size + 1, 2, none⟩ = some _ := cell_at (j := 2) hw5u rfl
            have v0 : w5.cell? ⟨w2.heap.size, 0, none⟩ = some _ := cell_at (j := 0) hw5v rfl
            have v1 : w5.cell? ⟨w2.heap.size, 1, none⟩ = some _ := cell_at (j := 1) hw5v rfl
            have v2 : w5.cell? ⟨w2.heap.size, 2, none⟩ = some _ := cell_at (j := 2) hw5v rfl
            have b0 : w5.cell? ⟨w.heap.size, 0, none⟩ = some _ := cell_at (j := 0) hw5b rfl
            have b1 : w5.cell? ⟨w.heap.size, 1, none⟩ = some _ := cell_at (j := 1) hw5b rfl
            have b2 : w5.cell? ⟨w.heap.size, 2, none⟩ = some _ := cell_at (j := 2) hw5b rfl
            have Hw5 := Lib.hid (And.intro (Hw4.out.1.trans (hb5.mono Hw4.out.1.size)) (And.intro hw5q (And.intro hw5u (And.intro hw5v hw5b))))
            clear hw5q hw5u hw5v hw5b
            have HRO5 := Lib.hid (HRO.out.same hb5.size (fun g hg _ => hb5.block g hg))
            have HRR := Lib.hid hrr
            clear hrr hb5
            refine hK.out _ _ (by exact ⟨q0, q1, q2, u0, u1, u2, v0, v1, v2, b0, b1, b2⟩) ?_
            clear hK K
            try simp only [List.getElem_toArray, List.getElem_cons_zero, List.getElem_cons_succ, Act.put, List.setIfInBounds_toArray, List.set_cons_zero, List.set_cons_succ]
            refine wt_ready (rs := [37]) (by kernel_rfl) (by simp) ?_
            refine AllT.cons rfl (by decide) (fun K hK => ?_) ?_
            · go_simp
              go_at_call 42
              refine (strs_same w5 _ _ so sr _ HRO5.out HRR.out).mono ?_
              rintro e w6 ⟨rfl, hb6⟩
              have hw6q := (hb6.block _ (blk_lt Hw5.out.2.1)).trans Hw5.out.2.1
              have hw6u := (hb6.block _ (blk_lt Hw5.out.2.2.1)).trans Hw5.out.2.2.1
              have hw6v := (hb6.block _ (blk_lt Hw5.out.2.2.2.1)).trans Hw5.out.2.2.2.1
              have hw6b := (hb6.block _ (blk_lt Hw5.out.2.2.2.2)).trans Hw5.out.2.2.2.2
              have q0 : w6.cell? ⟨wr.heap.size, 0, none⟩ = some _ := cell_at (j := 0) hw6q rfl
              have q1 : w6.cell? ⟨wr.heap.size, 1, none⟩ = some _ := cell_at (j := 1) hw6q rfl
              have q2 : w6.cell? ⟨wr.heap.size, 2, none⟩ = some _ := cell_at (j := 2) hw6q rfl
              have u0 : w6.cell? ⟨wr.heap.size + 1, 0, none⟩ = some _ := cell_at (j := 0) hw6u rfl
              have u1 : w6.cell? ⟨wr.heap.size + 1, 1, none⟩ = some _ := cell_at (j := 1) hw6u rfl
              have u2 : w6.cell? ⟨wr.heap.size + 1, 2, none⟩ = some _ := cell_at (j := 2) hw6u rfl
              have v0 : w6.cell? ⟨w2.heap.size, 0, none⟩ = some _ := cell_at (j := 0) hw6v rfl
              have v1 : w6.cell? ⟨w2.heap.size, 1, none⟩ = some _ := cell_at (j := 1) hw6v rfl
              have v2 : w6.cell? ⟨w2.heap.size, 2, none⟩ = some _ := cell_at (j := 2) hw6v rfl
              have b0 : w6.cell? ⟨w.heap.size, 0, none⟩ = some _ := cell_at (j := 0) hw6b rfl
              have b1 : w6.cell? ⟨w.heap.size, 1, none⟩ = some _ := cell_at (j := 1) hw6b rfl
              have b2 : w6.cell? ⟨w.heap.size, 2, none⟩ = some _ := cell_at (j := 2) hw6b rfl
              have Hw6 := Lib.hid (And.intro (Hw5.out.1.trans (hb6.mono Hw5.out.1.size)) (And.intro hw6q (And.intro hw6u (And.intro hw6v hw6b))))
              clear hw6q hw6u hw6v hw6b
              clear hb6
              refine hK.out _ _ (by exact ⟨q0, q1, q2, u0, u1, u2, v0, v1, v2, b0, b1, b2⟩) ?_
              clear hK K
              try simp only [List.getElem_toArray, List.getElem_cons_zero, List.getElem_cons_succ, Act.put, List.setIfInBounds_toArray, List.set_cons_zero, List.set_cons_succ]
              refine wt_take (i := 38) (v := ?_) HTK.out rfl (by decide) (by kernel_rfl) (by kernel_rfl) (fun _ _ _ h => h) (by exact ⟨q0, q1, q2, u0, u1, u2, v0, v1, v2, b0, b1, b2⟩) (Or.inl ⟨by rfl, ?_⟩) ?_
              rotate_left
              · intro W hSw
                obtain ⟨m0, m1, m2, m3, m4, m5, m6, m7, m8, m9, m10, m11⟩ := hSw
                go_simp
                try (with_reducible rfl)
              try simp only [List.getElem_toArray, List.getElem_cons_zero, List.getElem_cons_succ, Act.put, List.setIfInBounds_toArray, List.set_cons_zero, List.set_cons_succ]
              refine wt_last (k := 39) (by kernel_rfl) (by kernel_rfl) (by decide) rfl (fun K hK => ?_)
              go_simp
              refine hK.out _ _ ?_
              clear hK K
              try simp only [List.getElem_toArray, List.getElem_cons_zero, List.getElem_cons_succ, Act.put, List.setIfInBounds_toArray, List.set_cons_zero, List.set_cons_succ]
              go_wp2_with fail
              exact ⟨⟨i + 1, by omega, by go_num, Hw6.out.1⟩, by simp [intOf]; omega⟩
            exact AllT.nil
          exact AllT.nil
        exact AllT.nil
      · obtain rfl : i = l.length := by omega
        have HB := Lib.hid hb
        clear hb
        go_wp2_with fail
        go_ret
        exact ⟨rfl, HB1.out.trans (HB.out.mono HB1.out.size)⟩
  exact AllT.nil
end Go.Proofs.YtgnoaeldmpbjmaaGreatDoor
