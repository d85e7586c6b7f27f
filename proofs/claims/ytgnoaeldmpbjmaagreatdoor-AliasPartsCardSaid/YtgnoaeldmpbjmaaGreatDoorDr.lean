/- An act, with a table and the document's: both answer alike. -/
import Derived.Test.YtgnoaeldmpbjmaaGreatDoorDq
import Derived.Test.YtgnoaeldmpbjmaaGreatDoorWt
set_option linter.unusedVariables false
set_option linter.unusedSimpArgs false
namespace Go.Proofs.YtgnoaeldmpbjmaaGreatDoor
open Go.RowKit Go.Maps Go.Sort

/-- A table and the document's have one list. -/
structure Both (P : Nat → Prop) (w0 : World) (g b : Nat) (server : ByteArray) (most : Int) (l : List En) (s : Sl) (w : World) : Prop where
  t : Tab w g b server most l
  r : RowOf w P 105 3 s (rowsE l)
  hP : ∀ i, P i → i ≠ b
  bel : Below w0.heap.size w0 w
  hg : w0.heap.size ≤ g
  hb : w0.heap.size ≤ b
theorem Both.below {P : Nat → Prop} {w0 w w' : World} {g b : Nat} {server : ByteArray} {most : Int} {l : List En} {s : Sl} (h : Both P w0 g b server most l s w) (k : Below w.heap.size w w') : Both P w0 g b server most l s w' :=
  ⟨h.t.below k, h.r.same k.size (fun g hg _ => k.block g hg), h.hP, h.bel.trans (k.mono h.bel.size), h.hg, h.hb⟩
theorem Below.of_fr {B : Nat} {S : Nat → Prop} {w0 w w' : World} (h : Below B w0 w) (k : Fr S w w') (hB : B ≤ w.heap.size) (hS : ∀ i, S i → B ≤ i) : Below B w0 w' :=
  h.trans (k.to_below hB (fun i hi e => by have := hS i e; omega))
theorem eCells_form (x : Er) : ∃ c q, eCells x = #[.int .i64 c, .int .i64 (-1), .string q] := by
  cases x with
  | none => exact ⟨_, _, rfl⟩
  | some x => exact ⟨_, _, rfl⟩
theorem drop_path (l : List En) (k by_ : ByteArray) (may : Bool) : (pathOf (dropErr l k by_ may)).length ≤ 1000000 := by
  unfold dropErr
  split
  · simp [pathOf, pathL]
  · split <;> simp [pathOf, pathL]
theorem add_path (server : ByteArray) (most : Int) (l : List En) (k room by_ : ByteArray) : (pathOf (addErr server most l k room by_)).length ≤ 1000000 := by
  unfold addErr
  repeat' split
  all_goals simp [pathOf, pathL]
theorem far3 {w : World} {g p q r : Nat} {x y z x0 x1 x2 y0 y1 y2 z0 z1 z2 : Value} {i j k : Nat} (hp : p ≠ g) (hq : q ≠ g) (hr : r ≠ g)
    (h : w.cell? ⟨p, 0, none⟩ = some x0 ∧ w.cell? ⟨p, 1, none⟩ = some x1 ∧ w.cell? ⟨p, 2, none⟩ = some x2 ∧ w.cell? ⟨q, i, none⟩ = some y0 ∧ w.cell? ⟨q, j, none⟩ = some y1 ∧ w.cell? ⟨q, k, none⟩ = some y2 ∧ w.cell? ⟨r, 0, none⟩ = some z0 ∧ w.cell? ⟨r, 1, none⟩ = some z1 ∧ w.cell? ⟨r, 2, none⟩ = some z2) :
    (row3 w g x y z).cell? ⟨p, 0, none⟩ = some x0 ∧ (row3 w g x y z).cell? ⟨p, 1, none⟩ = some x1 ∧ (row3 w g x y z).cell? ⟨p, 2, none⟩ = some x2 ∧ (row3 w g x y z).cell? ⟨q, i, none⟩ = some y0 ∧ (row3 w g x y z).cell? ⟨q, j, none⟩ = some y1 ∧ (row3 w g x y z).cell? ⟨q, k, none⟩ = some y2 ∧ (row3 w g x y z).cell? ⟨r, 0, none⟩ = some z0 ∧ (row3 w g x y z).cell? ⟨r, 1, none⟩ = some z1 ∧ (row3 w g x y z).cell? ⟨r, 2, none⟩ = some z2 := by
  have e : ∀ (b n : Nat), b ≠ g → (row3 w g x y z).cell? ⟨b, n, none⟩ = w.cell? ⟨b, n, none⟩ := fun b n hb => by
    unfold row3
    rw [World.cell?_setCell_other _ _ _ _ (fun h => hb (by injection h with h1; exact h1.symm)), World.cell?_setCell_other _ _ _ _ (fun h => hb (by injection h with h1; exact h1.symm)), World.cell?_setCell_other _ _ _ _ (fun h => hb (by injection h with h1; exact h1.symm))]
  rw [e p 0 hp, e p 1 hp, e p 2 hp, e q i hq, e q j hq, e q k hq, e r 0 hr, e r 1 hr, e r 2 hr]
  exact h
theorem Fr.row3 {S : Nat → Prop} {a b : World} {z : Nat} {x y v : Value} (h : Fr S a b) (hz : a.heap.size ≤ z) : Fr S a (row3 b z x y v) :=
  ⟨by rw [← h.os]; simp [World.setCell], by rw [← h.tape]; simp [World.setCell], by rw [← h.output]; simp [World.setCell], by have := h.size; simpa [World.setCell] using this, fun k hk hS => (row3_other (by omega)).trans (h.block k hk hS)⟩
def doErr (server : ByteArray) (most : Int) (l : List En) (x : Ac) : Er := if x.drop then dropErr l x.a x.b x.may else addErr server most l x.a x.r x.b
def doL (server : ByteArray) (most : Int) (l : List En) (x : Ac) : List En := if x.drop then dropL l x.a x.b x.may else addL server most l x.a x.r x.b
theorem rise_do {l : List En} (h : RiseE l) (server : ByteArray) (most : Int) (x : Ac) : RiseE (doL server most l x) := by
  unfold doL
  split
  · exact rise_drop h _ _ _
  · exact rise_add h _ _ _
theorem doL_length (server : ByteArray) (most : Int) (l : List En) (x : Ac) : (doL server most l x).length ≤ l.length + 1 := by
  unfold doL
  split
  · have := dropL_length l x.a x.b x.may; omega
  · exact addL_length server most l x.a x.r x.b

set_option maxRecDepth 100000 in
set_option maxHeartbeats 4000000 in
theorem do_drop (P : Nat → Prop) (w0 w : World) (g b : Nat) (server : ByteArray) (most : Int) (l : List En) (s : Sl) (may : Bool) (a room by_ : ByteArray) (hB : Both P w0 g b server most l s w) (he : Et w0) (hm : Mx w0) (hl : RiseE l) (hn : l.length < 1000000)
    (ha : a.size < 4294967281) (hro : room.size < 4294967281) (hby : by_.size < 4294967281) :
    Calls Tryz.prog 11 #[.pointer (some ⟨g, 0, none⟩), .agg (tCells server most s), .agg #[.bool true, .bool may, .string a, .string room, .string by_]] w fun e w' => ∃ s' : Sl, e = .returned (.tuple #[.agg (tCells server most s'), .bool true]) ∧ Both (fun i => P i ∨ w.heap.size ≤ i) w0 g b server most (dropL l a by_ may) s' w' ∧ Fr (fun i => i = b) w w' := by
  have hep := he.pos
  have hmp := hm.pos
  obtain ⟨A, n, c⟩ := s
  have hgl := blk_lt hB.t.blk
  have hbl := hB.t.mp.lt
  have hgb := hB.t.ne
  have HB := Lib.hid hB
  have HR := Lib.hid (fun (W : World) (h : Below w.heap.size w W) => rdrop_calls W server most ⟨A, n, c⟩ (fun i => P i ∧ i < w.heap.size) l a by_ may (((hB.r.mono (Q := fun i => P i ∧ i < w.heap.size) fun i hi h => ⟨h, hi⟩).same h.size (fun g hg _ => h.block g hg))) (by omega) hl)
  have HT := Lib.hid (fun (W : World) (h : Tab W g b server most l) (hw : Below w0.heap.size w0 W) => tdrop_calls W g b server most l a by_ may h (by unfold maxLen; omega))
  have HE := Lib.hid (fun (W : World) (v : Value) (Q : Nat → Prop) (hw : Below w0.heap.size w0 W) (hv : ErrV W Q v (dropErr l a by_ may)) => tell_calls W Q v _ hv (he.below hw hep) (drop_path l a by_ may))
  have hws := hB.bel.size
  have hg0 := hB.hg
  have hb0 := hB.hb
  have hP := hB.hP
  clear hB he hm hl hn ha hro hby
  simp only [tCells, Sl.val] at *
  go_enter Tryz.func11, Tryz.ntmps11
  go_wp2_with fail
  have hL3 : Below w.heap.size w (((w.alloc (.cells #[.string server, .int .i64 most, .slice A n c] 34)).alloc (.cells #[.bool true, .bool may, .string a, .string room, .string by_] 40)).alloc (.cells TZ 34)) := (((Below.refl _ _).alloc (Nat.le_refl _) _).alloc (by simp) _).alloc (by simp <;> omega) _
  have hA3 : (((w.alloc (.cells #[.string server, .int .i64 most, .slice A n c] 34)).alloc (.cells #[.bool true, .bool may, .string a, .string room, .string by_] 40)).alloc (.cells TZ 34)).heap[w.heap.size + 1]? = some (.cells #[.bool true, .bool may, .string a, .string room, .string by_] 40 (0, 0)) := (heap_old_at _ _ _ (by simp)).trans (heap_new_at _ _ _ (by simp))
  have hZ3 : (((w.alloc (.cells #[.string server, .int .i64 most, .slice A n c] 34)).alloc (.cells #[.bool true, .bool may, .string a, .string room, .string by_] 40)).alloc (.cells TZ 34)).heap[w.heap.size + 1 + 1]? = some (.cells TZ 34 (0, 0)) := heap_new_at _ _ _ (by simp)
  refine (HR.out _ hL3).mono ?_
  rintro e w1 ⟨⟨sa, sn, sc⟩, rfl, hro, hb⟩
  have hw1 : w.heap.size + 1 + 1 + 1 ≤ w1.heap.size := by have := hb.size; simpa using this
  have hbw : Below w.heap.size w w1 := hL3.trans (hb.mono (by simp; omega))
  have ha1 := (hb.block _ (blk_lt hA3)).trans hA3
  have hz1 := (hb.block _ (blk_lt hZ3)).trans hZ3
  have hr1 : RowOf w1 (fun i => (P i ∧ i < w.heap.size) ∨ w.heap.size + 1 + 1 + 1 ≤ i) 105 3 ⟨sa, sn, sc⟩ (rowsE (dropL l a by_ may)) := hro.mono fun i _ h => h.imp id (fun h => by simpa using h)
  have H1 := Lib.hid (And.intro hbw (And.intro ha1 (And.intro hz1 hr1)))
  clear hL3 hA3 hZ3 hro hb hbw ha1 hz1 hr1 HR
  obtain ⟨ec, ep, hec⟩ := eCells_form (dropErr l a by_ may)
  simp only [erV, hec]
  have HEC := Lib.hid hec
  clear hec
  have ax : w1.cell? ⟨w.heap.size + 1, 0, none⟩ = some _ := cell_at H1.out.2.1 rfl
  go_wp2_with fail
  have hn2 : ((w1.alloc (.cells #[.string server, .int .i64 most, .slice sa sn sc] 34)).alloc (.cells #[.int .i64 ec, .int .i64 (-1), .string ep] 36)).heap[w1.heap.size]? = some (.cells #[.string server, .int .i64 most, .slice sa sn sc] 34 (0, 0)) := (heap_old_at _ _ _ (by simp)).trans (heap_new_at _ _ _ rfl)
  have he2 : ((w1.alloc (.cells #[.string server, .int .i64 most, .slice sa sn sc] 34)).alloc (.cells #[.int .i64 ec, .int .i64 (-1), .string ep] 36)).heap[w1.heap.size + 1]? = some (.cells #[.int .i64 ec, .int .i64 (-1), .string ep] 36 (0, 0)) := heap_new_at _ _ _ (by simp)
  have hz2 : ((w1.alloc (.cells #[.string server, .int .i64 most, .slice sa sn sc] 34)).alloc (.cells #[.int .i64 ec, .int .i64 (-1), .string ep] 36)).heap[w.heap.size + 1 + 1]? = some (.cells TZ 34 (0, 0)) := (heap_old_at _ _ _ (by simp; omega)).trans ((heap_old_at _ _ _ (by omega)).trans H1.out.2.2.1)
  have ha2 : ((w1.alloc (.cells #[.string server, .int .i64 most, .slice sa sn sc] 34)).alloc (.cells #[.int .i64 ec, .int .i64 (-1), .string ep] 36)).heap[w.heap.size + 1]? = some (.cells #[.bool true, .bool may, .string a, .string room, .string by_] 40 (0, 0)) := (heap_old_at _ _ _ (by simp; omega)).trans ((heap_old_at _ _ _ (by omega)).trans H1.out.2.1)
  have hb2 : Below w.heap.size w ((w1.alloc (.cells #[.string server, .int .i64 most, .slice sa sn sc] 34)).alloc (.cells #[.int .i64 ec, .int .i64 (-1), .string ep] 36)) := (H1.out.1.alloc (by omega) _).alloc (by simp; omega) _
  have hs2 : w1.heap.size + 1 < ((w1.alloc (.cells #[.string server, .int .i64 most, .slice sa sn sc] 34)).alloc (.cells #[.int .i64 ec, .int .i64 (-1), .string ep] 36)).heap.size := by simp
  have hr2 : RowOf ((w1.alloc (.cells #[.string server, .int .i64 most, .slice sa sn sc] 34)).alloc (.cells #[.int .i64 ec, .int .i64 (-1), .string ep] 36)) (fun i => (P i ∧ i < w.heap.size) ∨ w.heap.size + 1 + 1 + 1 ≤ i) 105 3 ⟨sa, sn, sc⟩ (rowsE (dropL l a by_ may)) := H1.out.2.2.2.same (by simp; omega) (fun i hi _ => (heap_old_at _ _ _ (by simp; omega)).trans (heap_old_at _ _ _ hi))
  generalize ((w1.alloc (.cells #[.string server, .int .i64 most, .slice sa sn sc] 34)).alloc (.cells #[.int .i64 ec, .int .i64 (-1), .string ep] 36)) = w2 at *
  have n0 : w2.cell? ⟨w1.heap.size, 0, none⟩ = some _ := cell_at (j := 0) hn2 rfl
  have n1 : w2.cell? ⟨w1.heap.size, 1, none⟩ = some _ := cell_at (j := 1) hn2 rfl
  have n2 : w2.cell? ⟨w1.heap.size, 2, none⟩ = some _ := cell_at (j := 2) hn2 rfl
  have a1 : w2.cell? ⟨w.heap.size + 1, 1, none⟩ = some _ := cell_at (j := 1) ha2 rfl
  have a2 : w2.cell? ⟨w.heap.size + 1, 2, none⟩ = some _ := cell_at (j := 2) ha2 rfl
  have a4 : w2.cell? ⟨w.heap.size + 1, 4, none⟩ = some _ := cell_at (j := 4) ha2 rfl
  have e0 : w2.cell? ⟨w1.heap.size + 1, 0, none⟩ = some _ := cell_at (j := 0) he2 rfl
  have e1 : w2.cell? ⟨w1.heap.size + 1, 1, none⟩ = some _ := cell_at (j := 1) he2 rfl
  have e2 : w2.cell? ⟨w1.heap.size + 1, 2, none⟩ = some _ := cell_at (j := 2) he2 rfl
  have z0 : w2.cell? ⟨w.heap.size + 1 + 1, 0, none⟩ = some _ := cell_at (j := 0) hz2 rfl
  have z1 : w2.cell? ⟨w.heap.size + 1 + 1, 1, none⟩ = some _ := cell_at (j := 1) hz2 rfl
  have z2 : w2.cell? ⟨w.heap.size + 1 + 1, 2, none⟩ = some _ := cell_at (j := 2) hz2 rfl
  have zz : ∀ j, w2.frozen? ⟨w.heap.size + 1 + 1, j, none⟩ = false := fun j => frozen_at hz2
  have H2 := Lib.hid (And.intro hb2 (And.intro hn2 (And.intro he2 (And.intro hz2 hr2))))
  have HA2 := Lib.hid ha2
  clear hb2 hn2 he2 hz2 ha2 hr2 ax H1
  have HTB := Lib.hid (show Tab w2 g b server most l from (HB.out.below H2.out.1).t)
  have HBL := Lib.hid (show Below w0.heap.size w0 w2 from (HB.out.below H2.out.1).bel)
  refine wt_start (S := fun W => W.cell? ⟨w1.heap.size, 0, none⟩ = some (.string server) ∧ W.cell? ⟨w1.heap.size, 1, none⟩ = some (.int .i64 most) ∧ W.cell? ⟨w1.heap.size, 2, none⟩ = some (.slice sa sn sc) ∧ W.cell? ⟨w.heap.size + 1, 1, none⟩ = some (.bool may) ∧ W.cell? ⟨w.heap.size + 1, 2, none⟩ = some (.string a) ∧ W.cell? ⟨w.heap.size + 1, 4, none⟩ = some (.string by_) ∧ W.cell? ⟨w1.heap.size + 1, 0, none⟩ = some (.int .i64 ec) ∧ W.cell? ⟨w1.heap.size + 1, 1, none⟩ = some (.int .i64 (-1)) ∧ W.cell? ⟨w1.heap.size + 1, 2, none⟩ = some (.string ep)) 13 (by kernel_rfl) ⟨by kernel_rfl, by kernel_rfl, by kernel_rfl, by decide⟩ ?_
  intro HTK
  refine wt_take (i := 1) (v := ?_) HTK.out rfl (by decide) (by kernel_rfl) (by kernel_rfl) (fun _ _ _ h => h) (by exact ⟨n0, n1, n2, a1, a2, a4, e0, e1, e2⟩) (Or.inl ⟨by rfl, ?_⟩) ?_
  rotate_left
  · intro W hSw
    obtain ⟨m0, m1, m2, m3, m4, m5, m6, m7, m8⟩ := hSw
    go_simp
    try (with_reducible rfl)
  try simp only [Act.put, List.setIfInBounds_toArray, List.set_cons_zero, List.set_cons_succ]
  refine wt_take (i := 2) (v := ?_) HTK.out rfl (by decide) (by kernel_rfl) (by kernel_rfl) (fun _ _ _ h => h) (by exact ⟨n0, n1, n2, a1, a2, a4, e0, e1, e2⟩) (Or.inl ⟨by rfl, ?_⟩) ?_
  rotate_left
  · intro W hSw
    obtain ⟨m0, m1, m2, m3, m4, m5, m6, m7, m8⟩ := hSw
    go_simp
    try (with_reducible rfl)
  try simp only [Act.put, List.setIfInBounds_toArray, List.set_cons_zero, List.set_cons_succ]
  refine wt_take (i := 4) (v := ?_) HTK.out rfl (by decide) (by kernel_rfl) (by kernel_rfl) (fun _ _ _ h => h) (by exact ⟨n0, n1, n2, a1, a2, a4, e0, e1, e2⟩) (Or.inl ⟨by rfl, ?_⟩) ?_
  rotate_left
  · intro W hSw
    obtain ⟨m0, m1, m2, m3, m4, m5, m6, m7, m8⟩ := hSw
    go_simp
    try (with_reducible rfl)
  try simp only [Act.put, List.setIfInBounds_toArray, List.set_cons_zero, List.set_cons_succ]
  refine wt_take (i := 6) (v := ?_) HTK.out rfl (by decide) (by kernel_rfl) (by kernel_rfl) (fun _ _ _ h => h) (by exact ⟨n0, n1, n2, a1, a2, a4, e0, e1, e2⟩) (Or.inl ⟨by rfl, ?_⟩) ?_
  rotate_left
  · intro W hSw
    obtain ⟨m0, m1, m2, m3, m4, m5, m6, m7, m8⟩ := hSw
    go_simp
    try (with_reducible rfl)
  try simp only [Act.put, List.setIfInBounds_toArray, List.set_cons_zero, List.set_cons_succ]
  refine wt_take (i := 0) (v := ?_) HTK.out rfl (by decide) (by kernel_rfl) (by kernel_rfl) (fun _ _ _ h => h) (by exact ⟨n0, n1, n2, a1, a2, a4, e0, e1, e2⟩) (Or.inl ⟨by rfl, ?_⟩) ?_
  rotate_left
  · intro W hSw
    obtain ⟨m0, m1, m2, m3, m4, m5, m6, m7, m8⟩ := hSw
    go_simp
    try (with_reducible rfl)
  try simp only [Act.put, List.setIfInBounds_toArray, List.set_cons_zero, List.set_cons_succ]
  refine wt_take (i := 3) (v := ?_) HTK.out rfl (by decide) (by kernel_rfl) (by kernel_rfl) (fun _ _ _ h => h) (by exact ⟨n0, n1, n2, a1, a2, a4, e0, e1, e2⟩) (Or.inl ⟨by rfl, ?_⟩) ?_
  rotate_left
  · intro W hSw
    obtain ⟨m0, m1, m2, m3, m4, m5, m6, m7, m8⟩ := hSw
    go_simp
    try (with_reducible rfl)
  try simp only [Act.put, List.setIfInBounds_toArray, List.set_cons_zero, List.set_cons_succ]
  refine wt_take (i := 5) (v := ?_) HTK.out rfl (by decide) (by kernel_rfl) (by kernel_rfl) (fun _ _ _ h => h) (by exact ⟨n0, n1, n2, a1, a2, a4, e0, e1, e2⟩) (Or.inl ⟨by rfl, ?_⟩) ?_
  rotate_left
  · intro W hSw
    obtain ⟨m0, m1, m2, m3, m4, m5, m6, m7, m8⟩ := hSw
    go_simp
    try (with_reducible rfl)
  try simp only [Act.put, List.setIfInBounds_toArray, List.set_cons_zero, List.set_cons_succ]
  refine wt_take (i := 7) (v := ?_) HTK.out rfl (by decide) (by kernel_rfl) (by kernel_rfl) (fun _ _ _ h => h) (by exact ⟨n0, n1, n2, a1, a2, a4, e0, e1, e2⟩) (Or.inl ⟨by rfl, ?_⟩) ?_
  rotate_left
  · intro W hSw
    obtain ⟨m0, m1, m2, m3, m4, m5, m6, m7, m8⟩ := hSw
    go_simp
    try (with_reducible rfl)
  try simp only [Act.put, List.setIfInBounds_toArray, List.set_cons_zero, List.set_cons_succ]
  refine wt_take (i := 10) (v := ?_) HTK.out rfl (by decide) (by kernel_rfl) (by kernel_rfl) (fun _ _ _ h => h) (by exact ⟨n0, n1, n2, a1, a2, a4, e0, e1, e2⟩) (Or.inl ⟨by rfl, ?_⟩) ?_
  rotate_left
  · intro W hSw
    obtain ⟨m0, m1, m2, m3, m4, m5, m6, m7, m8⟩ := hSw
    go_simp
    try (with_reducible rfl)
  try simp only [Act.put, List.setIfInBounds_toArray, List.set_cons_zero, List.set_cons_succ]
  refine wt_ready (rs := [8]) (by kernel_rfl) (by simp) ?_
  refine AllT.cons rfl (by decide) (fun K hK => ?_) ?_
  · go_simp
    go_at_call 33
    refine (HT.out w2.drew (HTB.out.same rfl rfl) HBL.out.drew).mono ?_
    rintro e w3 ⟨v, rfl, hv, ht3, hfr⟩
    have hf : ∀ i o, w2.heap[i]? = some o → i ≠ b → w3.heap[i]? = some o := fun i o h hi => (hfr.block i (blk_lt h) hi).trans h
    have h3n := hf _ _ H2.out.2.1 (by omega)
    have h3e := hf _ _ H2.out.2.2.1 (by omega)
    have h3z := hf _ _ H2.out.2.2.2.1 (by omega)
    have h3a := hf _ _ HA2.out (by omega)
    have n0 : w3.cell? ⟨w1.heap.size, 0, none⟩ = some _ := cell_at (j := 0) h3n rfl
    have n1 : w3.cell? ⟨w1.heap.size, 1, none⟩ = some _ := cell_at (j := 1) h3n rfl
    have n2 : w3.cell? ⟨w1.heap.size, 2, none⟩ = some _ := cell_at (j := 2) h3n rfl
    have a1 : w3.cell? ⟨w.heap.size + 1, 1, none⟩ = some _ := cell_at (j := 1) h3a rfl
    have a2 : w3.cell? ⟨w.heap.size + 1, 2, none⟩ = some _ := cell_at (j := 2) h3a rfl
    have a4 : w3.cell? ⟨w.heap.size + 1, 4, none⟩ = some _ := cell_at (j := 4) h3a rfl
    have e0 : w3.cell? ⟨w1.heap.size + 1, 0, none⟩ = some _ := cell_at (j := 0) h3e rfl
    have e1 : w3.cell? ⟨w1.heap.size + 1, 1, none⟩ = some _ := cell_at (j := 1) h3e rfl
    have e2 : w3.cell? ⟨w1.heap.size + 1, 2, none⟩ = some _ := cell_at (j := 2) h3e rfl
    have z0 : w3.cell? ⟨w.heap.size + 1 + 1, 0, none⟩ = some _ := cell_at (j := 0) h3z rfl
    have z1 : w3.cell? ⟨w.heap.size + 1 + 1, 1, none⟩ = some _ := cell_at (j := 1) h3z rfl
    have z2 : w3.cell? ⟨w.heap.size + 1 + 1, 2, none⟩ = some _ := cell_at (j := 2) h3z rfl
    have zz : ∀ j, w3.frozen? ⟨w.heap.size + 1 + 1, j, none⟩ = false := fun j => frozen_at h3z
    have hr3 : RowOf w3 (fun i => (P i ∧ i < w.heap.size) ∨ w.heap.size + 1 + 1 + 1 ≤ i) 105 3 ⟨sa, sn, sc⟩ (rowsE (dropL l a by_ may)) := H2.out.2.2.2.2.same hfr.size (fun i hi h => hfr.block i hi (by show ¬ i = b; rcases h with h | h; (exact hP _ h.1); omega))
    have hb3 : Below w0.heap.size w0 w3 := Below.of_fr HBL.out.drew hfr (by have := HBL.out.size; simpa using this) (fun i hi => by omega)
    have H3 := Lib.hid (And.intro ht3 (And.intro hr3 (And.intro hb3 (And.intro h3n (And.intro h3e (And.intro h3z h3a))))))
    have HV := Lib.hid hv
    have HS3 := Lib.hid hfr.size
    have HF3 := Lib.hid (show Fr (fun i => i = b) w w3 from (Fr.of_below H2.out.1.drew).trans hfr)
    clear hv ht3 hfr hf h3n h3e h3z h3a hr3 hb3
    refine hK.out _ _ (by exact ⟨n0, n1, n2, a1, a2, a4, e0, e1, e2⟩) ?_
    clear hK K
    try simp only [Act.put, List.setIfInBounds_toArray, List.set_cons_zero, List.set_cons_succ]
    refine wt_ready (rs := [9]) (by kernel_rfl) (by simp) ?_
    refine AllT.cons rfl (by decide) (fun K hK => ?_) ?_
    · go_simp
      go_at_call 17
      refine (HE.out _ v _ H3.out.2.2.1 HV.out).mono ?_
      rintro e w4 ⟨rfl, hb4⟩
      have hf : ∀ i o, w3.heap[i]? = some o → w4.heap[i]? = some o := fun i o h => (hb4.block i (blk_lt h)).trans h
      have h4n := hf _ _ H3.out.2.2.2.1
      have h4e := hf _ _ H3.out.2.2.2.2.1
      have h4z := hf _ _ H3.out.2.2.2.2.2.1
      have h4a := hf _ _ H3.out.2.2.2.2.2.2
      have n0 : w4.cell? ⟨w1.heap.size, 0, none⟩ = some _ := cell_at (j := 0) h4n rfl
      have n1 : w4.cell? ⟨w1.heap.size, 1, none⟩ = some _ := cell_at (j := 1) h4n rfl
      have n2 : w4.cell? ⟨w1.heap.size, 2, none⟩ = some _ := cell_at (j := 2) h4n rfl
      have a1 : w4.cell? ⟨w.heap.size + 1, 1, none⟩ = some _ := cell_at (j := 1) h4a rfl
      have a2 : w4.cell? ⟨w.heap.size + 1, 2, none⟩ = some _ := cell_at (j := 2) h4a rfl
      have a4 : w4.cell? ⟨w.heap.size + 1, 4, none⟩ = some _ := cell_at (j := 4) h4a rfl
      have e0 : w4.cell? ⟨w1.heap.size + 1, 0, none⟩ = some _ := cell_at (j := 0) h4e rfl
      have e1 : w4.cell? ⟨w1.heap.size + 1, 1, none⟩ = some _ := cell_at (j := 1) h4e rfl
      have e2 : w4.cell? ⟨w1.heap.size + 1, 2, none⟩ = some _ := cell_at (j := 2) h4e rfl
      have z0 : w4.cell? ⟨w.heap.size + 1 + 1, 0, none⟩ = some _ := cell_at (j := 0) h4z rfl
      have z1 : w4.cell? ⟨w.heap.size + 1 + 1, 1, none⟩ = some _ := cell_at (j := 1) h4z rfl
      have z2 : w4.cell? ⟨w.heap.size + 1 + 1, 2, none⟩ = some _ := cell_at (j := 2) h4z rfl
      have zz : ∀ j, w4.frozen? ⟨w.heap.size + 1 + 1, j, none⟩ = false := fun j => frozen_at h4z
      have hr4 : RowOf w4 (fun i => (P i ∧ i < w.heap.size) ∨ w.heap.size + 1 + 1 + 1 ≤ i) 105 3 ⟨sa, sn, sc⟩ (rowsE (dropL l a by_ may)) := H3.out.2.1.same hb4.size (fun i hi _ => hb4.block i hi)
      have H4 := Lib.hid (And.intro (H3.out.1.below hb4) (And.intro hr4 (And.intro (H3.out.2.2.1.trans (hb4.mono (by have := HBL.out.size; have := HS3.out; simp at *; omega))) (And.intro h4z (by have := hb4.size; have := HS3.out; simp at *; omega : w2.heap.size ≤ w4.heap.size)))))
      have HF4 := Lib.hid (HF3.out.trans (Fr.of_below hb4))
      clear hb4 hf h4n h4e h4z h4a hr4
      simp only [erV, HEC.out]
      refine hK.out _ _ (by exact ⟨n0, n1, n2, a1, a2, a4, e0, e1, e2⟩) ?_
      clear hK K
      try simp only [Act.put, List.setIfInBounds_toArray, List.set_cons_zero, List.set_cons_succ]
      refine wt_take (i := 11) (v := ?_) HTK.out rfl (by decide) (by kernel_rfl) (by kernel_rfl) (fun _ _ _ h => h) (by exact ⟨n0, n1, n2, a1, a2, a4, e0, e1, e2⟩) (Or.inl ⟨by rfl, ?_⟩) ?_
      rotate_left
      · intro W hSw
        obtain ⟨m0, m1, m2, m3, m4, m5, m6, m7, m8⟩ := hSw
        go_simp
        try (with_reducible rfl)
      try simp only [Act.put, List.setIfInBounds_toArray, List.set_cons_zero, List.set_cons_succ]
      refine wt_ready (rs := [12]) (by kernel_rfl) (by simp) ?_
      refine AllT.cons rfl (by decide) (fun K hK => ?_) ?_
      · go_simp
        refine hK.out _ _ (by exact far3 (by omega) (by omega) (by omega) (by exact ⟨n0, n1, n2, a1, a2, a4, e0, e1, e2⟩)) ?_
        clear hK K
        try simp only [Act.put, List.setIfInBounds_toArray, List.set_cons_zero, List.set_cons_succ]
        refine wt_last (k := 13) (by kernel_rfl) (by kernel_rfl) (by decide) rfl (fun K hK => ?_)
        go_simp
        refine hK.out _ _ ?_
        clear hK K
        try simp only [Act.put, List.setIfInBounds_toArray, List.set_cons_zero, List.set_cons_succ]
        go_wp2_with fail
        refine bodyPost_ret (results_row_tmp' rfl _ _ (w.heap.size + 1 + 1) 34 #[.string server, .int .i64 most, .slice sa sn sc] (0, 0) _ rfl (row3_heap H4.out.2.2.2.1 rfl) Tryz.underlying34 rfl (by kernel_rfl)) rfl ?_
        exact ⟨⟨sa, sn, sc⟩, rfl, ⟨H4.out.1.same (row3_other (by omega)) (row3_other (by omega)), (H4.out.2.1.same (by simp [World.setCell]) (fun i hi h => row3_other (by rcases h with h | h <;> omega))).mono (fun i _ h => by rcases h with h | h; (exact .inl h.1); exact .inr (by omega)), (fun i h => by rcases h with h | h; (exact hP i h); omega), row3_below H4.out.2.2.1 (Nat.le_refl _) (by omega), hg0, hb0⟩, HF4.out.row3 (by omega)⟩
      exact AllT.nil
    exact AllT.nil
  exact AllT.nil
set_option maxRecDepth 100000 in
set_option maxHeartbeats 4000000 in
theorem do_add (P : Nat → Prop) (w0 w : World) (g b : Nat) (server : ByteArray) (most : Int) (l : List En) (s : Sl) (may : Bool) (a room by_ : ByteArray) (hB : Both P w0 g b server most l s w) (he : Et w0) (hm : Mx w0) (hl : RiseE l) (hn : l.length < 1000000)
    (ha : a.size < 4294967281) (hro : room.size < 4294967281) (hby : by_.size < 4294967281) :
    Calls Tryz.prog 11 #[.pointer (some ⟨g, 0, none⟩), .agg (tCells server most s), .agg #[.bool false, .bool may, .string a, .string room, .string by_]] w fun e w' => ∃ s' : Sl, e = .returned (.tuple #[.agg (tCells server most s'), .bool true]) ∧ Both (fun i => P i ∨ w.heap.size ≤ i) w0 g b server most (addL server most l a room by_) s' w' ∧ Fr (fun i => i = b) w w' := by
  have hep := he.pos
  have hmp := hm.pos
  obtain ⟨A, n, c⟩ := s
  have hgl := blk_lt hB.t.blk
  have hbl := hB.t.mp.lt
  have hgb := hB.t.ne
  have HB := Lib.hid hB
  have HR := Lib.hid (fun (W : World) (h : Below w.heap.size w W) => radd_calls W server most ⟨A, n, c⟩ (fun i => P i ∧ i < w.heap.size) l a room by_ ha hro hby (((hB.r.mono (Q := fun i => P i ∧ i < w.heap.size) fun i hi h => ⟨h, hi⟩).same h.size (fun g hg _ => h.block g hg))) hn hl)
  have HT := Lib.hid (fun (W : World) (h : Tab W g b server most l) (hw : Below w0.heap.size w0 W) => tadd_calls W g b server most l a room by_ h ha hro hby (hm.below hw hmp) (by unfold maxLen; omega))
  have HE := Lib.hid (fun (W : World) (v : Value) (Q : Nat → Prop) (hw : Below w0.heap.size w0 W) (hv : ErrV W Q v (addErr server most l a room by_)) => tell_calls W Q v _ hv (he.below hw hep) (add_path server most l a room by_))
  have hws := hB.bel.size
  have hg0 := hB.hg
  have hb0 := hB.hb
  have hP := hB.hP
  clear hB he hm hl hn ha hro hby
  simp only [tCells, Sl.val] at *
  go_enter Tryz.func11, Tryz.ntmps11
  go_wp2_with fail
  have hL3 : Below w.heap.size w (((w.alloc (.cells #[.string server, .int .i64 most, .slice A n c] 34)).alloc (.cells #[.bool false, .bool may, .string a, .string room, .string by_] 40)).alloc (.cells TZ 34)) := (((Below.refl _ _).alloc (Nat.le_refl _) _).alloc (by simp) _).alloc (by simp <;> omega) _
  have hA3 : (((w.alloc (.cells #[.string server, .int .i64 most, .slice A n c] 34)).alloc (.cells #[.bool false, .bool may, .string a, .string room, .string by_] 40)).alloc (.cells TZ 34)).heap[w.heap.size + 1]? = some (.cells #[.bool false, .bool may, .string a, .string room, .string by_] 40 (0, 0)) := (heap_old_at _ _ _ (by simp)).trans (heap_new_at _ _ _ (by simp))
  have hZ3 : (((w.alloc (.cells #[.string server, .int .i64 most, .slice A n c] 34)).alloc (.cells #[.bool false, .bool may, .string a, .string room, .string by_] 40)).alloc (.cells TZ 34)).heap[w.heap.size + 1 + 1]? = some (.cells TZ 34 (0, 0)) := heap_new_at _ _ _ (by simp)
  refine (HR.out _ hL3).mono ?_
  rintro e w1 ⟨⟨sa, sn, sc⟩, rfl, hro, hb⟩
  have hw1 : w.heap.size + 1 + 1 + 1 ≤ w1.heap.size := by have := hb.size; simpa using this
  have hbw : Below w.heap.size w w1 := hL3.trans (hb.mono (by simp; omega))
  have ha1 := (hb.block _ (blk_lt hA3)).trans hA3
  have hz1 := (hb.block _ (blk_lt hZ3)).trans hZ3
  have hr1 : RowOf w1 (fun i => (P i ∧ i < w.heap.size) ∨ w.heap.size + 1 + 1 + 1 ≤ i) 105 3 ⟨sa, sn, sc⟩ (rowsE (addL server most l a room by_)) := hro.mono fun i _ h => h.imp id (fun h => by simpa using h)
  have H1 := Lib.hid (And.intro hbw (And.intro ha1 (And.intro hz1 hr1)))
  clear hL3 hA3 hZ3 hro hb hbw ha1 hz1 hr1 HR
  obtain ⟨ec, ep, hec⟩ := eCells_form (addErr server most l a room by_)
  simp only [erV, hec]
  have HEC := Lib.hid hec
  clear hec
  have ax : w1.cell? ⟨w.heap.size + 1, 0, none⟩ = some _ := cell_at H1.out.2.1 rfl
  go_wp2_with fail
  have hn2 : ((w1.alloc (.cells #[.string server, .int .i64 most, .slice sa sn sc] 34)).alloc (.cells #[.int .i64 ec, .int .i64 (-1), .string ep] 36)).heap[w1.heap.size]? = some (.cells #[.string server, .int .i64 most, .slice sa sn sc] 34 (0, 0)) := (heap_old_at _ _ _ (by simp)).trans (heap_new_at _ _ _ rfl)
  have he2 : ((w1.alloc (.cells #[.string server, .int .i64 most, .slice sa sn sc] 34)).alloc (.cells #[.int .i64 ec, .int .i64 (-1), .string ep] 36)).heap[w1.heap.size + 1]? = some (.cells #[.int .i64 ec, .int .i64 (-1), .string ep] 36 (0, 0)) := heap_new_at _ _ _ (by simp)
  have hz2 : ((w1.alloc (.cells #[.string server, .int .i64 most, .slice sa sn sc] 34)).alloc (.cells #[.int .i64 ec, .int .i64 (-1), .string ep] 36)).heap[w.heap.size + 1 + 1]? = some (.cells TZ 34 (0, 0)) := (heap_old_at _ _ _ (by simp; omega)).trans ((heap_old_at _ _ _ (by omega)).trans H1.out.2.2.1)
  have ha2 : ((w1.alloc (.cells #[.string server, .int .i64 most, .slice sa sn sc] 34)).alloc (.cells #[.int .i64 ec, .int .i64 (-1), .string ep] 36)).heap[w.heap.size + 1]? = some (.cells #[.bool false, .bool may, .string a, .string room, .string by_] 40 (0, 0)) := (heap_old_at _ _ _ (by simp; omega)).trans ((heap_old_at _ _ _ (by omega)).trans H1.out.2.1)
  have hb2 : Below w.heap.size w ((w1.alloc (.cells #[.string server, .int .i64 most, .slice sa sn sc] 34)).alloc (.cells #[.int .i64 ec, .int .i64 (-1), .string ep] 36)) := (H1.out.1.alloc (by omega) _).alloc (by simp; omega) _
  have hs2 : w1.heap.size + 1 < ((w1.alloc (.cells #[.string server, .int .i64 most, .slice sa sn sc] 34)).alloc (.cells #[.int .i64 ec, .int .i64 (-1), .string ep] 36)).heap.size := by simp
  have hr2 : RowOf ((w1.alloc (.cells #[.string server, .int .i64 most, .slice sa sn sc] 34)).alloc (.cells #[.int .i64 ec, .int .i64 (-1), .string ep] 36)) (fun i => (P i ∧ i < w.heap.size) ∨ w.heap.size + 1 + 1 + 1 ≤ i) 105 3 ⟨sa, sn, sc⟩ (rowsE (addL server most l a room by_)) := H1.out.2.2.2.same (by simp; omega) (fun i hi _ => (heap_old_at _ _ _ (by simp; omega)).trans (heap_old_at _ _ _ hi))
  generalize ((w1.alloc (.cells #[.string server, .int .i64 most, .slice sa sn sc] 34)).alloc (.cells #[.int .i64 ec, .int .i64 (-1), .string ep] 36)) = w2 at *
  have n0 : w2.cell? ⟨w1.heap.size, 0, none⟩ = some _ := cell_at (j := 0) hn2 rfl
  have n1 : w2.cell? ⟨w1.heap.size, 1, none⟩ = some _ := cell_at (j := 1) hn2 rfl
  have n2 : w2.cell? ⟨w1.heap.size, 2, none⟩ = some _ := cell_at (j := 2) hn2 rfl
  have a2 : w2.cell? ⟨w.heap.size + 1, 2, none⟩ = some _ := cell_at (j := 2) ha2 rfl
  have a3 : w2.cell? ⟨w.heap.size + 1, 3, none⟩ = some _ := cell_at (j := 3) ha2 rfl
  have a4 : w2.cell? ⟨w.heap.size + 1, 4, none⟩ = some _ := cell_at (j := 4) ha2 rfl
  have e0 : w2.cell? ⟨w1.heap.size + 1, 0, none⟩ = some _ := cell_at (j := 0) he2 rfl
  have e1 : w2.cell? ⟨w1.heap.size + 1, 1, none⟩ = some _ := cell_at (j := 1) he2 rfl
  have e2 : w2.cell? ⟨w1.heap.size + 1, 2, none⟩ = some _ := cell_at (j := 2) he2 rfl
  have z0 : w2.cell? ⟨w.heap.size + 1 + 1, 0, none⟩ = some _ := cell_at (j := 0) hz2 rfl
  have z1 : w2.cell? ⟨w.heap.size + 1 + 1, 1, none⟩ = some _ := cell_at (j := 1) hz2 rfl
  have z2 : w2.cell? ⟨w.heap.size + 1 + 1, 2, none⟩ = some _ := cell_at (j := 2) hz2 rfl
  have zz : ∀ j, w2.frozen? ⟨w.heap.size + 1 + 1, j, none⟩ = false := fun j => frozen_at hz2
  have H2 := Lib.hid (And.intro hb2 (And.intro hn2 (And.intro he2 (And.intro hz2 hr2))))
  have HA2 := Lib.hid ha2
  clear hb2 hn2 he2 hz2 ha2 hr2 ax H1
  have HTB := Lib.hid (show Tab w2 g b server most l from (HB.out.below H2.out.1).t)
  have HBL := Lib.hid (show Below w0.heap.size w0 w2 from (HB.out.below H2.out.1).bel)
  refine wt_start (S := fun W => W.cell? ⟨w1.heap.size, 0, none⟩ = some (.string server) ∧ W.cell? ⟨w1.heap.size, 1, none⟩ = some (.int .i64 most) ∧ W.cell? ⟨w1.heap.size, 2, none⟩ = some (.slice sa sn sc) ∧ W.cell? ⟨w.heap.size + 1, 2, none⟩ = some (.string a) ∧ W.cell? ⟨w.heap.size + 1, 3, none⟩ = some (.string room) ∧ W.cell? ⟨w.heap.size + 1, 4, none⟩ = some (.string by_) ∧ W.cell? ⟨w1.heap.size + 1, 0, none⟩ = some (.int .i64 ec) ∧ W.cell? ⟨w1.heap.size + 1, 1, none⟩ = some (.int .i64 (-1)) ∧ W.cell? ⟨w1.heap.size + 1, 2, none⟩ = some (.string ep)) 13 (by kernel_rfl) ⟨by kernel_rfl, by kernel_rfl, by kernel_rfl, by decide⟩ ?_
  intro HTK
  refine wt_take (i := 1) (v := ?_) HTK.out rfl (by decide) (by kernel_rfl) (by kernel_rfl) (fun _ _ _ h => h) (by exact ⟨n0, n1, n2, a2, a3, a4, e0, e1, e2⟩) (Or.inl ⟨by rfl, ?_⟩) ?_
  rotate_left
  · intro W hSw
    obtain ⟨m0, m1, m2, m3, m4, m5, m6, m7, m8⟩ := hSw
    go_simp
    try (with_reducible rfl)
  try simp only [Act.put, List.setIfInBounds_toArray, List.set_cons_zero, List.set_cons_succ]
  refine wt_take (i := 2) (v := ?_) HTK.out rfl (by decide) (by kernel_rfl) (by kernel_rfl) (fun _ _ _ h => h) (by exact ⟨n0, n1, n2, a2, a3, a4, e0, e1, e2⟩) (Or.inl ⟨by rfl, ?_⟩) ?_
  rotate_left
  · intro W hSw
    obtain ⟨m0, m1, m2, m3, m4, m5, m6, m7, m8⟩ := hSw
    go_simp
    try (with_reducible rfl)
  try simp only [Act.put, List.setIfInBounds_toArray, List.set_cons_zero, List.set_cons_succ]
  refine wt_take (i := 4) (v := ?_) HTK.out rfl (by decide) (by kernel_rfl) (by kernel_rfl) (fun _ _ _ h => h) (by exact ⟨n0, n1, n2, a2, a3, a4, e0, e1, e2⟩) (Or.inl ⟨by rfl, ?_⟩) ?_
  rotate_left
  · intro W hSw
    obtain ⟨m0, m1, m2, m3, m4, m5, m6, m7, m8⟩ := hSw
    go_simp
    try (with_reducible rfl)
  try simp only [Act.put, List.setIfInBounds_toArray, List.set_cons_zero, List.set_cons_succ]
  refine wt_take (i := 6) (v := ?_) HTK.out rfl (by decide) (by kernel_rfl) (by kernel_rfl) (fun _ _ _ h => h) (by exact ⟨n0, n1, n2, a2, a3, a4, e0, e1, e2⟩) (Or.inl ⟨by rfl, ?_⟩) ?_
  rotate_left
  · intro W hSw
    obtain ⟨m0, m1, m2, m3, m4, m5, m6, m7, m8⟩ := hSw
    go_simp
    try (with_reducible rfl)
  try simp only [Act.put, List.setIfInBounds_toArray, List.set_cons_zero, List.set_cons_succ]
  refine wt_take (i := 0) (v := ?_) HTK.out rfl (by decide) (by kernel_rfl) (by kernel_rfl) (fun _ _ _ h => h) (by exact ⟨n0, n1, n2, a2, a3, a4, e0, e1, e2⟩) (Or.inl ⟨by rfl, ?_⟩) ?_
  rotate_left
  · intro W hSw
    obtain ⟨m0, m1, m2, m3, m4, m5, m6, m7, m8⟩ := hSw
    go_simp
    try (with_reducible rfl)
  try simp only [Act.put, List.setIfInBounds_toArray, List.set_cons_zero, List.set_cons_succ]
  refine wt_take (i := 3) (v := ?_) HTK.out rfl (by decide) (by kernel_rfl) (by kernel_rfl) (fun _ _ _ h => h) (by exact ⟨n0, n1, n2, a2, a3, a4, e0, e1, e2⟩) (Or.inl ⟨by rfl, ?_⟩) ?_
  rotate_left
  · intro W hSw
    obtain ⟨m0, m1, m2, m3, m4, m5, m6, m7, m8⟩ := hSw
    go_simp
    try (with_reducible rfl)
  try simp only [Act.put, List.setIfInBounds_toArray, List.set_cons_zero, List.set_cons_succ]
  refine wt_take (i := 5) (v := ?_) HTK.out rfl (by decide) (by kernel_rfl) (by kernel_rfl) (fun _ _ _ h => h) (by exact ⟨n0, n1, n2, a2, a3, a4, e0, e1, e2⟩) (Or.inl ⟨by rfl, ?_⟩) ?_
  rotate_left
  · intro W hSw
    obtain ⟨m0, m1, m2, m3, m4, m5, m6, m7, m8⟩ := hSw
    go_simp
    try (with_reducible rfl)
  try simp only [Act.put, List.setIfInBounds_toArray, List.set_cons_zero, List.set_cons_succ]
  refine wt_take (i := 7) (v := ?_) HTK.out rfl (by decide) (by kernel_rfl) (by kernel_rfl) (fun _ _ _ h => h) (by exact ⟨n0, n1, n2, a2, a3, a4, e0, e1, e2⟩) (Or.inl ⟨by rfl, ?_⟩) ?_
  rotate_left
  · intro W hSw
    obtain ⟨m0, m1, m2, m3, m4, m5, m6, m7, m8⟩ := hSw
    go_simp
    try (with_reducible rfl)
  try simp only [Act.put, List.setIfInBounds_toArray, List.set_cons_zero, List.set_cons_succ]
  refine wt_take (i := 10) (v := ?_) HTK.out rfl (by decide) (by kernel_rfl) (by kernel_rfl) (fun _ _ _ h => h) (by exact ⟨n0, n1, n2, a2, a3, a4, e0, e1, e2⟩) (Or.inl ⟨by rfl, ?_⟩) ?_
  rotate_left
  · intro W hSw
    obtain ⟨m0, m1, m2, m3, m4, m5, m6, m7, m8⟩ := hSw
    go_simp
    try (with_reducible rfl)
  try simp only [Act.put, List.setIfInBounds_toArray, List.set_cons_zero, List.set_cons_succ]
  refine wt_ready (rs := [8]) (by kernel_rfl) (by simp) ?_
  refine AllT.cons rfl (by decide) (fun K hK => ?_) ?_
  · go_simp
    go_at_call 24
    refine (HT.out w2.drew (HTB.out.same rfl rfl) HBL.out.drew).mono ?_
    rintro e w3 ⟨v, rfl, hv, ht3, hfr⟩
    have hf : ∀ i o, w2.heap[i]? = some o → i ≠ b → w3.heap[i]? = some o := fun i o h hi => (hfr.block i (blk_lt h) hi).trans h
    have h3n := hf _ _ H2.out.2.1 (by omega)
    have h3e := hf _ _ H2.out.2.2.1 (by omega)
    have h3z := hf _ _ H2.out.2.2.2.1 (by omega)
    have h3a := hf _ _ HA2.out (by omega)
    have n0 : w3.cell? ⟨w1.heap.size, 0, none⟩ = some _ := cell_at (j := 0) h3n rfl
    have n1 : w3.cell? ⟨w1.heap.size, 1, none⟩ = some _ := cell_at (j := 1) h3n rfl
    have n2 : w3.cell? ⟨w1.heap.size, 2, none⟩ = some _ := cell_at (j := 2) h3n rfl
    have a2 : w3.cell? ⟨w.heap.size + 1, 2, none⟩ = some _ := cell_at (j := 2) h3a rfl
    have a3 : w3.cell? ⟨w.heap.size + 1, 3, none⟩ = some _ := cell_at (j := 3) h3a rfl
    have a4 : w3.cell? ⟨w.heap.size + 1, 4, none⟩ = some _ := cell_at (j := 4) h3a rfl
    have e0 : w3.cell? ⟨w1.heap.size + 1, 0, none⟩ = some _ := cell_at (j := 0) h3e rfl
    have e1 : w3.cell? ⟨w1.heap.size + 1, 1, none⟩ = some _ := cell_at (j := 1) h3e rfl
    have e2 : w3.cell? ⟨w1.heap.size + 1, 2, none⟩ = some _ := cell_at (j := 2) h3e rfl
    have z0 : w3.cell? ⟨w.heap.size + 1 + 1, 0, none⟩ = some _ := cell_at (j := 0) h3z rfl
    have z1 : w3.cell? ⟨w.heap.size + 1 + 1, 1, none⟩ = some _ := cell_at (j := 1) h3z rfl
    have z2 : w3.cell? ⟨w.heap.size + 1 + 1, 2, none⟩ = some _ := cell_at (j := 2) h3z rfl
    have zz : ∀ j, w3.frozen? ⟨w.heap.size + 1 + 1, j, none⟩ = false := fun j => frozen_at h3z
    have hr3 : RowOf w3 (fun i => (P i ∧ i < w.heap.size) ∨ w.heap.size + 1 + 1 + 1 ≤ i) 105 3 ⟨sa, sn, sc⟩ (rowsE (addL server most l a room by_)) := H2.out.2.2.2.2.same hfr.size (fun i hi h => hfr.block i hi (by show ¬ i = b; rcases h with h | h; (exact hP _ h.1); omega))
    have hb3 : Below w0.heap.size w0 w3 := Below.of_fr HBL.out.drew hfr (by have := HBL.out.size; simpa using this) (fun i hi => by omega)
    have H3 := Lib.hid (And.intro ht3 (And.intro hr3 (And.intro hb3 (And.intro h3n (And.intro h3e (And.intro h3z h3a))))))
    have HV := Lib.hid hv
    have HS3 := Lib.hid hfr.size
    have HF3 := Lib.hid (show Fr (fun i => i = b) w w3 from (Fr.of_below H2.out.1.drew).trans hfr)
    clear hv ht3 hfr hf h3n h3e h3z h3a hr3 hb3
    refine hK.out _ _ (by exact ⟨n0, n1, n2, a2, a3, a4, e0, e1, e2⟩) ?_
    clear hK K
    try simp only [Act.put, List.setIfInBounds_toArray, List.set_cons_zero, List.set_cons_succ]
    refine wt_ready (rs := [9]) (by kernel_rfl) (by simp) ?_
    refine AllT.cons rfl (by decide) (fun K hK => ?_) ?_
    · go_simp
      go_at_call 17
      refine (HE.out _ v _ H3.out.2.2.1 HV.out).mono ?_
      rintro e w4 ⟨rfl, hb4⟩
      have hf : ∀ i o, w3.heap[i]? = some o → w4.heap[i]? = some o := fun i o h => (hb4.block i (blk_lt h)).trans h
      have h4n := hf _ _ H3.out.2.2.2.1
      have h4e := hf _ _ H3.out.2.2.2.2.1
      have h4z := hf _ _ H3.out.2.2.2.2.2.1
      have h4a := hf _ _ H3.out.2.2.2.2.2.2
      have n0 : w4.cell? ⟨w1.heap.size, 0, none⟩ = some _ := cell_at (j := 0) h4n rfl
      have n1 : w4.cell? ⟨w1.heap.size, 1, none⟩ = some _ := cell_at (j := 1) h4n rfl
      have n2 : w4.cell? ⟨w1.heap.size, 2, none⟩ = some _ := cell_at (j := 2) h4n rfl
      have a2 : w4.cell? ⟨w.heap.size + 1, 2, none⟩ = some _ := cell_at (j := 2) h4a rfl
      have a3 : w4.cell? ⟨w.heap.size + 1, 3, none⟩ = some _ := cell_at (j := 3) h4a rfl
      have a4 : w4.cell? ⟨w.heap.size + 1, 4, none⟩ = some _ := cell_at (j := 4) h4a rfl
      have e0 : w4.cell? ⟨w1.heap.size + 1, 0, none⟩ = some _ := cell_at (j := 0) h4e rfl
      have e1 : w4.cell? ⟨w1.heap.size + 1, 1, none⟩ = some _ := cell_at (j := 1) h4e rfl
      have e2 : w4.cell? ⟨w1.heap.size + 1, 2, none⟩ = some _ := cell_at (j := 2) h4e rfl
      have z0 : w4.cell? ⟨w.heap.size + 1 + 1, 0, none⟩ = some _ := cell_at (j := 0) h4z rfl
      have z1 : w4.cell? ⟨w.heap.size + 1 + 1, 1, none⟩ = some _ := cell_at (j := 1) h4z rfl
      have z2 : w4.cell? ⟨w.heap.size + 1 + 1, 2, none⟩ = some _ := cell_at (j := 2) h4z rfl
      have zz : ∀ j, w4.frozen? ⟨w.heap.size + 1 + 1, j, none⟩ = false := fun j => frozen_at h4z
      have hr4 : RowOf w4 (fun i => (P i ∧ i < w.heap.size) ∨ w.heap.size + 1 + 1 + 1 ≤ i) 105 3 ⟨sa, sn, sc⟩ (rowsE (addL server most l a room by_)) := H3.out.2.1.same hb4.size (fun i hi _ => hb4.block i hi)
      have H4 := Lib.hid (And.intro (H3.out.1.below hb4) (And.intro hr4 (And.intro (H3.out.2.2.1.trans (hb4.mono (by have := HBL.out.size; have := HS3.out; simp at *; omega))) (And.intro h4z (by have := hb4.size; have := HS3.out; simp at *; omega : w2.heap.size ≤ w4.heap.size)))))
      have HF4 := Lib.hid (HF3.out.trans (Fr.of_below hb4))
      clear hb4 hf h4n h4e h4z h4a hr4
      simp only [erV, HEC.out]
      refine hK.out _ _ (by exact ⟨n0, n1, n2, a2, a3, a4, e0, e1, e2⟩) ?_
      clear hK K
      try simp only [Act.put, List.setIfInBounds_toArray, List.set_cons_zero, List.set_cons_succ]
      refine wt_take (i := 11) (v := ?_) HTK.out rfl (by decide) (by kernel_rfl) (by kernel_rfl) (fun _ _ _ h => h) (by exact ⟨n0, n1, n2, a2, a3, a4, e0, e1, e2⟩) (Or.inl ⟨by rfl, ?_⟩) ?_
      rotate_left
      · intro W hSw
        obtain ⟨m0, m1, m2, m3, m4, m5, m6, m7, m8⟩ := hSw
        go_simp
        try (with_reducible rfl)
      try simp only [Act.put, List.setIfInBounds_toArray, List.set_cons_zero, List.set_cons_succ]
      refine wt_ready (rs := [12]) (by kernel_rfl) (by simp) ?_
      refine AllT.cons rfl (by decide) (fun K hK => ?_) ?_
      · go_simp
        refine hK.out _ _ (by exact far3 (by omega) (by omega) (by omega) (by exact ⟨n0, n1, n2, a2, a3, a4, e0, e1, e2⟩)) ?_
        clear hK K
        try simp only [Act.put, List.setIfInBounds_toArray, List.set_cons_zero, List.set_cons_succ]
        refine wt_last (k := 13) (by kernel_rfl) (by kernel_rfl) (by decide) rfl (fun K hK => ?_)
        go_simp
        refine hK.out _ _ ?_
        clear hK K
        try simp only [Act.put, List.setIfInBounds_toArray, List.set_cons_zero, List.set_cons_succ]
        go_wp2_with fail
        refine bodyPost_ret (results_row_tmp' rfl _ _ (w.heap.size + 1 + 1) 34 #[.string server, .int .i64 most, .slice sa sn sc] (0, 0) _ rfl (row3_heap H4.out.2.2.2.1 rfl) Tryz.underlying34 rfl (by kernel_rfl)) rfl ?_
        exact ⟨⟨sa, sn, sc⟩, rfl, ⟨H4.out.1.same (row3_other (by omega)) (row3_other (by omega)), (H4.out.2.1.same (by simp [World.setCell]) (fun i hi h => row3_other (by rcases h with h | h <;> omega))).mono (fun i _ h => by rcases h with h | h; (exact .inl h.1); exact .inr (by omega)), (fun i h => by rcases h with h | h; (exact hP i h); omega), row3_below H4.out.2.2.1 (Nat.le_refl _) (by omega), hg0, hb0⟩, HF4.out.row3 (by omega)⟩
      exact AllT.nil
    exact AllT.nil
  exact AllT.nil
theorem do_calls (P : Nat → Prop) (w0 w : World) (g b : Nat) (server : ByteArray) (most : Int) (l : List En) (s : Sl) (x : Ac) (hB : Both P w0 g b server most l s w) (he : Et w0) (hm : Mx w0) (hl : RiseE l) (hn : l.length < 1000000)
    (ha : x.a.size < 4294967281) (hro : x.r.size < 4294967281) (hby : x.b.size < 4294967281) :
    Calls Tryz.prog 11 #[.pointer (some ⟨g, 0, none⟩), .agg (tCells server most s), .agg x.cells] w fun e w' => ∃ s' : Sl, e = .returned (.tuple #[.agg (tCells server most s'), .bool true]) ∧ Both (fun i => P i ∨ w.heap.size ≤ i) w0 g b server most (doL server most l x) s' w' ∧ Fr (fun i => i = b) w w' := by
  obtain ⟨d, may, a, r, by_⟩ := x
  cases d with
  | true => exact do_drop P w0 w g b server most l s may a r by_ hB he hm hl hn ha hro hby
  | false => exact do_add P w0 w g b server most l s may a r by_ hB he hm hl hn ha hro hby
end Go.Proofs.YtgnoaeldmpbjmaaGreatDoor
