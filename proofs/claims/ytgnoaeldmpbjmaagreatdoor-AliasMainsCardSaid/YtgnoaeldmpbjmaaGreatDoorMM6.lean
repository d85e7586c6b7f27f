/- An act, with a table and the document's: both answer alike. -/
import Derived.Test.YtgnoaeldmpbjmaaGreatDoorMM5
import Derived.Test.YtgnoaeldmpbjmaaGreatDoorMM4
import Derived.Test.YtgnoaeldmpbjmaaGreatDoorProg
import Derived.WalkKit
import Derived.LaidEql
import Derived.Stop.Asserts
import Derived.RowKitTokens
import Derived.Lib.Hide
import Derived.Below
import Derived.Test.YtgnoaeldmpbjmaaGreatDoorMM2
set_option linter.unusedVariables false
set_option linter.unusedSimpArgs false
namespace Go.Proofs.YtgnoaeldmpbjmaaGreatDoor
open Go.RowKit Go.Maps Go.Sort

/-- A table and the document's have one list. -/
structure Both (P : Nat → Prop) (w0 : World) (g b : Nat) (server : ByteArray) (most : Int) (l : List En) (s : Sl) (w : World) : Prop where
  t : Tab w g b server most l
  r : RowOf w P 105 3 s (rowsE l)
  hP : ∀ i, P i → i ≠ b
  bel : Below w0.heap.size w0 w
  hg : w0.heap.size ≤ g
  hb : w0.heap.size ≤ b
theorem Both.below {P : Nat → Prop} {w0 w w' : World} {g b : Nat} {server : ByteArray} {most : Int} {l : List En} {s : Sl} (h : Both P w0 g b server most l s w) (k : Below w.heap.size w w') : Both P w0 g b server most l s w' :=
  ⟨h.t.below k, h.r.same k.size (fun g hg _ => k.block g hg), h.hP, h.bel.trans (k.mono h.bel.size), h.hg, h.hb⟩
theorem Below.of_fr {B : Nat} {S : Nat → Prop} {w0 w w' : World} (h : Below B w0 w) (k : Fr S w w') (hB : B ≤ w.heap.size) (hS : ∀ i, S i → B ≤ i) : Below B w0 w' :=
  h.trans (k.to_below hB (fun i hi e => by have := hS i e; omega))
theorem eCells_form (x : Er) : ∃ c q, eCells x = #[.int .i64 c, .int .i64 (-1), .string q] := by
  cases x with
  | none => exact ⟨_, _, rfl⟩
  | some x => exact ⟨_, _, rfl⟩
theorem drop_path (l : List En) (k by_ : ByteArray) (may : Bool) : (pathOf (dropErr l k by_ may)).length ≤ 1000000 := by
  unfold dropErr
  split
  · simp [pathOf, pathL]
  · split <;> simp [pathOf, pathL]
theorem add_path (server : ByteArray) (most : Int) (l : List En) (k room by_ : ByteArray) : (pathOf (addErr server most l k room by_)).length ≤ 1000000 := by
  unfold addErr
  repeat' split
  all_goals simp [pathOf, pathL]
theorem far3 {w : World} {g p q r : Nat} {x y z x0 x1 x2 y0 y1 y2 z0 z1 z2 : Value} {i j k : Nat} (hp : p ≠ g) (hq : q ≠ g) (hr : r ≠ g)
    (h : w.cell? ⟨p, 0, none⟩ = some x0 ∧ w.cell? ⟨p, 1, none⟩ = some x1 ∧ w.cell? ⟨p, 2, none⟩ = some x2 ∧ w.cell? ⟨q, i, none⟩ = some y0 ∧ w.cell? ⟨q, j, none⟩ = some y1 ∧ w.cell? ⟨q, k, none⟩ = some y2 ∧ w.cell? ⟨r, 0, none⟩ = some z0 ∧ w.cell? ⟨r, 1, none⟩ = some z1 ∧ w.cell? ⟨r, 2, none⟩ = some z2) :
    (row3 w g x y z).cell? ⟨p, 0, none⟩ = some x0 ∧ (row3 w g x y z).cell? ⟨p, 1, none⟩ = some x1 ∧ (row3 w g x y z).cell? ⟨p, 2, none⟩ = some x2 ∧ (row3 w g x y z).cell? ⟨q, i, none⟩ = some y0 ∧ (row3 w g x y z).cell? ⟨q, j, none⟩ = some y1 ∧ (row3 w g x y z).cell? ⟨q, k, none⟩ = some y2 ∧ (row3 w g x y z).cell? ⟨r, 0, none⟩ = some z0 ∧ (row3 w g x y z).cell? ⟨r, 1, none⟩ = some z1 ∧ (row3 w g x y z).cell? ⟨r, 2, none⟩ = some z2 := by
  have e : ∀ (b n : Nat), b ≠ g → (row3 w g x y z).cell? ⟨b, n, none⟩ = w.cell? ⟨b, n, none⟩ := fun b n hb => by
    unfold row3
    rw [World.cell?_setCell_other _ _ _ _ (fun h => hb (by injection h with h1; exact h1.symm)), World.cell?_setCell_other _ _ _ _ (fun h => hb (by injection h with h1; exact h1.symm)), World.cell?_setCell_other _ _ _ _ (fun h => hb (by injection h with h1; exact h1.symm))]
  rw [e p 0 hp, e p 1 hp, e p 2 hp, e q i hq, e q j hq, e q k hq, e r 0 hr, e r 1 hr, e r 2 hr]
  exact h
theorem Fr.row3 {S : Nat → Prop} {a b : World} {z : Nat} {x y v : Value} (h : Fr S a b) (hz : a.heap.size ≤ z) : Fr S a (row3 b z x y v) :=
  ⟨by rw [← h.os]; simp [World.setCell], by rw [← h.tape]; simp [World.setCell], by rw [← h.output]; simp [World.setCell], by have := h.size; simpa [World.setCell] using this, fun k hk hS => (row3_other (by omega)).trans (h.block k hk hS)⟩
def doErr (server : ByteArray) (most : Int) (l : List En) (x : Ac) : Er := if x.drop then dropErr l x.a x.b x.may else addErr server most l x.a x.r x.b
def doL (server : ByteArray) (most : Int) (l : List En) (x : Ac) : List En := if x.drop then dropL l x.a x.b x.may else addL server most l x.a x.r x.b
theorem rise_do {l : List En} (h : RiseE l) (server : ByteArray) (most : Int) (x : Ac) : RiseE (doL server most l x) := by
  unfold doL
  split
  · exact rise_drop h _ _ _
  · exact rise_add h _ _ _
theorem doL_length (server : ByteArray) (most : Int) (l : List En) (x : Ac) : (doL server most l x).length ≤ l.length + 1 := by
  unfold doL
  split
  · have := dropL_length l x.a x.b x.may; omega
  · exact addL_length server most l x.a x.r x.b

set_option maxRecDepth 100000 in
set_option maxHeartbeats 4000000 in
theorem do_drop (P : Nat → Prop) (w0 w : World) (g b : Nat) (server : ByteArray) (most : Int) (l : List En) (s : Sl) (may : Bool) (a room by_ : ByteArray) (hB : Both P w0 g b server most l s w) (he : Et w0) (hm : Mx w0) (hl : RiseE l) (hn : l.length < 1000000)
    (ha : a.size < 4294967281) (hro : room.size < 4294967281) (hby : by_.size < 4294967281) :
    Calls Tryz.prog 11 #[.pointer (some ⟨g, 0, none⟩), .agg (tCells server most s), .agg #[.bool true, .bool may, .string a, .string room, .string by_]] w fun e w' => ∃ s' : Sl, e = .returned (.tuple #[.agg (tCells server most s'), .bool true]) ∧ Both (fun i => P i ∨ w.heap.size ≤ i) w0 g b server most (dropL l a by_ may) s' w' ∧ Fr (fun i => i = b) w w' := by
  have hep := he.pos
  have hmp := hm.pos
  obtain ⟨A, n, c⟩ := s
  have hgl := blk_lt hB.t.blk
  have hbl := hB.t.mp.lt
  have hgb := hB.t.ne
  have HB := Lib.hid hB
  have HR := Lib.hid (fun (W : World) (h : Below w.heap.size w W) => rdrop_calls W server most ⟨A, n, c⟩ (fun i => P i ∧ i < w.heap.size) l a by_ may (((hB.r.mono (Q := fun i => P i ∧ i < w.heap.size) fun i hi h => ⟨h, hi⟩).same h.size (fun g hg _ => h.block g hg))) (by omega) hl)
  have HT := Lib.hid (fun (W : World) (h : Tab W g b server most l) (hw : Below w0.heap.size w0 W) => tdrop_calls W g b server most l a by_ may h (by unfold maxLen; omega))
  have HE := Lib.hid (fun (W : World) (v : Value) (Q : Nat → Prop) (hw : Below w0.heap.size w0 W) (hv : ErrV W Q v (dropErr l a by_ may)) => tell_calls W Q v _ hv (he.below hw hep) (drop_path l a by_ may))
  have hws := hB.bel.size
  have hg0 := hB.hg
  have hb0 := hB.hb
  have hP := hB.hP
  clear hB he hm hl hn ha hro hby
  simp only [tCells, Sl.val] at *
  go_enter Tryz.func11, Tryz.ntmps11
  go_wp2_with fail
  have hL3 : Below w.heap.size w (((w.alloc (.cells #[.string server, .int .i64 most, .slice A n c] 34)).alloc (.cells #[.bool true, .bool may, .string a, .string room, .string by_] 40)).alloc (.cells TZ 34)) := (((Below.refl _ _).alloc (Nat.le_refl _) _).alloc (by simp) _).alloc (by simp <;> omega) _
  have hA3 : (((w.alloc (.cells #[.string server, .int .i64 most, .slice A n c] 34)).alloc (.cells #[.bool true, .bool may, .string a, .string room, .string by_] 40)).alloc (.cells TZ 34)).heap[w.heap.size + 1]? = some (.cells #[.bool true, .bool may, .string a, .string room, .string by_] 40 (0, 0)) := (heap_old_at _ _ _ (by simp)).trans (heap_new_at _ _ _ (by simp))
  have hZ3 : (((w.alloc (.cells #[.string server, .int .i64 most, .slice A n c] 34)).alloc (.cells #[.bool true, .bool may, .string a, .string room, .string by_] 40)).alloc (.cells TZ 34)).heap[w.heap.size + 1 + 1]? = some (.cells TZ 34 (0, 0)) := heap_new_at _ _ _ (by simp)
  refine (HR.out _ hL3).mono ?_
  rintro e w1 ⟨⟨sa, sn, sc⟩, rfl, hro, hb⟩
  have hw1 : w.heap.size + 1 + 1 + 1 ≤ w1.heap.size := by have := hb.size; simpa using this
  have hbw : Below w.heap.size w w1 := hL3.trans (hb.mono (by simp; omega))
  have ha1 := (hb.block _ (blk_lt hA3)).trans hA3
  have hz1 := (hb.block _ (blk_lt hZ3)).trans hZ3
  have hr1 : RowOf w1 (fun i => (P i ∧ i < w.heap.size) ∨ w.heap.size + 1 + 1 + 1 ≤ i) 105 3 ⟨sa, sn, sc⟩ (rowsE (dropL l a by_ may)) := hro.mono fun i _ h => h.imp id (fun h => by simpa using h)
  have H1 := Lib.hid (And.intro hbw (And.intro ha1 (And.intro hz1 hr1)))
  clear hL3 hA3 hZ3 hro hb hbw ha1 hz1 hr1 HR
  obtain ⟨ec, ep, hec⟩ := eCells_form (dropErr l a by_ may)
  simp only [erV, hec]
  have HEC := Lib.hid hec
  clear hec
  have ax : w1.cell? ⟨w.heap.size + 1, 0, none⟩ = some _ := cell_at H1.out.2.1 rfl
  go_wp2_with fail
  have hn2 : ((w1.alloc (.cells #[.string server, .int .i64 most, .slice sa sn sc] 34)).alloc (.cells #[.int .i64 ec, .int .i64 (-1), .string ep] 36)).heap[w1.heap.size]? = some (.cells #[.string server, .int .i64 most, .slice sa sn sc] 34 (0, 0)) := (heap_old_at _ _ _ (by simp)).trans (heap_new_at _ _ _ rfl)
  have he2 : ((w1.alloc (.cells #[.string server, .int .i64 most, .slice sa sn sc] 34)).alloc (.cells #[.int .i64 ec, .int .i64 (-1), .string ep] 36)).heap[w1.heap.size + 1]? = some (.cells #[.int .i64 ec, .int .i64 (-1), .string ep] 36 (0, 0)) := heap_new_at _ _ _ (by simp)
  have hz2 : ((w1.alloc (.cells #[.string server, .int .i64 most, .slice sa sn sc] 34)).alloc (.cells #[.int .i64 ec, .int .i64 (-1), .string ep] 36)).heap[w.heap.size + 1 + 1]? = some (.cells TZ 34 (0, 0)) := (heap_old_at _ _ _ (by simp; omega)).trans ((heap_old_at _ _ _ (by omega)).trans H1.out.2.2.1)
  have ha2 : ((w1.alloc (.cells #[.string server, .int .i64 most, .slice sa sn sc] 34)).alloc (.cells #[.int .i64 ec, .int .i64 (-1), .string ep] 36)).heap[w.heap.size + 1]? = some (.cells #[.bool true, .bool may, .string a, .string room, .string by_] 40 (0, 0)) := (heap_old_at _ _ _ (by simp; omega)).trans ((heap_old_at _ _ _ (by omega)).trans H1.out.2.1)
  have hb2 : Below w.heap.size w ((w1.alloc (.cells #[.string server, .int .i64 most, .slice sa sn sc] 34)).alloc (.cells #[.int .i64 ec, .int .i64 (-1), .string ep] 36)) := (H1.out.1.alloc (by omega) _).alloc (by simp; omega) _
  have hs2 : w1.heap.size + 1 < ((w1.alloc (.cells #[.string server, .int .i64 most, .slice sa sn sc] 34)).alloc (.cells #[.int .i64 ec, .int .i64 (-1), .string ep] 36)).heap.size := by simp
  have hr2 : RowOf ((w1.alloc (.cells #[.string server, .int .i64 most, .slice sa sn sc] 34)).alloc (.cells #[.int .i64 ec, .int .i64 (-1), .string ep] 36)) (fun i => (P i ∧ i < w.heap.size) ∨ w.heap.size + 1 + 1 + 1 ≤ i) 105 3 ⟨sa, sn, sc⟩ (rowsE (dropL l a by_ may)) := H1.out.2.2.2.same (by simp; omega) (fun i hi _ => (heap_old_at _ _ _ (by simp; omega)).trans (heap_old_at _ _ _ hi))
  generalize ((w1.alloc (.cells #[.string server, .int .i64 most, .slice sa sn sc] 34)).alloc (.cells #[.int .i64 ec, .int .i64 (-1), .string ep] 36)) = w2 at *
  have n0 : w2.cell? ⟨w1.heap.size, 0, none⟩ = some _ := cell_at (j := 0) hn2 rfl
  have n1 : w2.cell? ⟨w1.heap.size, 1, none⟩ = some _ := cell_at (j := 1) hn2 rfl
  have n2 : w2.cell? ⟨w1.heap.size, 2, none⟩ = some _ := cell_at (j := 2) hn2 rfl
  have a1 : w2.cell? ⟨w.heap.size + 1, 1, none⟩ = some _ := cell_at (j := 1) ha2 rfl
  have a2 : w2.cell? ⟨w.heap.size + 1, 2, none⟩ = some _ := cell_at (j := 2) ha2 rfl
  have a4 : w2.cell? ⟨w.heap.size + 1, 4, none⟩ = some _ := cell_at (j := 4) ha2 rfl
  have e0 : w2.cell? ⟨w1.heap.size + 1, 0, none⟩ = some _ := cell_at (j := 0) he2 rfl
  have e1 : w2.cell? ⟨w1.heap.size + 1, 1, none⟩ = some _ := cell_at (j := 1) he2 rfl
  have e2 : w2.cell? ⟨w1.heap.size + 1, 2, none⟩ = some _ := cell_at (j := 2) he2 rfl
  have z0 : w2.cell? ⟨w.heap.size + 1 + 1, 0, none⟩ = some _ := cell_at (j := 0) hz2 rfl
  have z1 : w2.cell? ⟨w.heap.size + 1 + 1, 1, none⟩ = some _ := cell_at (j := 1) hz2 rfl
  have z2 : w2.cell? ⟨w.heap.size + 1 + 1, 2, none⟩ = some _ := cell_at (j := 2) hz2 rfl
  have zz : ∀ j, w2.frozen? ⟨w.heap.size + 1 + 1, j, none⟩ = false := fun j => frozen_at hz2
  have H2 := Lib.hid (And.intro hb2 (And.intro hn2 (And.intro he2 (And.intro hz2 hr2))))
  have HA2 := Lib.hid ha2
  clear hb2 hn2 he2 hz2 ha2 hr2 ax H1
  have HTB := Lib.hid (show Tab w2 g b server most l from (HB.out.below H2.out.1).t)
  have HBL := Lib.hid (show Below w0.heap.size w0 w2 from (HB.out.below H2.out.1).bel)
  refine wt_start (S := fun W => W.cell? ⟨w1.heap.size, 0, none⟩ = some (.string server) ∧ W.cell? ⟨w1.heap.size, 1, none⟩ = some (.int .i64 most) ∧ W.cell? ⟨w1.heap.size, 2, none⟩ = some (.slice sa sn sc) ∧ W.cell? ⟨w.heap.size + 1, 1, none⟩ = some (.bool may) ∧ W.cell? ⟨w.heap.size + 1, 2, none⟩ = some (.string a) ∧ W.cell? ⟨w.heap.size + 1, 4, none⟩ = some (.string by_) ∧ W.cell? ⟨w1.heap.size + 1, 0, none⟩ = some (.int .i64 ec) ∧ W.cell? ⟨w1.heap.size + 1, 1, none⟩ = some (.int .i64 (-1)) ∧ W.cell? ⟨w1.heap.size + 1, 2, none⟩ = some (.string ep)) 13 (by kernel_rfl) ⟨by kernel_rfl, by kernel_rfl, by kernel_rfl, by decide⟩ ?_
  intro HTK
  refine wt_take (i := 1) (v := ?_) HTK.out rfl (by decide) (by kernel_rfl) (by kernel_rfl) (fun _ _ _ h => h) (by exact ⟨n0, n1, n2, a1, a2, a4, e0, e1, e2⟩) (Or.inl ⟨by rfl, ?_⟩) ?_
  rotate_left
  · intro W hSw
    obtain ⟨m0, m1, m2, m3, m4, m5, m6, m7, m8⟩ := hSw
    go_simp
    try (with_reducible rfl)
  try simp only [Act.put, List.setIfInBounds_toArray, List.set_cons_zero, List.set_cons_succ]
  refine wt_take (i := 2) (v := ?_) HTK.out rfl (by decide) (by kernel_rfl) (by kernel_rfl) (fun _ _ _ h => h) (by exact ⟨n0, n1, n2, a1, a2, a4, e0, e1, e2⟩) (Or.inl ⟨by rfl, ?_⟩) ?_
  rotate_left
  · intro W hSw
    obtain ⟨m0, m1, m2, m3, m4, m5, m6, m7, m8⟩ := hSw
    go_simp
    try (with_reducible rfl)
  try simp only [Act.put, List.setIfInBounds_toArray, List.set_cons_zero, List.set_cons_succ]
  refine wt_take (i := 4) (v := ?_) HTK.out rfl (by decide) (by kernel_rfl) (by kernel_rfl) (fun _ _ _ h => h) (by exact ⟨n0, n1, n2, a1, a2, a4, e0, e1, e2⟩) (Or.inl ⟨by rfl, ?_⟩) ?_
  rotate_left
  · intro W hSw
    obtain ⟨m0, m1, m2, m3, m4, m5, m6, m7, m8⟩ := hSw
    go_simp
    try (with_reducible rfl)
  try simp only [Act.put, List.setIfInBounds_toArray, List.set_cons_zero, List.set_cons_succ]
  refine wt_take (i := 6) (v := ?_) HTK.out rfl (by decide) (by kernel_rfl) (by kernel_rfl) (fun _ _ _ h => h) (by exact ⟨n0, n1, n2, a1, a2, a4, e0, e1, e2⟩) (Or.inl ⟨by rfl, ?_⟩) ?_
  rotate_left
  · intro W hSw
    obtain ⟨m0, m1, m2, m3, m4, m5, m6, m7, m8⟩ := hSw
    go_simp
    try (with_reducible rfl)
  try simp only [Act.put, List.setIfInBounds_toArray, List.set_cons_zero, List.set_cons_succ]
  refine wt_take (i := 0) (v := ?_) HTK.out rfl (by decide) (by kernel_rfl) (by kernel_rfl) (fun _ _ _ h => h) (by exact ⟨n0, n1, n2, a1, a2, a4, e0, e1, e2⟩) (Or.inl ⟨by rfl, ?_⟩) ?_
  rotate_left
  · intro W hSw
    obtain ⟨m0, m1, m2, m3, m4, m5, m6, m7, m8⟩ := hSw
    go_simp
    try (with_reducible rfl)
  try simp only [Act.put, List.setIfInBounds_toArray, List.set_cons_zero, List.set_cons_succ]
  refine wt_take (i := 3) (v := ?_) HTK.out rfl (by decide) (by kernel_rfl) (by kernel_rfl) (fun _ _ _ h => h) (by exact ⟨n0, n1, n2, a1, a2, a4, e0, e1, e2⟩) (Or.inl ⟨by rfl, ?_⟩) ?_
  rotate_left
  · intro W hSw
    obtain ⟨m0, m1, m2, m3, m4, m5, m6, m7, m8⟩ := hSw
    go_simp
    try (with_reducible rfl)
  try simp only [Act.put, List.setIfInBounds_toArray, List.set_cons_zero, List.set_cons_succ]
  refine wt_take (i := 5) (v := ?_) HTK.out rfl (by decide) (by kernel_rfl) (by kernel_rfl) (fun _ _ _ h => h) (by exact ⟨n0, n1, n2, a1, a2, a4, e0, e1, e2⟩) (Or.inl ⟨by rfl, ?_⟩) ?_
  rotate_left
  · intro W hSw
    obtain ⟨m0, m1, m2, m3, m4, m5, m6, m7, m8⟩ := hSw
    go_simp
    try (with_reducible rfl)
  try simp only [Act.put, List.setIfInBounds_toArray, List.set_cons_zero, List.set_cons_succ]
  refine wt_take (i := 7) (v := ?_) HTK.out rfl (by decide) (by kernel_rfl) (by kernel_rfl) (fun _ _ _ h => h) (by exact ⟨n0, n1, n2, a1, a2, a4, e0, e1, e2⟩) (Or.inl ⟨by rfl, ?_⟩) ?_
  rotate_left
  · intro W hSw
    obtain ⟨m0, m1, m2, m3, m4, m5, m6, m7, m8⟩ := hSw
    go_simp
    try (with_reducible rfl)
  try simp only [Act.put, List.setIfInBounds_toArray, List.set_cons_zero, List.set_cons_succ]
  refine wt_take (i := 10) (v := ?_) HTK.out rfl (by decide) (by kernel_rfl) (by kernel_rfl) (fun _ _ _ h => h) (by exact ⟨n0, n1, n2, a1, a2, a4, e0, e1, e2⟩) (Or.inl ⟨by rfl, ?_⟩) ?_
  rotate_left
  · intro W hSw
    obtain ⟨m0, m1, m2, m3, m4, m5, m6, m7, m8⟩ := hSw
    go_simp
    try (with_reducible rfl)
  try simp only [Act.put, List.setIfInBounds_toArray, List.set_cons_zero, List.set_cons_succ]
  refine wt_ready (rs := [8]) (by kernel_rfl) (by simp) ?_
  refine AllT.cons rfl (by decide) (fun K hK => ?_) ?_
  · go_simp
    go_at_call 33
    refine (HT.out w2.drew (HTB.out.same rfl rfl) HBL.out.drew).mono ?_
    rintro e w3 ⟨v, rfl, hv, ht3, hfr⟩
    have hf : ∀ i o, w2.heap[i]? = some o → i ≠ b → w3.heap[i]? = some o := fun i o h hi => (hfr.block i (blk_lt h) hi).trans h
    have h3n := hf _ _ H2.out.2.1 (by omega)
    have h3e := hf _ _ H2.out.2.2.1 (by omega)
    have h3z := hf _ _ H2.out.2.2.2.1 (by omega)
    have h3a := hf _ _ HA2.out (by omega)
    have n0 : w3.cell? ⟨w1.heap.size, 0, none⟩ = some _ := cell_at (j := 0) h3n rfl
    have n1 : w3.cell? ⟨w1.heap.size, 1, none⟩ = some _ := cell_at (j := 1) h3n rfl
    have n2 : w3.cell? ⟨w1.heap.size, 2, none⟩ = some _ := cell_at (j := 2) h3n rfl
    have a1 : w3.cell? ⟨w.heap.size + 1, 1, none⟩ = some _ := cell_at (j := 1) h3a rfl
    have a2 : w3.cell? ⟨w.heap.size + 1, 2, none⟩ = some _ := cell_at (j := 2) h3a rfl
    have a4 : w3.cell? ⟨w.heap.size + 1, 4, none⟩ = some _ := cell_at (j := 4) h3a rfl
    have e0 : w3.cell? ⟨w1.heap.size + 1, 0, none⟩ = some _ := cell_at (j := 0) h3e rfl
    have e1 : w3.cell? ⟨w1.heap.size + 1, 1, none⟩ = some _ := cell_at (j := 1) h3e rfl
    have e2 : w3.cell? ⟨w1.heap.size + 1, 2, none⟩ = some _ := cell_at (j := 2) h3e rfl
    have z0 : w3.cell? ⟨w.heap.size + 1 + 1, 0, none⟩ = some _ := cell_at (j := 0) h3z rfl
    have z1 : w3.cell? ⟨w.heap.size + 1 + 1, 1, none⟩ = some _ := cell_at (j := 1) h3z rfl
    have z2 : w3.cell? ⟨w.heap.size + 1 + 1, 2, none⟩ = some _ := cell_at (j := 2) h3z rfl
    have zz : ∀ j, w3.frozen? ⟨w.heap.size + 1 + 1, j, none⟩ = false := fun j => frozen_at h3z
    have hr3 : RowOf w3 (fun i => (P i ∧ i < w.heap.size) ∨ w.heap.size + 1 + 1 + 1 ≤ i) 105 3 ⟨sa, sn, sc⟩ (rowsE (dropL l a by_ may)) := H2.out.2.2.2.2.same hfr.size (fun i hi h => hfr.block i hi (by show ¬ i = b; rcases h with h | h; (exact hP _ h.1); omega))
    have hb3 : Below w0.heap.size w0 w3 := Below.of_fr HBL.out.drew hfr (by have := HBL.out.size; simpa using this) (fun i hi => by omega)
    have H3 := Lib.hid (And.intro ht3 (And.intro hr3 (And.intro hb3 (And.intro h3n (And.intro h3e (And.intro h3z h3a))))))
    have HV := Lib.hid hv
    have HS3 := Lib.hid hfr.size
    have HF3 := Lib.hid (show Fr (fun i => i = b) w w3 from (Fr.of_below H2.out.1.drew).trans hfr)
    clear hv ht3 hfr hf h3n h3e h3z h3a hr3 hb3
    refine hK.out _ _ (by exact ⟨n0, n1, n2, a1, a2, a4, e0, e1, e2⟩) ?_
    clear hK K
    try simp only [Act.put, List.setIfInBounds_toArray, List.set_cons_zero, List.set_cons_succ]
    refine wt_ready (rs := [9]) (by kernel_rfl) (by simp) ?_
    refine AllT.cons rfl (by decide) (fun K hK => ?_) ?_
    · go_simp
      go_at_call 17
      refine (HE.out _ v _ H3.out.2.2.1 HV.out).mono ?_
      rintro e w4 ⟨rfl, hb4⟩
      have hf : ∀ i o, w3.heap[i]? = some o → w4.heap[i]? = some o := fun i o h => (hb4.block i (blk_lt h)).trans h
      have h4n := hf _ _ H3.out.2.2.2.1
      have h4e := hf _ _ H3.out.2.2.2.2.1
      have h4z := hf _ _ H3.out.2.2.2.2.2.1
      have h4a := hf _ _ H3.out.2.2.2.2.2.2
      have n0 : w4.cell? ⟨w1.heap.size, 0, none⟩ = some _ := cell_at (j := 0) h4n rfl
      have n1 : w4.cell? ⟨w1.heap.size, 1, none⟩ = some _ := cell_at (j := 1) h4n rfl
      have n2 : w4.cell? ⟨w1.heap.size, 2, none⟩ = some _ := cell_at (j := 2) h4n rfl
      have a1 : w4.cell? ⟨w.heap.size + 1, 1, none⟩ = some _ := cell_at (j := 1) h4a rfl
      have a2 : w4.cell? ⟨w.heap.size + 1, 2, none⟩ = some _ := cell_at (j := 2) h4a rfl
      have a4 : w4.cell? ⟨w.heap.size + 1, 4, none⟩ = some _ := cell_at (j := 4) h4a rfl
      have e0 : w4.cell? ⟨w1.heap.size + 1, 0, none⟩ = some _ := cell_at (j := 0) h4e rfl
      have e1 : w4.cell? ⟨w1.heap.size + 1, 1, none⟩ = some _ := cell_at (j := 1) h4e rfl
      have e2 : w4.cell? ⟨w1.heap.size + 1, 2, none⟩ = some _ := cell_at (j := 2) h4e rfl
      have z0 : w4.cell? ⟨w.heap.size + 1 + 1, 0, none⟩ = some _ := cell_at (j := 0) h4z rfl
      have z1 : w4.cell? ⟨w.heap.size + 1 + 1, 1, none⟩ = some _ := cell_at (j := 1) h4z rfl
      have z2 : w4.cell? ⟨w.heap.size + 1 + 1, 2, none⟩ = some _ := cell_at (j := 2) h4z rfl
      have zz : ∀ j, w4.frozen? ⟨w.heap.size + 1 + 1, j, none⟩ = false := fun j => frozen_at h4z
      have hr4 : RowOf w4 (fun i => (P i ∧ i < w.heap.size) ∨ w.heap.size + 1 + 1 + 1 ≤ i) 105 3 ⟨sa, sn, sc⟩ (rowsE (dropL l a by_ may)) := H3.out.2.1.same hb4.size (fun i hi _ => hb4.block i hi)
      have H4 := Lib.hid (And.intro (H3.out.1.below hb4) (And.intro hr4 (And.intro (H3.out.2.2.1.trans (hb4.mono (by have := HBL.out.size; have := HS3.out; simp at *; omega))) (And.intro h4z (by have := hb4.size; have := HS3.out; simp at *; omega : w2.heap.size ≤ w4.heap.size)))))
      have HF4 := Lib.hid (HF3.out.trans (Fr.of_below hb4))
      clear hb4 hf h4n h4e h4z h4a hr4
      simp only [erV, HEC.out]
      refine hK.out _ _ (by exact ⟨n0, n1, n2, a1, a2, a4, e0, e1, e2⟩) ?_
      clear hK K
      try simp only [Act.put, List.setIfInBounds_toArray, List.set_cons_zero, List.set_cons_succ]
      refine wt_take (i := 11) (v := ?_) HTK.out rfl (by decide) (by kernel_rfl) (by kernel_rfl) (fun _ _ _ h => h) (by exact ⟨n0, n1, n2, a1, a2, a4, e0, e1, e2⟩) (Or.inl ⟨by rfl, ?_⟩) ?_
      rotate_left
      · intro W hSw
        obtain ⟨m0, m1, m2, m3, m4, m5, m6, m7, m8⟩ := hSw
        go_simp
        try (with_reducible rfl)
      try simp only [Act.put, List.setIfInBounds_toArray, List.set_cons_zero, List.set_cons_succ]
      refine wt_ready (rs := [12]) (by kernel_rfl) (by simp) ?_
      refine AllT.cons rfl (by decide) (fun K hK => ?_) ?_
      · go_simp
        refine hK.out _ _ (by exact far3 (by omega) (by omega) (by omega) (by exact ⟨n0, n1, n2, a1, a2, a4, e0, e1, e2⟩)) ?_
        clear hK K
        try simp only [Act.put, List.setIfInBounds_toArray, List.set_cons_zero, List.set_cons_succ]
        refine wt_last (k := 13) (by kernel_rfl) (by kernel_rfl) (by decide) rfl (fun K hK => ?_)
        go_simp
        refine hK.out _ _ ?_
        clear hK K
        try simp only [Act.put, List.setIfInBounds_toArray, List.set_cons_zero, List.set_cons_succ]
        go_wp2_with fail
        refine bodyPost_ret (results_row_tmp' rfl _ _ (w.heap.size + 1 + 1) 34 #[.string server, .int .i64 most, .slice sa sn sc] (0, 0) _ rfl (row3_heap H4.out.2.2.2.1 rfl) Tryz.underlying34 rfl (by kernel_rfl)) rfl ?_
        exact ⟨⟨sa, sn, sc⟩, rfl, ⟨H4.out.1.same (row3_other (by omega)) (row3_other (by omega)), (H4.out.2.1.same (by simp [World.setCell]) (fun i hi h => row3_other (by rcases h with h | h <;> omega))).mono (fun i _ h => by rcases h with h | h; (exact .inl h.1); exact .inr (by omega)), (fun i h => by rcases h with h | h; (exact hP i h); omega), row3_below H4.out.2.2.1 (Nat.le_refl _) (by omega), hg0, hb0⟩, HF4.out.row3 (by omega)⟩
      exact AllT.nil
    exact AllT.nil
  exact AllT.nil
set_option maxRecDepth 100000 in
set_option maxHeartbeats 4000000 in
theorem do_add (P : Nat → Prop) (w0 w : World) (g b : Nat) (server : ByteArray) (most : Int) (l : List En) (s : Sl) (may : Bool) (a room by_ : ByteArray) (hB : Both P w0 g b server most l s w) (he : Et w0) (hm : Mx w0) (hl : RiseE l) (hn : l.length < 1000000)
    (ha : a.size < 4294967281) (hro : room.size < 4294967281) (hby : by_.size < 4294967281) :
    Calls Tryz.prog 11 #[.pointer (some ⟨g, 0, none⟩), .agg (tCells server most s), .agg #[.bool false, .bool may, .string a, .string room, .string by_]] w fun e w' => ∃ s' : Sl, e = .returned (.tuple #[.agg (tCells server most s'), .bool true]) ∧ Both (fun i => P i ∨ w.heap.size ≤ i) w0 g b server most (addL server most l a room by_) s' w' ∧ Fr (fun i => i = b) w w' := by
  have hep := he.pos
  have hmp := hm.pos
  obtain ⟨A, n, c⟩ := s
  have hgl := blk_lt hB.t.blk
  have hbl := hB.t.mp.lt
  have hgb := hB.t.ne
  have HB := Lib.hid hB
  have HR := Lib.hid (fun (W : World) (h : Below w.heap.size w W) => radd_calls W server most ⟨A, n, c⟩ (fun i => P i ∧ i < w.heap.size) l a room by_ ha hro hby (((hB.r.mono (Q := fun i => P i ∧ i < w.heap.size) fun i hi h => ⟨h, hi⟩).same h.size (fun g hg _ => h.block g hg))) hn hl)
  have HT := Lib.hid (fun (W : World) (h : Tab W g b server most l) (hw : Below w0.heap.size w0 W) => tadd_calls W g b server most l a room by_ h ha hro hby (hm.below hw hmp) (by unfold maxLen; omega))
  have HE := Lib.hid (fun (W : World) (v : Value) (Q : Nat → Prop) (hw : Below w0.heap.size w0 W) (hv : ErrV W Q v (addErr server most l a room by_)) => tell_calls W Q v _ hv (he.below hw hep) (add_path server most l a room by_))
  have hws := hB.bel.size
  have hg0 := hB.hg
  have hb0 := hB.hb
  have hP := hB.hP
  clear hB he hm hl hn ha hro hby
  simp only [tCells, Sl.val] at *
  go_enter Tryz.func11, Tryz.ntmps11
  go_wp2_with fail
  have hL3 : Below w.heap.size w (((w.alloc (.cells #[.string server, .int .i64 most, .slice A n c] 34)).alloc (.cells #[.bool false, .bool may, .string a, .string room, .string by_] 40)).alloc (.cells TZ 34)) := (((Below.refl _ _).alloc (Nat.le_refl _) _).alloc (by simp) _).alloc (by simp <;> omega) _
  have hA3 : (((w.alloc (.cells #[.string server, .int .i64 most, .slice A n c] 34)).alloc (.cells #[.bool false, .bool may, .string a, .string room, .string by_] 40)).alloc (.cells TZ 34)).heap[w.heap.size + 1]? = some (.cells #[.bool false, .bool may, .string a, .string room, .string by_] 40 (0, 0)) := (heap_old_at _ _ _ (by simp)).trans (heap_new_at _ _ _ (by simp))
  have hZ3 : (((w.alloc (.cells #[.string server, .int .i64 most, .slice A n c] 34)).alloc (.cells #[.bool false, .bool may, .string a, .string room, .string by_] 40)).alloc (.cells TZ 34)).heap[w.heap.size + 1 + 1]? = some (.cells TZ 34 (0, 0)) := heap_new_at _ _ _ (by simp)
  refine (HR.out _ hL3).mono ?_
  rintro e w1 ⟨⟨sa, sn, sc⟩, rfl, hro, hb⟩
  have hw1 : w.heap.size + 1 + 1 + 1 ≤ w1.heap.size := by have := hb.size; simpa using this
  have hbw : Below w.heap.size w w1 := hL3.trans (hb.mono (by simp; omega))
  have ha1 := (hb.block _ (blk_lt hA3)).trans hA3
  have hz1 := (hb.block _ (blk_lt hZ3)).trans hZ3
  have hr1 : RowOf w1 (fun i => (P i ∧ i < w.heap.size) ∨ w.heap.size + 1 + 1 + 1 ≤ i) 105 3 ⟨sa, sn, sc⟩ (rowsE (addL server most l a room by_)) := hro.mono fun i _ h => h.imp id (fun h => by simpa using h)
  have H1 := Lib.hid (And.intro hbw (And.intro ha1 (And.intro hz1 hr1)))
  clear hL3 hA3 hZ3 hro hb hbw ha1 hz1 hr1 HR
  obtain ⟨ec, ep, hec⟩ := eCells_form (addErr server most l a room by_)
  simp only [erV, hec]
  have HEC := Lib.hid hec
  clear hec
  have ax : w1.cell? ⟨w.heap.size + 1, 0, none⟩ = some _ := cell_at H1.out.2.1 rfl
  go_wp2_with fail
  have hn2 : ((w1.alloc (.cells #[.string server, .int .i64 most, .slice sa sn sc] 34)).alloc (.cells #[.int .i64 ec, .int .i64 (-1), .string ep] 36)).heap[w1.heap.size]? = some (.cells #[.string server, .int .i64 most, .slice sa sn sc] 34 (0, 0)) := (heap_old_at _ _ _ (by simp)).trans (heap_new_at _ _ _ rfl)
  have he2 : ((w1.alloc (.cells #[.string server, .int .i64 most, .slice sa sn sc] 34)).alloc (.cells #[.int .i64 ec, .int .i64 (-1), .string ep] 36)).heap[w1.heap.size + 1]? = some (.cells #[.int .i64 ec, .int .i64 (-1), .string ep] 36 (0, 0)) := heap_new_at _ _ _ (by simp)
  have hz2 : ((w1.alloc (.cells #[.string server, .int .i64 most, .slice sa sn sc] 34)).alloc (.cells #[.int .i64 ec, .int .i64 (-1), .string ep] 36)).heap[w.heap.size + 1 + 1]? = some (.cells TZ 34 (0, 0)) := (heap_old_at _ _ _ (by simp; omega)).trans ((heap_old_at _ _ _ (by omega)).trans H1.out.2.2.1)
  have ha2 : ((w1.alloc (.cells #[.string server, .int .i64 most, .slice sa sn sc] 34)).alloc (.cells #[.int .i64 ec, .int .i64 (-1), .string ep] 36)).heap[w.heap.size + 1]? = some (.cells #[.bool false, .bool may, .string a, .string room, .string by_] 40 (0, 0)) := (heap_old_at _ _ _ (by simp; omega)).trans ((heap_old_at _ _ _ (by omega)).trans H1.out.2.1)
  have hb2 : Below w.heap.size w ((w1.alloc (.cells #[.string server, .int .i64 most, .slice sa sn sc] 34)).alloc (.cells #[.int .i64 ec, .int .i64 (-1), .string ep] 36)) := (H1.out.1.alloc (by omega) _).alloc (by simp; omega) _
  have hs2 : w1.heap.size + 1 < ((w1.alloc (.cells #[.string server, .int .i64 most, .slice sa sn sc] 34)).alloc (.cells #[.int .i64 ec, .int .i64 (-1), .string ep] 36)).heap.size := by simp
  have hr2 : RowOf ((w1.alloc (.cells #[.string server, .int .i64 most, .slice sa sn sc] 34)).alloc (.cells #[.int .i64 ec, .int .i64 (-1), .string ep] 36)) (fun i => (P i ∧ i < w.heap.size) ∨ w.heap.size + 1 + 1 + 1 ≤ i) 105 3 ⟨sa, sn, sc⟩ (rowsE (addL server most l a room by_)) := H1.out.2.2.2.same (by simp; omega) (fun i hi _ => (heap_old_at _ _ _ (by simp; omega)).trans (heap_old_at _ _ _ hi))
  generalize ((w1.alloc (.cells #[.string server, .int .i64 most, .slice sa sn sc] 34)).alloc (.cells #[.int .i64 ec, .int .i64 (-1), .string ep] 36)) = w2 at *
  have n0 : w2.cell? ⟨w1.heap.size, 0, none⟩ = some _ := cell_at (j := 0) hn2 rfl
  have n1 : w2.cell? ⟨w1.heap.size, 1, none⟩ = some _ := cell_at (j := 1) hn2 rfl
  have n2 : w2.cell? ⟨w1.heap.size, 2, none⟩ = some _ := cell_at (j := 2) hn2 rfl
  have a2 : w2.cell? ⟨w.heap.size + 1, 2, none⟩ = some _ := cell_at (j := 2) ha2 rfl
  have a3 : w2.cell? ⟨w.heap.size + 1, 3, none⟩ = some _ := cell_at (j := 3) ha2 rfl
  have a4 : w2.cell? ⟨w.heap.size + 1, 4, none⟩ = some _ := cell_at (j := 4) ha2 rfl
  have e0 : w2.cell? ⟨w1.heap.size + 1, 0, none⟩ = some _ := cell_at (j := 0) he2 rfl
  have e1 : w2.cell? ⟨w1.heap.size + 1, 1, none⟩ = some _ := cell_at (j := 1) he2 rfl
  have e2 : w2.cell? ⟨w1.heap.size + 1, 2, none⟩ = some _ := cell_at (j := 2) he2 rfl
  have z0 : w2.cell? ⟨w.heap.size + 1 + 1, 0, none⟩ = some _ := cell_at (j := 0) hz2 rfl
  have z1 : w2.cell? ⟨w.heap.size + 1 + 1, 1, none⟩ = some _ := cell_at (j := 1) hz2 rfl
  have z2 : w2.cell? ⟨w.heap.size + 1 + 1, 2, none⟩ = some _ := cell_at (j := 2) hz2 rfl
  have zz : ∀ j, w2.frozen? ⟨w.heap.size + 1 + 1, j, none⟩ = false := fun j => frozen_at hz2
  have H2 := Lib.hid (And.intro hb2 (And.intro hn2 (And.intro he2 (And.intro hz2 hr2))))
  have HA2 := Lib.hid ha2
  clear hb2 hn2 he2 hz2 ha2 hr2 ax H1
  have HTB := Lib.hid (show Tab w2 g b server most l from (HB.out.below H2.out.1).t)
  have HBL := Lib.hid (show Below w0.heap.size w0 w2 from (HB.out.below H2.out.1).bel)
  refine wt_start (S := fun W => W.cell? ⟨w1.heap.size, 0, none⟩ = some (.string server) ∧ W.cell? ⟨w1.heap.size, 1, none⟩ = some (.int .i64 most) ∧ W.cell? ⟨w1.heap.size, 2, none⟩ = some (.slice sa sn sc) ∧ W.cell? ⟨w.heap.size + 1, 2, none⟩ = some (.string a) ∧ W.cell? ⟨w.heap.size + 1, 3, none⟩ = some (.string room) ∧ W.cell? ⟨w.heap.size + 1, 4, none⟩ = some (.string by_) ∧ W.cell? ⟨w1.heap.size + 1, 0, none⟩ = some (.int .i64 ec) ∧ W.cell? ⟨w1.heap.size + 1, 1, none⟩ = some (.int .i64 (-1)) ∧ W.cell? ⟨w1.heap.size + 1, 2, none⟩ = some (.string ep)) 13 (by kernel_rfl) ⟨by kernel_rfl, by kernel_rfl, by kernel_rfl, by decide⟩ ?_
  intro HTK
  refine wt_take (i := 1) (v := ?_) HTK.out rfl (by decide) (by kernel_rfl) (by kernel_rfl) (fun _ _ _ h => h) (by exact ⟨n0, n1, n2, a2, a3, a4, e0, e1, e2⟩) (Or.inl ⟨by rfl, ?_⟩) ?_
  rotate_left
  · intro W hSw
    obtain ⟨m0, m1, m2, m3, m4, m5, m6, m7, m8⟩ := hSw
    go_simp
    try (with_reducible rfl)
  try simp only [Act.put, List.setIfInBounds_toArray, List.set_cons_zero, List.set_cons_succ]
  refine wt_take (i := 2) (v := ?_) HTK.out rfl (by decide) (by kernel_rfl) (by kernel_rfl) (fun _ _ _ h => h) (by exact ⟨n0, n1, n2, a2, a3, a4, e0, e1, e2⟩) (Or.inl ⟨by rfl, ?_⟩) ?_
  rotate_left
  · intro W hSw
    obtain ⟨m0, m1, m2, m3, m4, m5, m6, m7, m8⟩ := hSw
    go_simp
    try (with_reducible rfl)
  try simp only [Act.put, List.setIfInBounds_toArray, List.set_cons_zero, List.set_cons_succ]
  refine wt_take (i := 4) (v := ?_) HTK.out rfl (by decide) (by kernel_rfl) (by kernel_rfl) (fun _ _ _ h => h) (by exact ⟨n0, n1, n2, a2, a3, a4, e0, e1, e2⟩) (Or.inl ⟨by rfl, ?_⟩) ?_
  rotate_left
  · intro W hSw
    obtain ⟨m0, m1, m2, m3, m4, m5, m6, m7, m8⟩ := hSw
    go_simp
    try (with_reducible rfl)
  try simp only [Act.put, List.setIfInBounds_toArray, List.set_cons_zero, List.set_cons_succ]
  refine wt_take (i := 6) (v := ?_) HTK.out rfl (by decide) (by kernel_rfl) (by kernel_rfl) (fun _ _ _ h => h) (by exact ⟨n0, n1, n2, a2, a3, a4, e0, e1, e2⟩) (Or.inl ⟨by rfl, ?_⟩) ?_
  rotate_left
  · intro W hSw
    obtain ⟨m0, m1, m2, m3, m4, m5, m6, m7, m8⟩ := hSw
    go_simp
    try (with_reducible rfl)
  try simp only [Act.put, List.setIfInBounds_toArray, List.set_cons_zero, List.set_cons_succ]
  refine wt_take (i := 0) (v := ?_) HTK.out rfl (by decide) (by kernel_rfl) (by kernel_rfl) (fun _ _ _ h => h) (by exact ⟨n0, n1, n2, a2, a3, a4, e0, e1, e2⟩) (Or.inl ⟨by rfl, ?_⟩) ?_
  rotate_left
  · intro W hSw
    obtain ⟨m0, m1, m2, m3, m4, m5, m6, m7, m8⟩ := hSw
    go_simp
    try (with_reducible rfl)
  try simp only [Act.put, List.setIfInBounds_toArray, List.set_cons_zero, List.set_cons_succ]
  refine wt_take (i := 3) (v := ?_) HTK.out rfl (by decide) (by kernel_rfl) (by kernel_rfl) (fun _ _ _ h => h) (by exact ⟨n0, n1, n2, a2, a3, a4, e0, e1, e2⟩) (Or.inl ⟨by rfl, ?_⟩) ?_
  rotate_left
  · intro W hSw
    obtain ⟨m0, m1, m2, m3, m4, m5, m6, m7, m8⟩ := hSw
    go_simp
    try (with_reducible rfl)
  try simp only [Act.put, List.setIfInBounds_toArray, List.set_cons_zero, List.set_cons_succ]
  refine wt_take (i := 5) (v := ?_) HTK.out rfl (by decide) (by kernel_rfl) (by kernel_rfl) (fun _ _ _ h => h) (by exact ⟨n0, n1, n2, a2, a3, a4, e0, e1, e2⟩) (Or.inl ⟨by rfl, ?_⟩) ?_
  rotate_left
  · intro W hSw
    obtain ⟨m0, m1, m2, m3, m4, m5, m6, m7, m8⟩ := hSw
    go_simp
    try (with_reducible rfl)
  try simp only [Act.put, List.setIfInBounds_toArray, List.set_cons_zero, List.set_cons_succ]
  refine wt_take (i := 7) (v := ?_) HTK.out rfl (by decide) (by kernel_rfl) (by kernel_rfl) (fun _ _ _ h => h) (by exact ⟨n0, n1, n2, a2, a3, a4, e0, e1, e2⟩) (Or.inl ⟨by rfl, ?_⟩) ?_
  rotate_left
  · intro W hSw
    obtain ⟨m0, m1, m2, m3, m4, m5, m6, m7, m8⟩ := hSw
    go_simp
    try (with_reducible rfl)
  try simp only [Act.put, List.setIfInBounds_toArray, List.set_cons_zero, List.set_cons_succ]
  refine wt_take (i := 10) (v := ?_) HTK.out rfl (by decide) (by kernel_rfl) (by kernel_rfl) (fun _ _ _ h => h) (by exact ⟨n0, n1, n2, a2, a3, a4, e0, e1, e2⟩) (Or.inl ⟨by rfl, ?_⟩) ?_
  rotate_left
  · intro W hSw
    obtain ⟨m0, m1, m2, m3, m4, m5, m6, m7, m8⟩ := hSw
    go_simp
    try (with_reducible rfl)
  try simp only [Act.put, List.setIfInBounds_toArray, List.set_cons_zero, List.set_cons_succ]
  refine wt_ready (rs := [8]) (by kernel_rfl) (by simp) ?_
  refine AllT.cons rfl (by decide) (fun K hK => ?_) ?_
  · go_simp
    go_at_call 24
    refine (HT.out w2.drew (HTB.out.same rfl rfl) HBL.out.drew).mono ?_
    rintro e w3 ⟨v, rfl, hv, ht3, hfr⟩
    have hf : ∀ i o, w2.heap[i]? = some o → i ≠ b → w3.heap[i]? = some o := fun i o h hi => (hfr.block i (blk_lt h) hi).trans h
    have h3n := hf _ _ H2.out.2.1 (by omega)
    have h3e := hf _ _ H2.out.2.2.1 (by omega)
    have h3z := hf _ _ H2.out.2.2.2.1 (by omega)
    have h3a := hf _ _ HA2.out (by omega)
    have n0 : w3.cell? ⟨w1.heap.size, 0, none⟩ = some _ := cell_at (j := 0) h3n rfl
    have n1 : w3.cell? ⟨w1.heap.size, 1, none⟩ = some _ := cell_at (j := 1) h3n rfl
    have n2 : w3.cell? ⟨w1.heap.size, 2, none⟩ = some _ := cell_at (j := 2) h3n rfl
    have a2 : w3.cell? ⟨w.heap.size + 1, 2, none⟩ = some _ := cell_at (j := 2) h3a rfl
    have a3 : w3.cell? ⟨w.heap.size + 1, 3, none⟩ = some _ := cell_at (j := 3) h3a rfl
    have a4 : w3.cell? ⟨w.heap.size + 1, 4, none⟩ = some _ := cell_at (j := 4) h3a rfl
    have e0 : w3.cell? ⟨w1.heap.size + 1, 0, none⟩ = some _ := cell_at (j := 0) h3e rfl
    have e1 : w3.cell? ⟨w1.heap.size + 1, 1, none⟩ = some _ := cell_at (j := 1) h3e rfl
    have e2 : w3.cell? ⟨w1.heap.size + 1, 2, none⟩ = some _ := cell_at (j := 2) h3e rfl
    have z0 : w3.cell? ⟨w.heap.size + 1 + 1, 0, none⟩ = some _ := cell_at (j := 0) h3z rfl
    have z1 : w3.cell? ⟨w.heap.size + 1 + 1, 1, none⟩ = some _ := cell_at (j := 1) h3z rfl
    have z2 : w3.cell? ⟨w.heap.size + 1 + 1, 2, none⟩ = some _ := cell_at (j := 2) h3z rfl
    have zz : ∀ j, w3.frozen? ⟨w.heap.size + 1 + 1, j, none⟩ = false := fun j => frozen_at h3z
    have hr3 : RowOf w3 (fun i => (P i ∧ i < w.heap.size) ∨ w.heap.size + 1 + 1 + 1 ≤ i) 105 3 ⟨sa, sn, sc⟩ (rowsE (addL server most l a room by_)) := H2.out.2.2.2.2.same hfr.size (fun i hi h => hfr.block i hi (by show ¬ i = b; rcases h with h | h; (exact hP _ h.1); omega))
    have hb3 : Below w0.heap.size w0 w3 := Below.of_fr HBL.out.drew hfr (by have := HBL.out.size; simpa using this) (fun i hi => by omega)
    have H3 := Lib.hid (And.intro ht3 (And.intro hr3 (And.intro hb3 (And.intro h3n (And.intro h3e (And.intro h3z h3a))))))
    have HV := Lib.hid hv
    have HS3 := Lib.hid hfr.size
    have HF3 := Lib.hid (show Fr (fun i => i = b) w w3 from (Fr.of_below H2.out.1.drew).trans hfr)
    clear hv ht3 hfr hf h3n h3e h3z h3a hr3 hb3
    refine hK.out _ _ (by exact ⟨n0, n1, n2, a2, a3, a4, e0, e1, e2⟩) ?_
    clear hK K
    try simp only [Act.put, List.setIfInBounds_toArray, List.set_cons_zero, List.set_cons_succ]
    refine wt_ready (rs := [9]) (by kernel_rfl) (by simp) ?_
    refine AllT.cons rfl (by decide) (fun K hK => ?_) ?_
    · go_simp
      go_at_call 17
      refine (HE.out _ v _ H3.out.2.2.1 HV.out).mono ?_
      rintro e w4 ⟨rfl, hb4⟩
      have hf : ∀ i o, w3.heap[i]? = some o → w4.heap[i]? = some o := fun i o h => (hb4.block i (blk_lt h)).trans h
      have h4n := hf _ _ H3.out.2.2.2.1
      have h4e := hf _ _ H3.out.2.2.2.2.1
      have h4z := hf _ _ H3.out.2.2.2.2.2.1
      have h4a := hf _ _ H3.out.2.2.2.2.2.2
      have n0 : w4.cell? ⟨w1.heap.size, 0, none⟩ = some _ := cell_at (j := 0) h4n rfl
      have n1 : w4.cell? ⟨w1.heap.size, 1, none⟩ = some _ := cell_at (j := 1) h4n rfl
      have n2 : w4.cell? ⟨w1.heap.size, 2, none⟩ = some _ := cell_at (j := 2) h4n rfl
      have a2 : w4.cell? ⟨w.heap.size + 1, 2, none⟩ = some _ := cell_at (j := 2) h4a rfl
      have a3 : w4.cell? ⟨w.heap.size + 1, 3, none⟩ = some _ := cell_at (j := 3) h4a rfl
      have a4 : w4.cell? ⟨w.heap.size + 1, 4, none⟩ = some _ := cell_at (j := 4) h4a rfl
      have e0 : w4.cell? ⟨w1.heap.size + 1, 0, none⟩ = some _ := cell_at (j := 0) h4e rfl
      have e1 : w4.cell? ⟨w1.heap.size + 1, 1, none⟩ = some _ := cell_at (j := 1) h4e rfl
      have e2 : w4.cell? ⟨w1.heap.size + 1, 2, none⟩ = some _ := cell_at (j := 2) h4e rfl
      have z0 : w4.cell? ⟨w.heap.size + 1 + 1, 0, none⟩ = some _ := cell_at (j := 0) h4z rfl
      have z1 : w4.cell? ⟨w.heap.size + 1 + 1, 1, none⟩ = some _ := cell_at (j := 1) h4z rfl
      have z2 : w4.cell? ⟨w.heap.size + 1 + 1, 2, none⟩ = some _ := cell_at (j := 2) h4z rfl
      have zz : ∀ j, w4.frozen? ⟨w.heap.size + 1 + 1, j, none⟩ = false := fun j => frozen_at h4z
      have hr4 : RowOf w4 (fun i => (P i ∧ i < w.heap.size) ∨ w.heap.size + 1 + 1 + 1 ≤ i) 105 3 ⟨sa, sn, sc⟩ (rowsE (addL server most l a room by_)) := H3.out.2.1.same hb4.size (fun i hi _ => hb4.block i hi)
      have H4 := Lib.hid (And.intro (H3.out.1.below hb4) (And.intro hr4 (And.intro (H3.out.2.2.1.trans (hb4.mono (by have := HBL.out.size; have := HS3.out; simp at *; omega))) (And.intro h4z (by have := hb4.size; have := HS3.out; simp at *; omega : w2.heap.size ≤ w4.heap.size)))))
      have HF4 := Lib.hid (HF3.out.trans (Fr.of_below hb4))
      clear hb4 hf h4n h4e h4z h4a hr4
      simp only [erV, HEC.out]
      refine hK.out _ _ (by exact ⟨n0, n1, n2, a2, a3, a4, e0, e1, e2⟩) ?_
      clear hK K
      try simp only [Act.put, List.setIfInBounds_toArray, List.set_cons_zero, List.set_cons_succ]
      refine wt_take (i := 11) (v := ?_) HTK.out rfl (by decide) (by kernel_rfl) (by kernel_rfl) (fun _ _ _ h => h) (by exact ⟨n0, n1, n2, a2, a3, a4, e0, e1, e2⟩) (Or.inl ⟨by rfl, ?_⟩) ?_
      rotate_left
      · intro W hSw
        obtain ⟨m0, m1, m2, m3, m4, m5, m6, m7, m8⟩ := hSw
        go_simp
        try (with_reducible rfl)
      try simp only [Act.put, List.setIfInBounds_toArray, List.set_cons_zero, List.set_cons_succ]
      refine wt_ready (rs := [12]) (by kernel_rfl) (by simp) ?_
      refine AllT.cons rfl (by decide) (fun K hK => ?_) ?_
      · go_simp
        refine hK.out _ _ (by exact far3 (by omega) (by omega) (by omega) (by exact ⟨n0, n1, n2, a2, a3, a4, e0, e1, e2⟩)) ?_
        clear hK K
        try simp only [Act.put, List.setIfInBounds_toArray, List.set_cons_zero, List.set_cons_succ]
        refine wt_last (k := 13) (by kernel_rfl) (by kernel_rfl) (by decide) rfl (fun K hK => ?_)
        go_simp
        refine hK.out _ _ ?_
        clear hK K
        try simp only [Act.put, List.setIfInBounds_toArray, List.set_cons_zero, List.set_cons_succ]
        go_wp2_with fail
        refine bodyPost_ret (results_row_tmp' rfl _ _ (w.heap.size + 1 + 1) 34 #[.string server, .int .i64 most, .slice sa sn sc] (0, 0) _ rfl (row3_heap H4.out.2.2.2.1 rfl) Tryz.underlying34 rfl (by kernel_rfl)) rfl ?_
        exact ⟨⟨sa, sn, sc⟩, rfl, ⟨H4.out.1.same (row3_other (by omega)) (row3_other (by omega)), (H4.out.2.1.same (by simp [World.setCell]) (fun i hi h => row3_other (by rcases h with h | h <;> omega))).mono (fun i _ h => by rcases h with h | h; (exact .inl h.1); exact .inr (by omega)), (fun i h => by rcases h with h | h; (exact hP i h); omega), row3_below H4.out.2.2.1 (Nat.le_refl _) (by omega), hg0, hb0⟩, HF4.out.row3 (by omega)⟩
      exact AllT.nil
    exact AllT.nil
  exact AllT.nil
theorem do_calls (P : Nat → Prop) (w0 w : World) (g b : Nat) (server : ByteArray) (most : Int) (l : List En) (s : Sl) (x : Ac) (hB : Both P w0 g b server most l s w) (he : Et w0) (hm : Mx w0) (hl : RiseE l) (hn : l.length < 1000000)
    (ha : x.a.size < 4294967281) (hro : x.r.size < 4294967281) (hby : x.b.size < 4294967281) :
    Calls Tryz.prog 11 #[.pointer (some ⟨g, 0, none⟩), .agg (tCells server most s), .agg x.cells] w fun e w' => ∃ s' : Sl, e = .returned (.tuple #[.agg (tCells server most s'), .bool true]) ∧ Both (fun i => P i ∨ w.heap.size ≤ i) w0 g b server most (doL server most l x) s' w' ∧ Fr (fun i => i = b) w w' := by
  obtain ⟨d, may, a, r, by_⟩ := x
  cases d with
  | true => exact do_drop P w0 w g b server most l s may a r by_ hB he hm hl hn ha hro hby
  | false => exact do_add P w0 w g b server most l s may a r by_ hB he hm hl hn ha hro hby
end Go.Proofs.YtgnoaeldmpbjmaaGreatDoor
/- A table and the document's: alike. -/
set_option linter.unusedVariables false
set_option linter.unusedSimpArgs false
namespace Go.Proofs.YtgnoaeldmpbjmaaGreatDoor
open Go.RowKit Go.Maps Go.Sort

set_option maxRecDepth 100000 in
/-- Two rows of the same texts. -/
theorem strs_same (w : World) (P Q : Nat → Prop) (sa sb : Sl) (l : List ByteArray) (h1 : RowOf w P 9 1 sa (srows l)) (h2 : RowOf w Q 9 1 sb (srows l)) :
    Calls Tryz.prog 42 #[sa.val, sb.val] w fun e w' => e = .returned (.bool true) ∧ Below w.heap.size w w' := by
  have hn1 : sa.n = l.length := by have := h1.1; simpa using this
  have hn2 : sb.n = l.length := by have := h2.1; simpa using this
  have hnn : l.length ≤ 1000000 := by have := h1.2.1; simpa using this
  have H1 := Lib.hid h1
  have H2 := Lib.hid h2
  obtain ⟨A1, n1, c1⟩ := sa
  obtain ⟨A2, n2, c2⟩ := sb
  dsimp only at hn1 hn2
  subst hn1 hn2
  clear h1 h2
  simp only [Sl.val]
  go_enter Tryz.func42, Tryz.ntmps42
  go_wp2_with fail
  go_loopw [13] (fun v wr => ∃ i : Nat, i ≤ l.length ∧ v = .int .i64 i ∧ Below w.heap.size w wr) (fun v _ => l.length - (intOf v).toNat)
  case atStart => exact ⟨0, by omega, rfl, Below.refl _ _⟩
  case round =>
    obtain ⟨i, hi, rfl, hb⟩ := hrel
    have HB := Lib.hid hb
    by_cases hlt : i < l.length
    · have hy : l[i]? = some l[i] := List.getElem?_eq_getElem hlt
      generalize l[i] = y at hy
      have hyc : (srows l)[i]? = some [.string y] := by simp [hy]
      obtain ⟨r1, ha1⟩ : ∃ r, A1 = some ⟨r, 0, none⟩ := by
        rcases H1.out.2.2 with ⟨_, hnil⟩ | ⟨r, h1, _⟩
        · have := congrArg List.length hnil; simp at this; subst this; simp at hlt
        · exact ⟨r, h1⟩
      obtain ⟨r2, ha2⟩ : ∃ r, A2 = some ⟨r, 0, none⟩ := by
        rcases H2.out.2.2 with ⟨_, hnil⟩ | ⟨r, h1, _⟩
        · have := congrArg List.length hnil; simp at this; subst this; simp at hlt
        · exact ⟨r, h1⟩
      obtain ⟨_, hrl1, hrw1⟩ := H1.out.at ha1
      obtain ⟨_, hrl2, hrw2⟩ := H2.out.at ha2
      have k1 : wr.cell? ⟨r1, i, none⟩ = some (.string y) := by
        have := (hb.cell (p := ⟨r1, i * 1 + 0, none⟩) hrw1.lt).trans (hrw1.cell (d := 0) hyc rfl)
        simpa using this
      have k2 : wr.cell? ⟨r2, i, none⟩ = some (.string y) := by
        have := (hb.cell (p := ⟨r2, i * 1 + 0, none⟩) hrw2.lt).trans (hrw2.cell (d := 0) hyc rfl)
        simpa using this
      subst ha1 ha2
      clear hy hyc hrw1 hrw2 hb
      go_wp2_with fail
      go_quiet (fail)
      go_wp2_with fail
      exact ⟨⟨i + 1, by omega, by go_num, below_drewN' HB.out _⟩, by simp [intOf]; omega⟩
    · obtain rfl : i = l.length := by omega
      clear hb
      go_wp2_with fail
      go_ret
      exact ⟨rfl, HB.out⟩
def SmallE (l : List En) : Prop := ∀ x ∈ l, x.a.size ≤ maxLen
theorem small_do {l : List En} (h : SmallE l) (server : ByteArray) (most : Int) (x : Ac) (hx : x.a.size ≤ maxLen) : SmallE (doL server most l x) := by
  intro y hy
  unfold doL at hy
  split at hy
  · unfold dropL at hy
    split at hy
    · exact h y ((List.mem_filter.1 hy).1)
    · exact h y hy
  · unfold addL at hy
    split at hy
    · rcases mem_ins hy with rfl | hy
      · exact hx
      · exact h y hy
    · exact h y hy

set_option maxRecDepth 100000 in
set_option maxHeartbeats 4000000 in
theorem both_is (P : Nat → Prop) (w0 w : World) (g b : Nat) (server : ByteArray) (most : Int) (l : List En) (s : Sl) (hB : Both P w0 g b server most l s w) (hl : RiseE l) (hs : SmallE l) (hn : l.length ≤ 1000000) :
    Calls Tryz.prog 18 #[.pointer (some ⟨g, 0, none⟩), .agg (tCells server most s)] w fun e w' => e = .returned (.bool true) ∧ Below w.heap.size w w' := by
  have hgl := blk_lt hB.t.blk
  have hnl : s.n = l.length := by have := hB.r.1; simpa using this
  have HB := Lib.hid hB
  have HALL := Lib.hid (fun (W : World) (h : Below w.heap.size w W) => allE_calls W g b server most l (hB.t.below h) hl hn)
  have HLEN := Lib.hid (fun (W : World) (h : Below w.heap.size w W) => len_calls W g b server most l (hB.t.below h))
  have HGET := Lib.hid (fun (W : World) (h : Below w.heap.size w W) (x : En) (hx : x ∈ l) => hl.get hx ▸ get_calls W g b server most l x.a (hB.t.below h) (hs x hx))
  have HOF := Lib.hid (fun (W : World) (h : Below w.heap.size w W) (room : ByteArray) => ofE_calls W g b server most l room (hB.t.below h) hl hn)
  have HROF := Lib.hid (fun (W : World) (h : Below w.heap.size w W) (room : ByteArray) => rof_calls W server most s _ l room (hB.r.same h.size (fun g hg _ => h.block g hg)) hn)
  have HROW := Lib.hid hB.r
  obtain ⟨A, n, c⟩ := s
  dsimp only at hnl
  subst hnl
  clear hB hl hs
  simp only [tCells, Sl.val] at *
  go_enter Tryz.func18, Tryz.ntmps18
  go_wp2_with fail
  refine (HALL.out _ ((Below.refl _ _).alloc (Nat.le_refl _) _)).mono ?_
  rintro e w1 ⟨⟨xa, xn, xc⟩, rfl, hrow, hb⟩
  have hxn : xn = l.length := by have := hrow.1; simpa using this
  subst hxn
  have hbox : w1.heap[w.heap.size]? = some (.cells #[.string server, .int .i64 most, .slice A l.length c] 34 (0, 0)) := (hb.block _ (by simp)).trans (heap_new_at _ _ _ rfl)
  have k2 := cell_at (j := 2) hbox rfl
  have HB1 := Lib.hid (show Below w.heap.size w w1 from ((Below.refl _ _).alloc (Nat.le_refl _) _).trans (hb.mono (by simp)))
  have HX := Lib.hid (show RowOf w1 (fun g => w.heap.size + 1 ≤ g) 49 3 ⟨xa, l.length, xc⟩ (rowsE l) from hrow.mono fun i _ h => by simpa using h)
  have HBOX := Lib.hid hbox
  clear hb hrow hbox HALL
  go_wp2_with fail
  refine wt_start (S := fun W => W.cell? ⟨w.heap.size, 2, none⟩ = some (.slice A l.length c)) 13 (by kernel_rfl) ⟨by kernel_rfl, by kernel_rfl, by kernel_rfl, by decide⟩ ?_
  intro HTK
  refine wt_take (i := 0) (v := ?_) HTK.out rfl (by decide) (by kernel_rfl) (by kernel_rfl) (fun _ _ _ h => h) (by exact k2) (Or.inl ⟨by rfl, ?_⟩) ?_
  rotate_left
  · intro W hSw
    try dsimp only at hSw
    go_simp
    try (with_reducible rfl)
  try simp only [List.getElem_toArray, List.getElem_cons_zero, List.getElem_cons_succ, Act.put, List.setIfInBounds_toArray, List.set_cons_zero, List.set_cons_succ]
  refine wt_take (i := 2) (v := ?_) HTK.out rfl (by decide) (by kernel_rfl) (by kernel_rfl) (fun _ _ _ h => h) (by exact k2) (Or.inl ⟨by rfl, ?_⟩) ?_
  rotate_left
  · intro W hSw
    try dsimp only at hSw
    go_simp
    try (with_reducible rfl)
  try simp only [List.getElem_toArray, List.getElem_cons_zero, List.getElem_cons_succ, Act.put, List.setIfInBounds_toArray, List.set_cons_zero, List.set_cons_succ]
  refine wt_take (i := 3) (v := ?_) HTK.out rfl (by decide) (by kernel_rfl) (by kernel_rfl) (fun _ _ _ h => h) (by exact k2) (Or.inl ⟨by rfl, ?_⟩) ?_
  rotate_left
  · intro W hSw
    try dsimp only at hSw
    go_simp
    try (with_reducible rfl)
  try simp only [List.getElem_toArray, List.getElem_cons_zero, List.getElem_cons_succ, Act.put, List.setIfInBounds_toArray, List.set_cons_zero, List.set_cons_succ]
  refine wt_take (i := 4) (v := ?_) HTK.out rfl (by decide) (by kernel_rfl) (by kernel_rfl) (fun _ _ _ h => h) (by exact k2) (Or.inl ⟨by rfl, ?_⟩) ?_
  rotate_left
  · intro W hSw
    try dsimp only at hSw
    go_simp
    try (with_reducible rfl)
  try simp only [List.getElem_toArray, List.getElem_cons_zero, List.getElem_cons_succ, Act.put, List.setIfInBounds_toArray, List.set_cons_zero, List.set_cons_succ]
  refine wt_ready (rs := [1]) (by kernel_rfl) (by simp) ?_
  refine AllT.cons rfl (by decide) (fun K hK => ?_) ?_
  · go_simp
    go_at_call 23
    refine (HLEN.out w1.drew HB1.out.drew).mono ?_
    rintro e wx ⟨rfl, rfl⟩
    refine hK.out _ _ (by exact k2) ?_
    clear hK K
    try simp only [List.getElem_toArray, List.getElem_cons_zero, List.getElem_cons_succ, Act.put, List.setIfInBounds_toArray, List.set_cons_zero, List.set_cons_succ]
    refine wt_take (i := 5) (v := ?_) HTK.out rfl (by decide) (by kernel_rfl) (by kernel_rfl) (fun _ _ _ h => h) (by exact k2) (Or.inl ⟨by rfl, ?_⟩) ?_
    rotate_left
    · intro W hSw
      try dsimp only at hSw
      go_simp
      try (with_reducible rfl)
    try simp only [List.getElem_toArray, List.getElem_cons_zero, List.getElem_cons_succ, Act.put, List.setIfInBounds_toArray, List.set_cons_zero, List.set_cons_succ]
    refine wt_take (i := 6) (v := ?_) HTK.out rfl (by decide) (by kernel_rfl) (by kernel_rfl) (fun _ _ _ h => h) (by exact k2) (Or.inl ⟨by rfl, ?_⟩) ?_
    rotate_left
    · intro W hSw
      try dsimp only at hSw
      go_simp
      try (with_reducible rfl)
    try simp only [List.getElem_toArray, List.getElem_cons_zero, List.getElem_cons_succ, Act.put, List.setIfInBounds_toArray, List.set_cons_zero, List.set_cons_succ]
    refine wt_take (i := 7) (v := ?_) HTK.out rfl (by decide) (by kernel_rfl) (by kernel_rfl) (fun _ _ _ h => h) (by exact k2) (Or.inl ⟨by rfl, ?_⟩) ?_
    rotate_left
    · intro W hSw
      try dsimp only at hSw
      go_simp
      try (with_reducible rfl)
    try simp only [List.getElem_toArray, List.getElem_cons_zero, List.getElem_cons_succ, Act.put, List.setIfInBounds_toArray, List.set_cons_zero, List.set_cons_succ]
    refine wt_take (i := 8) (v := ?_) HTK.out rfl (by decide) (by kernel_rfl) (by kernel_rfl) (fun _ _ _ h => h) (by exact k2) (Or.inl ⟨by rfl, ?_⟩) ?_
    rotate_left
    · intro W hSw
      try dsimp only at hSw
      go_simp
      try (with_reducible rfl)
    try simp only [List.getElem_toArray, List.getElem_cons_zero, List.getElem_cons_succ, Act.put, List.setIfInBounds_toArray, List.set_cons_zero, List.set_cons_succ]
    refine wt_take (i := 9) (v := ?_) HTK.out rfl (by decide) (by kernel_rfl) (by kernel_rfl) (fun _ _ _ h => h) (by exact k2) (Or.inl ⟨by rfl, ?_⟩) ?_
    rotate_left
    · intro W hSw
      try dsimp only at hSw
      go_simp
      try (with_reducible rfl)
    try simp only [List.getElem_toArray, List.getElem_cons_zero, List.getElem_cons_succ, Act.put, List.setIfInBounds_toArray, List.set_cons_zero, List.set_cons_succ]
    refine wt_take (i := 10) (v := ?_) HTK.out rfl (by decide) (by kernel_rfl) (by kernel_rfl) (fun _ _ _ h => h) (by exact k2) (Or.inl ⟨by rfl, ?_⟩) ?_
    rotate_left
    · intro W hSw
      try dsimp only at hSw
      go_simp
      try (with_reducible rfl)
    try simp only [List.getElem_toArray, List.getElem_cons_zero, List.getElem_cons_succ, Act.put, List.setIfInBounds_toArray, List.set_cons_zero, List.set_cons_succ]
    refine wt_take (i := 11) (v := ?_) HTK.out rfl (by decide) (by kernel_rfl) (by kernel_rfl) (fun _ _ _ h => h) (by exact k2) (Or.inl ⟨by rfl, ?_⟩) ?_
    rotate_left
    · intro W hSw
      try dsimp only at hSw
      go_simp
      try (with_reducible rfl)
    try simp only [List.getElem_toArray, List.getElem_cons_zero, List.getElem_cons_succ, Act.put, List.setIfInBounds_toArray, List.set_cons_zero, List.set_cons_succ]
    refine wt_take (i := 12) (v := ?_) HTK.out rfl (by decide) (by kernel_rfl) (by kernel_rfl) (fun _ _ _ h => h) (by exact k2) (Or.inl ⟨by rfl, ?_⟩) ?_
    rotate_left
    · intro W hSw
      try dsimp only at hSw
      go_simp
      try (with_reducible rfl)
    try simp only [List.getElem_toArray, List.getElem_cons_zero, List.getElem_cons_succ, Act.put, List.setIfInBounds_toArray, List.set_cons_zero, List.set_cons_succ]
    refine wt_last (k := 13) (by kernel_rfl) (by kernel_rfl) (by decide) rfl (fun K hK => ?_)
    go_simp
    refine hK.out _ _ ?_
    clear hK K
    try simp only [List.getElem_toArray, List.getElem_cons_zero, List.getElem_cons_succ, Act.put, List.setIfInBounds_toArray, List.set_cons_zero, List.set_cons_succ]
    go_wp2_with fail
    go_loopw [29] (fun v wr => ∃ i : Nat, i ≤ l.length ∧ v = .int .i64 i ∧ Below w1.heap.size w1 wr) (fun v _ => l.length - (intOf v).toNat)
    case atStart => exact ⟨0, by omega, rfl, (Below.refl _ _).drew⟩
    case round =>
      obtain ⟨i, hi, rfl, hb⟩ := hrel
      by_cases hlt : i < l.length
      · have hy : l[i]? = some l[i] := List.getElem?_eq_getElem hlt
        have hmem : l[i] ∈ l := List.getElem_mem hlt
        generalize l[i] = y at hy hmem
        obtain ⟨rx, hax⟩ : ∃ r, xa = some ⟨r, 0, none⟩ := by
          rcases HX.out.2.2 with ⟨_, hnil⟩ | ⟨r, h1, _⟩
          · have := congrArg List.length hnil; simp at this; subst this; simp at hlt
          · exact ⟨r, h1⟩
        obtain ⟨ra, haa⟩ : ∃ r, A = some ⟨r, 0, none⟩ := by
          rcases HROW.out.2.2 with ⟨_, hnil⟩ | ⟨r, h1, _⟩
          · have := congrArg List.length hnil; simp at this; subst this; simp at hlt
          · exact ⟨r, h1⟩
        obtain ⟨_, hrl1, hrw1⟩ := HX.out.at hax
        obtain ⟨_, hrl2, hrw2⟩ := HROW.out.at haa
        have hyc : (rowsE l)[i]? = some y.cells.toList := by simp [hy]
        have HG := Lib.hid (fun (W : World) (h : Below w.heap.size w W) => HGET.out W h y hmem)
        obtain ⟨ya, yr, yb⟩ := y
        have x0 : wr.cell? ⟨rx, i * 3, none⟩ = some (.string ya) := (hb.cell (p := ⟨rx, i * 3 + 0, none⟩) hrw1.lt).trans (hrw1.cell (d := 0) hyc rfl)
        have x1 : wr.cell? ⟨rx, i * 3 + 1, none⟩ = some (.string yr) := (hb.cell (p := ⟨rx, i * 3 + 1, none⟩) hrw1.lt).trans (hrw1.cell (d := 1) hyc rfl)
        have x2 : wr.cell? ⟨rx, i * 3 + 2, none⟩ = some (.string yb) := (hb.cell (p := ⟨rx, i * 3 + 2, none⟩) hrw1.lt).trans (hrw1.cell (d := 2) hyc rfl)
        have hbw : Below w.heap.size w wr := HB1.out.trans (hb.mono HB1.out.size)
        have y0 : wr.cell? ⟨ra, i * 3, none⟩ = some (.string ya) := (hbw.cell (p := ⟨ra, i * 3 + 0, none⟩) hrw2.lt).trans (hrw2.cell (d := 0) hyc rfl)
        have y1 : wr.cell? ⟨ra, i * 3 + 1, none⟩ = some (.string yr) := (hbw.cell (p := ⟨ra, i * 3 + 1, none⟩) hrw2.lt).trans (hrw2.cell (d := 1) hyc rfl)
        have y2 : wr.cell? ⟨ra, i * 3 + 2, none⟩ = some (.string yb) := (hbw.cell (p := ⟨ra, i * 3 + 2, none⟩) hrw2.lt).trans (hrw2.cell (d := 2) hyc rfl)
        have hrwr : ra < wr.heap.size := Nat.lt_of_lt_of_le hrl2 hbw.size
        have hboxr : wr.heap[w.heap.size]? = some (.cells #[.string server, .int .i64 most, .slice A l.length c] 34 (0, 0)) := (hb.block _ (blk_lt HBOX.out)).trans HBOX.out
        have k2r := cell_at (j := 2) hboxr rfl
        have hwlt := blk_lt hboxr
        subst hax haa
        have HB := Lib.hid hb
        have HBR := Lib.hid hboxr
        clear hy hyc hrw1 hrw2 hb hbw hmem hboxr HGET k2
        go_wp2_with fail
        have hbw2 : Below w.heap.size w ((wr.alloc (.cells #[.string ya, .string yr, .string yb] 49)).alloc (.cells #[.string ya, .string yr, .string yb] 105)) := ((HB1.out.trans (HB.out.mono HB1.out.size)).alloc (by omega) _).alloc (by simp; omega) _
        refine (HG.out _ hbw2).mono ?_
        rintro e w2 ⟨rfl, hb2⟩
        have hq2 : w2.heap[wr.heap.size]? = some (.cells #[.string ya, .string yr, .string yb] 49 (0, 0)) := (hb2.block _ (by simp <;> omega)).trans ((heap_old_at _ _ _ (by simp <;> omega)).trans (heap_new_at _ _ _ rfl))
        have hu2 : w2.heap[wr.heap.size + 1]? = some (.cells #[.string ya, .string yr, .string yb] 105 (0, 0)) := (hb2.block _ (by simp)).trans (heap_new_at _ _ _ (by simp))
        have hbx2 : w2.heap[w.heap.size]? = some (.cells #[.string server, .int .i64 most, .slice (some ⟨ra, 0, none⟩) l.length c] 34 (0, 0)) := (hb2.block _ (by simp; omega)).trans ((heap_old_at _ _ _ (by simp; omega)).trans ((heap_old_at _ _ _ hwlt).trans HBR.out))
        have hb12 : Below w1.heap.size w1 w2 := ((HB.out.alloc HB.out.size _).alloc (by have := HB.out.size; simp; omega) _).trans (hb2.mono (by have := HB.out.size; simp; omega))
        have H2 := Lib.hid (And.intro hb12 (And.intro hq2 (And.intro hu2 hbx2)))
        clear hbw2 hb2 hq2 hu2 hbx2 hb12 HG x0 x1 x2 y0 y1 y2 k2r
        unfold getV
        go_wp2_with fail
        have hw3q : (w2.alloc (.cells #[.string ya, .string yr, .string yb] 49)).heap[wr.heap.size]? = some (.cells #[.string ya, .string yr, .string yb] 49 (0, 0)) := (heap_old_at _ _ _ (blk_lt H2.out.2.1)).trans H2.out.2.1
        have hw3u : (w2.alloc (.cells #[.string ya, .string yr, .string yb] 49)).heap[wr.heap.size + 1]? = some (.cells #[.string ya, .string yr, .string yb] 105 (0, 0)) := (heap_old_at _ _ _ (blk_lt H2.out.2.2.1)).trans H2.out.2.2.1
        have hw3v : (w2.alloc (.cells #[.string ya, .string yr, .string yb] 49)).heap[w2.heap.size]? = some (.cells #[.string ya, .string yr, .string yb] 49 (0, 0)) := heap_new_at _ _ _ rfl
        have hw3b : (w2.alloc (.cells #[.string ya, .string yr, .string yb] 49)).heap[w.heap.size]? = some (.cells #[.string server, .int .i64 most, .slice (some ⟨ra, 0, none⟩) l.length c] 34 (0, 0)) := (heap_old_at _ _ _ (blk_lt H2.out.2.2.2)).trans H2.out.2.2.2
        have hb3 : Below w1.heap.size w1 (w2.alloc (.cells #[.string ya, .string yr, .string yb] 49)) := H2.out.1.alloc H2.out.1.size _
        generalize w2.alloc (.cells #[.string ya, .string yr, .string yb] 49) = w3 at *
        have q0 : w3.cell? ⟨wr.heap.size, 0, none⟩ = some _ := cell_at (j := 0) hw3q rfl
        have q1 : w3.cell? ⟨wr.heap.size, 1, none⟩ = some _ := cell_at (j := 1) hw3q rfl
        have q2 : w3.cell? ⟨wr.heap.size, 2, none⟩ = some _ := cell_at (j := 2) hw3q rfl
        have u0 : w3.cell? ⟨wr.heap.size + 1, 0, none⟩ = some _ := cell_at (j := 0) hw3u rfl
        have u1 : w3.cell? ⟨wr.heap.size + 1, 1, none⟩ = some _ := cell_at (j := 1) hw3u rfl
        have u2 : w3.cell? ⟨wr.heap.size + 1, 2, none⟩ = some _ := cell_at (j := 2) hw3u rfl
        have v0 : w3.cell? ⟨w2.heap.size, 0, none⟩ = some _ := cell_at (j := 0) hw3v rfl
        have v1 : w3.cell? ⟨w2.heap.size, 1, none⟩ = some _ := cell_at (j := 1) hw3v rfl
        have v2 : w3.cell? ⟨w2.heap.size, 2, none⟩ = some _ := cell_at (j := 2) hw3v rfl
        have b0 : w3.cell? ⟨w.heap.size, 0, none⟩ = some _ := cell_at (j := 0) hw3b rfl
        have b1 : w3.cell? ⟨w.heap.size, 1, none⟩ = some _ := cell_at (j := 1) hw3b rfl
        have b2 : w3.cell? ⟨w.heap.size, 2, none⟩ = some _ := cell_at (j := 2) hw3b rfl
        have Hw3 := Lib.hid (And.intro hb3 (And.intro hw3q (And.intro hw3u (And.intro hw3v hw3b))))
        clear hb3 hw3q hw3u hw3v hw3b H2
        refine wt_start (S := fun W => W.cell? ⟨wr.heap.size, 0, none⟩ = some (.string ya) ∧ W.cell? ⟨wr.heap.size, 1, none⟩ = some (.string yr) ∧ W.cell? ⟨wr.heap.size, 2, none⟩ = some (.string yb) ∧ W.cell? ⟨wr.heap.size + 1, 0, none⟩ = some (.string ya) ∧ W.cell? ⟨wr.heap.size + 1, 1, none⟩ = some (.string yr) ∧ W.cell? ⟨wr.heap.size + 1, 2, none⟩ = some (.string yb) ∧ W.cell? ⟨w2.heap.size, 0, none⟩ = some (.string ya) ∧ W.cell? ⟨w2.heap.size, 1, none⟩ = some (.string yr) ∧ W.cell? ⟨w2.heap.size, 2, none⟩ = some (.string yb) ∧ W.cell? ⟨w.heap.size, 0, none⟩ = some (.string server) ∧ W.cell? ⟨w.heap.size, 1, none⟩ = some (.int .i64 most) ∧ W.cell? ⟨w.heap.size, 2, none⟩ = some (.slice (some ⟨ra, 0, none⟩) l.length c)) 39 (by kernel_rfl) ⟨by kernel_rfl, by kernel_rfl, by kernel_rfl, by decide⟩ ?_
        intro HTK
        refine wt_take (i := 0) (v := ?_) HTK.out rfl (by decide) (by kernel_rfl) (by kernel_rfl) (fun _ _ _ h => h) (by exact ⟨q0, q1, q2, u0, u1, u2, v0, v1, v2, b0, b1, b2⟩) (Or.inl ⟨by rfl, ?_⟩) ?_
        rotate_left
        · intro W hSw
          obtain ⟨m0, m1, m2, m3, m4, m5, m6, m7, m8, m9, m10, m11⟩ := hSw
          go_simp
          try (with_reducible rfl)
        try simp only [List.getElem_toArray, List.getElem_cons_zero, List.getElem_cons_succ, Act.put, List.setIfInBounds_toArray, List.set_cons_zero, List.set_cons_succ]
        refine wt_take (i := 1) (v := ?_) HTK.out rfl (by decide) (by kernel_rfl) (by kernel_rfl) (fun _ _ _ h => h) (by exact ⟨q0, q1, q2, u0, u1, u2, v0, v1, v2, b0, b1, b2⟩) (Or.inl ⟨by rfl, ?_⟩) ?_
        rotate_left
        · intro W hSw
          obtain ⟨m0, m1, m2, m3, m4, m5, m6, m7, m8, m9, m10, m11⟩ := hSw
          go_simp
          try (with_reducible rfl)
        try simp only [List.getElem_toArray, List.getElem_cons_zero, List.getElem_cons_succ, Act.put, List.setIfInBounds_toArray, List.set_cons_zero, List.set_cons_succ]
        refine wt_take (i := 2) (v := ?_) HTK.out rfl (by decide) (by kernel_rfl) (by kernel_rfl) (fun _ _ _ h => h) (by exact ⟨q0, q1, q2, u0, u1, u2, v0, v1, v2, b0, b1, b2⟩) (Or.inl ⟨by rfl, ?_⟩) ?_
        rotate_left
        · intro W hSw
          obtain ⟨m0, m1, m2, m3, m4, m5, m6, m7, m8, m9, m10, m11⟩ := hSw
          go_simp
          try (with_reducible rfl)
        try simp only [List.getElem_toArray, List.getElem_cons_zero, List.getElem_cons_succ, Act.put, List.setIfInBounds_toArray, List.set_cons_zero, List.set_cons_succ]
        refine wt_take (i := 3) (v := ?_) HTK.out rfl (by decide) (by kernel_rfl) (by kernel_rfl) (fun _ _ _ h => h) (by exact ⟨q0, q1, q2, u0, u1, u2, v0, v1, v2, b0, b1, b2⟩) (Or.inl ⟨by rfl, ?_⟩) ?_
        rotate_left
        · intro W hSw
          obtain ⟨m0, m1, m2, m3, m4, m5, m6, m7, m8, m9, m10, m11⟩ := hSw
          go_simp
          try (with_reducible rfl)
        try simp only [List.getElem_toArray, List.getElem_cons_zero, List.getElem_cons_succ, Act.put, List.setIfInBounds_toArray, List.set_cons_zero, List.set_cons_succ]
        refine wt_take (i := 4) (v := ?_) HTK.out rfl (by decide) (by kernel_rfl) (by kernel_rfl) (fun _ _ _ h => h) (by exact ⟨q0, q1, q2, u0, u1, u2, v0, v1, v2, b0, b1, b2⟩) (Or.inl ⟨by rfl, ?_⟩) ?_
        rotate_left
        · intro W hSw
          obtain ⟨m0, m1, m2, m3, m4, m5, m6, m7, m8, m9, m10, m11⟩ := hSw
          go_simp
          try (with_reducible rfl)
        try simp only [List.getElem_toArray, List.getElem_cons_zero, List.getElem_cons_succ, Act.put, List.setIfInBounds_toArray, List.set_cons_zero, List.set_cons_succ]
        refine wt_take (i := 5) (v := ?_) HTK.out rfl (by decide) (by kernel_rfl) (by kernel_rfl) (fun _ _ _ h => h) (by exact ⟨q0, q1, q2, u0, u1, u2, v0, v1, v2, b0, b1, b2⟩) (Or.inl ⟨by rfl, ?_⟩) ?_
        rotate_left
        · intro W hSw
          obtain ⟨m0, m1, m2, m3, m4, m5, m6, m7, m8, m9, m10, m11⟩ := hSw
          go_simp
          try (with_reducible rfl)
        try simp only [List.getElem_toArray, List.getElem_cons_zero, List.getElem_cons_succ, Act.put, List.setIfInBounds_toArray, List.set_cons_zero, List.set_cons_succ]
        refine wt_take (i := 6) (v := ?_) HTK.out rfl (by decide) (by kernel_rfl) (by kernel_rfl) (fun _ _ _ h => h) (by exact ⟨q0, q1, q2, u0, u1, u2, v0, v1, v2, b0, b1, b2⟩) (Or.inl ⟨by rfl, ?_⟩) ?_
        rotate_left
        · intro W hSw
          obtain ⟨m0, m1, m2, m3, m4, m5, m6, m7, m8, m9, m10, m11⟩ := hSw
          go_simp
          try (with_reducible rfl)
        try simp only [List.getElem_toArray, List.getElem_cons_zero, List.getElem_cons_succ, Act.put, List.setIfInBounds_toArray, List.set_cons_zero, List.set_cons_succ]
        refine wt_take (i := 7) (v := ?_) HTK.out rfl (by decide) (by kernel_rfl) (by kernel_rfl) (fun _ _ _ h => h) (by exact ⟨q0, q1, q2, u0, u1, u2, v0, v1, v2, b0, b1, b2⟩) (Or.inl ⟨by rfl, ?_⟩) ?_
        rotate_left
        · intro W hSw
          obtain ⟨m0, m1, m2, m3, m4, m5, m6, m7, m8, m9, m10, m11⟩ := hSw
          go_simp
          try (with_reducible rfl)
        try simp only [List.getElem_toArray, List.getElem_cons_zero, List.getElem_cons_succ, Act.put, List.setIfInBounds_toArray, List.set_cons_zero, List.set_cons_succ]
        refine wt_take (i := 8) (v := ?_) HTK.out rfl (by decide) (by kernel_rfl) (by kernel_rfl) (fun _ _ _ h => h) (by exact ⟨q0, q1, q2, u0, u1, u2, v0, v1, v2, b0, b1, b2⟩) (Or.inl ⟨by rfl, ?_⟩) ?_
        rotate_left
        · intro W hSw
          obtain ⟨m0, m1, m2, m3, m4, m5, m6, m7, m8, m9, m10, m11⟩ := hSw
          go_simp
          try (with_reducible rfl)
        try simp only [List.getElem_toArray, List.getElem_cons_zero, List.getElem_cons_succ, Act.put, List.setIfInBounds_toArray, List.set_cons_zero, List.set_cons_succ]
        refine wt_take (i := 9) (v := ?_) HTK.out rfl (by decide) (by kernel_rfl) (by kernel_rfl) (fun _ _ _ h => h) (by exact ⟨q0, q1, q2, u0, u1, u2, v0, v1, v2, b0, b1, b2⟩) (Or.inl ⟨by rfl, ?_⟩) ?_
        rotate_left
        · intro W hSw
          obtain ⟨m0, m1, m2, m3, m4, m5, m6, m7, m8, m9, m10, m11⟩ := hSw
          go_simp
          try (with_reducible rfl)
        try simp only [List.getElem_toArray, List.getElem_cons_zero, List.getElem_cons_succ, Act.put, List.setIfInBounds_toArray, List.set_cons_zero, List.set_cons_succ]
        refine wt_take (i := 10) (v := ?_) HTK.out rfl (by decide) (by kernel_rfl) (by kernel_rfl) (fun _ _ _ h => h) (by exact ⟨q0, q1, q2, u0, u1, u2, v0, v1, v2, b0, b1, b2⟩) (Or.inl ⟨by rfl, ?_⟩) ?_
        rotate_left
        · intro W hSw
          obtain ⟨m0, m1, m2, m3, m4, m5, m6, m7, m8, m9, m10, m11⟩ := hSw
          go_simp
          try (with_reducible rfl)
        try simp only [List.getElem_toArray, List.getElem_cons_zero, List.getElem_cons_succ, Act.put, List.setIfInBounds_toArray, List.set_cons_zero, List.set_cons_succ]
        refine wt_take (i := 11) (v := ?_) HTK.out rfl (by decide) (by kernel_rfl) (by kernel_rfl) (fun _ _ _ h => h) (by exact ⟨q0, q1, q2, u0, u1, u2, v0, v1, v2, b0, b1, b2⟩) (Or.inl ⟨by rfl, ?_⟩) ?_
        rotate_left
        · intro W hSw
          obtain ⟨m0, m1, m2, m3, m4, m5, m6, m7, m8, m9, m10, m11⟩ := hSw
          go_simp
          try (with_reducible rfl)
        try simp only [List.getElem_toArray, List.getElem_cons_zero, List.getElem_cons_succ, Act.put, List.setIfInBounds_toArray, List.set_cons_zero, List.set_cons_succ]
        refine wt_take (i := 12) (v := ?_) HTK.out rfl (by decide) (by kernel_rfl) (by kernel_rfl) (fun _ _ _ h => h) (by exact ⟨q0, q1, q2, u0, u1, u2, v0, v1, v2, b0, b1, b2⟩) (Or.inl ⟨by rfl, ?_⟩) ?_
        rotate_left
        · intro W hSw
          obtain ⟨m0, m1, m2, m3, m4, m5, m6, m7, m8, m9, m10, m11⟩ := hSw
          go_simp
          try (with_reducible rfl)
        try simp only [List.getElem_toArray, List.getElem_cons_zero, List.getElem_cons_succ, Act.put, List.setIfInBounds_toArray, List.set_cons_zero, List.set_cons_succ]
        refine wt_take (i := 13) (v := ?_) HTK.out rfl (by decide) (by kernel_rfl) (by kernel_rfl) (fun _ _ _ h => h) (by exact ⟨q0, q1, q2, u0, u1, u2, v0, v1, v2, b0, b1, b2⟩) (Or.inl ⟨by rfl, ?_⟩) ?_
        rotate_left
        · intro W hSw
          obtain ⟨m0, m1, m2, m3, m4, m5, m6, m7, m8, m9, m10, m11⟩ := hSw
          go_simp
          try (with_reducible rfl)
        try simp only [List.getElem_toArray, List.getElem_cons_zero, List.getElem_cons_succ, Act.put, List.setIfInBounds_toArray, List.set_cons_zero, List.set_cons_succ]
        refine wt_take (i := 14) (v := ?_) HTK.out rfl (by decide) (by kernel_rfl) (by kernel_rfl) (fun _ _ _ h => h) (by exact ⟨q0, q1, q2, u0, u1, u2, v0, v1, v2, b0, b1, b2⟩) (Or.inl ⟨by rfl, ?_⟩) ?_
        rotate_left
        · intro W hSw
          obtain ⟨m0, m1, m2, m3, m4, m5, m6, m7, m8, m9, m10, m11⟩ := hSw
          go_simp
          try (with_reducible rfl)
        try simp only [List.getElem_toArray, List.getElem_cons_zero, List.getElem_cons_succ, Act.put, List.setIfInBounds_toArray, List.set_cons_zero, List.set_cons_succ]
        refine wt_take (i := 15) (v := ?_) HTK.out rfl (by decide) (by kernel_rfl) (by kernel_rfl) (fun _ _ _ h => h) (by exact ⟨q0, q1, q2, u0, u1, u2, v0, v1, v2, b0, b1, b2⟩) (Or.inl ⟨by rfl, ?_⟩) ?_
        rotate_left
        · intro W hSw
          obtain ⟨m0, m1, m2, m3, m4, m5, m6, m7, m8, m9, m10, m11⟩ := hSw
          go_simp
          try (with_reducible rfl)
        try simp only [List.getElem_toArray, List.getElem_cons_zero, List.getElem_cons_succ, Act.put, List.setIfInBounds_toArray, List.set_cons_zero, List.set_cons_succ]
        refine wt_take (i := 16) (v := ?_) HTK.out rfl (by decide) (by kernel_rfl) (by kernel_rfl) (fun _ _ _ h => h) (by exact ⟨q0, q1, q2, u0, u1, u2, v0, v1, v2, b0, b1, b2⟩) (Or.inl ⟨by rfl, ?_⟩) ?_
        rotate_left
        · intro W hSw
          obtain ⟨m0, m1, m2, m3, m4, m5, m6, m7, m8, m9, m10, m11⟩ := hSw
          go_simp
          try (with_reducible rfl)
        try simp only [List.getElem_toArray, List.getElem_cons_zero, List.getElem_cons_succ, Act.put, List.setIfInBounds_toArray, List.set_cons_zero, List.set_cons_succ]
        refine wt_take (i := 17) (v := ?_) HTK.out rfl (by decide) (by kernel_rfl) (by kernel_rfl) (fun _ _ _ h => h) (by exact ⟨q0, q1, q2, u0, u1, u2, v0, v1, v2, b0, b1, b2⟩) (Or.inl ⟨by rfl, ?_⟩) ?_
        rotate_left
        · intro W hSw
          obtain ⟨m0, m1, m2, m3, m4, m5, m6, m7, m8, m9, m10, m11⟩ := hSw
          go_simp
          try (with_reducible rfl)
        try simp only [List.getElem_toArray, List.getElem_cons_zero, List.getElem_cons_succ, Act.put, List.setIfInBounds_toArray, List.set_cons_zero, List.set_cons_succ]
        refine wt_take (i := 18) (v := ?_) HTK.out rfl (by decide) (by kernel_rfl) (by kernel_rfl) (fun _ _ _ h => h) (by exact ⟨q0, q1, q2, u0, u1, u2, v0, v1, v2, b0, b1, b2⟩) (Or.inl ⟨by rfl, ?_⟩) ?_
        rotate_left
        · intro W hSw
          obtain ⟨m0, m1, m2, m3, m4, m5, m6, m7, m8, m9, m10, m11⟩ := hSw
          go_simp
          try (with_reducible rfl)
        try simp only [List.getElem_toArray, List.getElem_cons_zero, List.getElem_cons_succ, Act.put, List.setIfInBounds_toArray, List.set_cons_zero, List.set_cons_succ]
        refine wt_take (i := 19) (v := ?_) HTK.out rfl (by decide) (by kernel_rfl) (by kernel_rfl) (fun _ _ _ h => h) (by exact ⟨q0, q1, q2, u0, u1, u2, v0, v1, v2, b0, b1, b2⟩) (Or.inl ⟨by rfl, ?_⟩) ?_
        rotate_left
        · intro W hSw
          obtain ⟨m0, m1, m2, m3, m4, m5, m6, m7, m8, m9, m10, m11⟩ := hSw
          go_simp
          try (with_reducible rfl)
        try simp only [List.getElem_toArray, List.getElem_cons_zero, List.getElem_cons_succ, Act.put, List.setIfInBounds_toArray, List.set_cons_zero, List.set_cons_succ]
        refine wt_take (i := 20) (v := ?_) HTK.out rfl (by decide) (by kernel_rfl) (by kernel_rfl) (fun _ _ _ h => h) (by exact ⟨q0, q1, q2, u0, u1, u2, v0, v1, v2, b0, b1, b2⟩) (Or.inl ⟨by rfl, ?_⟩) ?_
        rotate_left
        · intro W hSw
          obtain ⟨m0, m1, m2, m3, m4, m5, m6, m7, m8, m9, m10, m11⟩ := hSw
          go_simp
          try (with_reducible rfl)
        try simp only [List.getElem_toArray, List.getElem_cons_zero, List.getElem_cons_succ, Act.put, List.setIfInBounds_toArray, List.set_cons_zero, List.set_cons_succ]
        refine wt_take (i := 21) (v := ?_) HTK.out rfl (by decide) (by kernel_rfl) (by kernel_rfl) (fun _ _ _ h => h) (by exact ⟨q0, q1, q2, u0, u1, u2, v0, v1, v2, b0, b1, b2⟩) (Or.inl ⟨by rfl, ?_⟩) ?_
        rotate_left
        · intro W hSw
          obtain ⟨m0, m1, m2, m3, m4, m5, m6, m7, m8, m9, m10, m11⟩ := hSw
          go_simp
          try (with_reducible rfl)
        try simp only [List.getElem_toArray, List.getElem_cons_zero, List.getElem_cons_succ, Act.put, List.setIfInBounds_toArray, List.set_cons_zero, List.set_cons_succ]
        refine wt_take (i := 22) (v := ?_) HTK.out rfl (by decide) (by kernel_rfl) (by kernel_rfl) (fun _ _ _ h => h) (by exact ⟨q0, q1, q2, u0, u1, u2, v0, v1, v2, b0, b1, b2⟩) (Or.inl ⟨by rfl, ?_⟩) ?_
        rotate_left
        · intro W hSw
          obtain ⟨m0, m1, m2, m3, m4, m5, m6, m7, m8, m9, m10, m11⟩ := hSw
          go_simp
          try (with_reducible rfl)
        try simp only [List.getElem_toArray, List.getElem_cons_zero, List.getElem_cons_succ, Act.put, List.setIfInBounds_toArray, List.set_cons_zero, List.set_cons_succ]
        refine wt_take (i := 23) (v := ?_) HTK.out rfl (by decide) (by kernel_rfl) (by kernel_rfl) (fun _ _ _ h => h) (by exact ⟨q0, q1, q2, u0, u1, u2, v0, v1, v2, b0, b1, b2⟩) (Or.inl ⟨by rfl, ?_⟩) ?_
        rotate_left
        · intro W hSw
          obtain ⟨m0, m1, m2, m3, m4, m5, m6, m7, m8, m9, m10, m11⟩ := hSw
          go_simp
          try (with_reducible rfl)
        try simp only [List.getElem_toArray, List.getElem_cons_zero, List.getElem_cons_succ, Act.put, List.setIfInBounds_toArray, List.set_cons_zero, List.set_cons_succ]
        refine wt_take (i := 24) (v := ?_) HTK.out rfl (by decide) (by kernel_rfl) (by kernel_rfl) (fun _ _ _ h => h) (by exact ⟨q0, q1, q2, u0, u1, u2, v0, v1, v2, b0, b1, b2⟩) (Or.inl ⟨by rfl, ?_⟩) ?_
        rotate_left
        · intro W hSw
          obtain ⟨m0, m1, m2, m3, m4, m5, m6, m7, m8, m9, m10, m11⟩ := hSw
          go_simp
          try (with_reducible rfl)
        try simp only [List.getElem_toArray, List.getElem_cons_zero, List.getElem_cons_succ, Act.put, List.setIfInBounds_toArray, List.set_cons_zero, List.set_cons_succ]
        refine wt_take (i := 25) (v := ?_) HTK.out rfl (by decide) (by kernel_rfl) (by kernel_rfl) (fun _ _ _ h => h) (by exact ⟨q0, q1, q2, u0, u1, u2, v0, v1, v2, b0, b1, b2⟩) (Or.inl ⟨by rfl, ?_⟩) ?_
        rotate_left
        · intro W hSw
          obtain ⟨m0, m1, m2, m3, m4, m5, m6, m7, m8, m9, m10, m11⟩ := hSw
          go_simp
          try (with_reducible rfl)
        try simp only [List.getElem_toArray, List.getElem_cons_zero, List.getElem_cons_succ, Act.put, List.setIfInBounds_toArray, List.set_cons_zero, List.set_cons_succ]
        refine wt_take (i := 26) (v := ?_) HTK.out rfl (by decide) (by kernel_rfl) (by kernel_rfl) (fun _ _ _ h => h) (by exact ⟨q0, q1, q2, u0, u1, u2, v0, v1, v2, b0, b1, b2⟩) (Or.inl ⟨by rfl, ?_⟩) ?_
        rotate_left
        · intro W hSw
          obtain ⟨m0, m1, m2, m3, m4, m5, m6, m7, m8, m9, m10, m11⟩ := hSw
          go_simp
          try (with_reducible rfl)
        try simp only [List.getElem_toArray, List.getElem_cons_zero, List.getElem_cons_succ, Act.put, List.setIfInBounds_toArray, List.set_cons_zero, List.set_cons_succ]
        refine wt_take (i := 27) (v := ?_) HTK.out rfl (by decide) (by kernel_rfl) (by kernel_rfl) (fun _ _ _ h => h) (by exact ⟨q0, q1, q2, u0, u1, u2, v0, v1, v2, b0, b1, b2⟩) (Or.inl ⟨by rfl, ?_⟩) ?_
        rotate_left
        · intro W hSw
          obtain ⟨m0, m1, m2, m3, m4, m5, m6, m7, m8, m9, m10, m11⟩ := hSw
          go_simp
          try (with_reducible rfl)
        try simp only [List.getElem_toArray, List.getElem_cons_zero, List.getElem_cons_succ, Act.put, List.setIfInBounds_toArray, List.set_cons_zero, List.set_cons_succ]
        refine wt_take (i := 28) (v := ?_) HTK.out rfl (by decide) (by kernel_rfl) (by kernel_rfl) (fun _ _ _ h => h) (by exact ⟨q0, q1, q2, u0, u1, u2, v0, v1, v2, b0, b1, b2⟩) (Or.inl ⟨by rfl, ?_⟩) ?_
        rotate_left
        · intro W hSw
          obtain ⟨m0, m1, m2, m3, m4, m5, m6, m7, m8, m9, m10, m11⟩ := hSw
          go_simp
          try (with_reducible rfl)
        try simp only [List.getElem_toArray, List.getElem_cons_zero, List.getElem_cons_succ, Act.put, List.setIfInBounds_toArray, List.set_cons_zero, List.set_cons_succ]
        refine wt_take (i := 29) (v := ?_) HTK.out rfl (by decide) (by kernel_rfl) (by kernel_rfl) (fun _ _ _ h => h) (by exact ⟨q0, q1, q2, u0, u1, u2, v0, v1, v2, b0, b1, b2⟩) (Or.inl ⟨by rfl, ?_⟩) ?_
        rotate_left
        · intro W hSw
          obtain ⟨m0, m1, m2, m3, m4, m5, m6, m7, m8, m9, m10, m11⟩ := hSw
          go_simp
          try (with_reducible rfl)
        try simp only [List.getElem_toArray, List.getElem_cons_zero, List.getElem_cons_succ, Act.put, List.setIfInBounds_toArray, List.set_cons_zero, List.set_cons_succ]
        refine wt_take (i := 30) (v := ?_) HTK.out rfl (by decide) (by kernel_rfl) (by kernel_rfl) (fun _ _ _ h => h) (by exact ⟨q0, q1, q2, u0, u1, u2, v0, v1, v2, b0, b1, b2⟩) (Or.inl ⟨by rfl, ?_⟩) ?_
        rotate_left
        · intro W hSw
          obtain ⟨m0, m1, m2, m3, m4, m5, m6, m7, m8, m9, m10, m11⟩ := hSw
          go_simp
          try (with_reducible rfl)
        try simp only [List.getElem_toArray, List.getElem_cons_zero, List.getElem_cons_succ, Act.put, List.setIfInBounds_toArray, List.set_cons_zero, List.set_cons_succ]
        refine wt_take (i := 31) (v := ?_) HTK.out rfl (by decide) (by kernel_rfl) (by kernel_rfl) (fun _ _ _ h => h) (by exact ⟨q0, q1, q2, u0, u1, u2, v0, v1, v2, b0, b1, b2⟩) (Or.inl ⟨by rfl, ?_⟩) ?_
        rotate_left
        · intro W hSw
          obtain ⟨m0, m1, m2, m3, m4, m5, m6, m7, m8, m9, m10, m11⟩ := hSw
          go_simp
          try (with_reducible rfl)
        try simp only [List.getElem_toArray, List.getElem_cons_zero, List.getElem_cons_succ, Act.put, List.setIfInBounds_toArray, List.set_cons_zero, List.set_cons_succ]
        refine wt_take (i := 33) (v := ?_) HTK.out rfl (by decide) (by kernel_rfl) (by kernel_rfl) (fun _ _ _ h => h) (by exact ⟨q0, q1, q2, u0, u1, u2, v0, v1, v2, b0, b1, b2⟩) (Or.inl ⟨by rfl, ?_⟩) ?_
        rotate_left
        · intro W hSw
          obtain ⟨m0, m1, m2, m3, m4, m5, m6, m7, m8, m9, m10, m11⟩ := hSw
          go_simp
          try (with_reducible rfl)
        try simp only [List.getElem_toArray, List.getElem_cons_zero, List.getElem_cons_succ, Act.put, List.setIfInBounds_toArray, List.set_cons_zero, List.set_cons_succ]
        refine wt_take (i := 34) (v := ?_) HTK.out rfl (by decide) (by kernel_rfl) (by kernel_rfl) (fun _ _ _ h => h) (by exact ⟨q0, q1, q2, u0, u1, u2, v0, v1, v2, b0, b1, b2⟩) (Or.inl ⟨by rfl, ?_⟩) ?_
        rotate_left
        · intro W hSw
          obtain ⟨m0, m1, m2, m3, m4, m5, m6, m7, m8, m9, m10, m11⟩ := hSw
          go_simp
          try (with_reducible rfl)
        try simp only [List.getElem_toArray, List.getElem_cons_zero, List.getElem_cons_succ, Act.put, List.setIfInBounds_toArray, List.set_cons_zero, List.set_cons_succ]
        refine wt_take (i := 35) (v := ?_) HTK.out rfl (by decide) (by kernel_rfl) (by kernel_rfl) (fun _ _ _ h => h) (by exact ⟨q0, q1, q2, u0, u1, u2, v0, v1, v2, b0, b1, b2⟩) (Or.inl ⟨by rfl, ?_⟩) ?_
        rotate_left
        · intro W hSw
          obtain ⟨m0, m1, m2, m3, m4, m5, m6, m7, m8, m9, m10, m11⟩ := hSw
          go_simp
          try (with_reducible rfl)
        try simp only [List.getElem_toArray, List.getElem_cons_zero, List.getElem_cons_succ, Act.put, List.setIfInBounds_toArray, List.set_cons_zero, List.set_cons_succ]
        refine wt_ready (rs := [32]) (by kernel_rfl) (by simp) ?_
        refine AllT.cons rfl (by decide) (fun K hK => ?_) ?_
        · go_simp
          go_at_call 22
          refine (HOF.out w3.drew (HB1.out.trans (Hw3.out.1.drew.mono HB1.out.size)) yr).mono ?_
          rintro e w4 ⟨so, rfl, hro, hb4'⟩
          have hb4 : Below w3.heap.size w3 w4 := ⟨hb4'.os, hb4'.tape, hb4'.output, hb4'.size, hb4'.block⟩
          have hw4q := (hb4.block _ (blk_lt Hw3.out.2.1)).trans Hw3.out.2.1
          have hw4u := (hb4.block _ (blk_lt Hw3.out.2.2.1)).trans Hw3.out.2.2.1
          have hw4v := (hb4.block _ (blk_lt Hw3.out.2.2.2.1)).trans Hw3.out.2.2.2.1
          have hw4b := (hb4.block _ (blk_lt Hw3.out.2.2.2.2)).trans Hw3.out.2.2.2.2
          have q0 : w4.cell? ⟨wr.heap.size, 0, none⟩ = some _ := cell_at (j := 0) hw4q rfl
          have q1 : w4.cell? ⟨wr.heap.size, 1, none⟩ = some _ := cell_at (j := 1) hw4q rfl
          have q2 : w4.cell? ⟨wr.heap.size, 2, none⟩ = some _ := cell_at (j := 2) hw4q rfl
          have u0 : w4.cell? ⟨wr.heap.size + 1, 0, none⟩ = some _ := cell_at (j := 0) hw4u rfl
          have u1 : w4.cell? ⟨wr.heap.size + 1, 1, none⟩ = some _ := cell_at (j := 1) hw4u rfl
          have u2 : w4.cell? ⟨wr.heap.size + 1, 2, none⟩ = some _ := cell_at (j := 2) hw4u rfl
          have v0 : w4.cell? ⟨w2.heap.size, 0, none⟩ = some _ := cell_at (j := 0) hw4v rfl
          have v1 : w4.cell? ⟨w2.heap.size, 1, none⟩ = some _ := cell_at (j := 1) hw4v rfl
          have v2 : w4.cell? ⟨w2.heap.size, 2, none⟩ = some _ := cell_at (j := 2) hw4v rfl
          have b0 : w4.cell? ⟨w.heap.size, 0, none⟩ = some _ := cell_at (j := 0) hw4b rfl
          have b1 : w4.cell? ⟨w.heap.size, 1, none⟩ = some _ := cell_at (j := 1) hw4b rfl
          have b2 : w4.cell? ⟨w.heap.size, 2, none⟩ = some _ := cell_at (j := 2) hw4b rfl
          have Hw4 := Lib.hid (And.intro (Hw3.out.1.trans (hb4.mono Hw3.out.1.size)) (And.intro hw4q (And.intro hw4u (And.intro hw4v hw4b))))
          clear hw4q hw4u hw4v hw4b
          have HRO := Lib.hid hro
          clear hro hb4 hb4'
          refine hK.out _ _ (by exact ⟨q0, q1, q2, u0, u1, u2, v0, v1, v2, b0, b1, b2⟩) ?_
          clear hK K
          try simp only [List.getElem_toArray, List.getElem_cons_zero, List.getElem_cons_succ, Act.put, List.setIfInBounds_toArray, List.set_cons_zero, List.set_cons_succ]
          refine wt_ready (rs := [36]) (by kernel_rfl) (by simp) ?_
          refine AllT.cons rfl (by decide) (fun K hK => ?_) ?_
          · go_simp
            go_at_call 43
            refine (HROF.out w4 (HB1.out.trans (Hw4.out.1.mono HB1.out.size)) yr).mono ?_
            rintro e w5 ⟨sr, rfl, hrr, hb5⟩
            have hw5q := (hb5.block _ (blk_lt Hw4.out.2.1)).trans Hw4.out.2.1
            have hw5u := (hb5.block _ (blk_lt Hw4.out.2.2.1)).trans Hw4.out.2.2.1
            have hw5v := (hb5.block _ (blk_lt Hw4.out.2.2.2.1)).trans Hw4.out.2.2.2.1
            have hw5b := (hb5.block _ (blk_lt Hw4.out.2.2.2.2)).trans Hw4.out.2.2.2.2
            have q0 : w5.cell? ⟨wr.heap.size, 0, none⟩ = some _ := cell_at (j := 0) hw5q rfl
            have q1 : w5.cell? ⟨wr.heap.size, 1, none⟩ = some _ := cell_at (j := 1) hw5q rfl
            have q2 : w5.cell? ⟨wr.heap.size, 2, none⟩ = some _ := cell_at (j := 2) hw5q rfl
            have u0 : w5.cell? ⟨wr.heap.size + 1, 0, none⟩ = some _ := cell_at (j := 0) hw5u rfl
            have u1 : w5.cell? ⟨wr.heap.size + 1, 1, none⟩ = some _ := cell_at (j := 1) hw5u rfl
            have u2 : w5.cell? ⟨wr.heap.size + 1, 2, none⟩ = some _ := cell_at (j := 2) hw5u rfl
            have v0 : w5.cell? ⟨w2.heap.size, 0, none⟩ = some _ := cell_at (j := 0) hw5v rfl
            have v1 : w5.cell? ⟨w2.heap.size, 1, none⟩ = some _ := cell_at (j := 1) hw5v rfl
            have v2 : w5.cell? ⟨w2.heap.size, 2, none⟩ = some _ := cell_at (j := 2) hw5v rfl
            have b0 : w5.cell? ⟨w.heap.size, 0, none⟩ = some _ := cell_at (j := 0) hw5b rfl
            have b1 : w5.cell? ⟨w.heap.size, 1, none⟩ = some _ := cell_at (j := 1) hw5b rfl
            have b2 : w5.cell? ⟨w.heap.size, 2, none⟩ = some _ := cell_at (j := 2) hw5b rfl
            have Hw5 := Lib.hid (And.intro (Hw4.out.1.trans (hb5.mono Hw4.out.1.size)) (And.intro hw5q (And.intro hw5u (And.intro hw5v hw5b))))
            clear hw5q hw5u hw5v hw5b
            have HRO5 := Lib.hid (HRO.out.same hb5.size (fun g hg _ => hb5.block g hg))
            have HRR := Lib.hid hrr
            clear hrr hb5
            refine hK.out _ _ (by exact ⟨q0, q1, q2, u0, u1, u2, v0, v1, v2, b0, b1, b2⟩) ?_
            clear hK K
            try simp only [List.getElem_toArray, List.getElem_cons_zero, List.getElem_cons_succ, Act.put, List.setIfInBounds_toArray, List.set_cons_zero, List.set_cons_succ]
            refine wt_ready (rs := [37]) (by kernel_rfl) (by simp) ?_
            refine AllT.cons rfl (by decide) (fun K hK => ?_) ?_
            · go_simp
              go_at_call 42
              refine (strs_same w5 _ _ so sr _ HRO5.out HRR.out).mono ?_
              rintro e w6 ⟨rfl, hb6⟩
              have hw6q := (hb6.block _ (blk_lt Hw5.out.2.1)).trans Hw5.out.2.1
              have hw6u := (hb6.block _ (blk_lt Hw5.out.2.2.1)).trans Hw5.out.2.2.1
              have hw6v := (hb6.block _ (blk_lt Hw5.out.2.2.2.1)).trans Hw5.out.2.2.2.1
              have hw6b := (hb6.block _ (blk_lt Hw5.out.2.2.2.2)).trans Hw5.out.2.2.2.2
              have q0 : w6.cell? ⟨wr.heap.size, 0, none⟩ = some _ := cell_at (j := 0) hw6q rfl
              have q1 : w6.cell? ⟨wr.heap.size, 1, none⟩ = some _ := cell_at (j := 1) hw6q rfl
              have q2 : w6.cell? ⟨wr.heap.size, 2, none⟩ = some _ := cell_at (j := 2) hw6q rfl
              have u0 : w6.cell? ⟨wr.heap.size + 1, 0, none⟩ = some _ := cell_at (j := 0) hw6u rfl
              have u1 : w6.cell? ⟨wr.heap.size + 1, 1, none⟩ = some _ := cell_at (j := 1) hw6u rfl
              have u2 : w6.cell? ⟨wr.heap.size + 1, 2, none⟩ = some _ := cell_at (j := 2) hw6u rfl
              have v0 : w6.cell? ⟨w2.heap.size, 0, none⟩ = some _ := cell_at (j := 0) hw6v rfl
              have v1 : w6.cell? ⟨w2.heap.size, 1, none⟩ = some _ := cell_at (j := 1) hw6v rfl
              have v2 : w6.cell? ⟨w2.heap.size, 2, none⟩ = some _ := cell_at (j := 2) hw6v rfl
              have b0 : w6.cell? ⟨w.heap.size, 0, none⟩ = some _ := cell_at (j := 0) hw6b rfl
              have b1 : w6.cell? ⟨w.heap.size, 1, none⟩ = some _ := cell_at (j := 1) hw6b rfl
              have b2 : w6.cell? ⟨w.heap.size, 2, none⟩ = some _ := cell_at (j := 2) hw6b rfl
              have Hw6 := Lib.hid (And.intro (Hw5.out.1.trans (hb6.mono Hw5.out.1.size)) (And.intro hw6q (And.intro hw6u (And.intro hw6v hw6b))))
              clear hw6q hw6u hw6v hw6b
              clear hb6
              refine hK.out _ _ (by exact ⟨q0, q1, q2, u0, u1, u2, v0, v1, v2, b0, b1, b2⟩) ?_
              clear hK K
              try simp only [List.getElem_toArray, List.getElem_cons_zero, List.getElem_cons_succ, Act.put, List.setIfInBounds_toArray, List.set_cons_zero, List.set_cons_succ]
              refine wt_take (i := 38) (v := ?_) HTK.out rfl (by decide) (by kernel_rfl) (by kernel_rfl) (fun _ _ _ h => h) (by exact ⟨q0, q1, q2, u0, u1, u2, v0, v1, v2, b0, b1, b2⟩) (Or.inl ⟨by rfl, ?_⟩) ?_
              rotate_left
              · intro W hSw
                obtain ⟨m0, m1, m2, m3, m4, m5, m6, m7, m8, m9, m10, m11⟩ := hSw
                go_simp
                try (with_reducible rfl)
              try simp only [List.getElem_toArray, List.getElem_cons_zero, List.getElem_cons_succ, Act.put, List.setIfInBounds_toArray, List.set_cons_zero, List.set_cons_succ]
              refine wt_last (k := 39) (by kernel_rfl) (by kernel_rfl) (by decide) rfl (fun K hK => ?_)
              go_simp
              refine hK.out _ _ ?_
              clear hK K
              try simp only [List.getElem_toArray, List.getElem_cons_zero, List.getElem_cons_succ, Act.put, List.setIfInBounds_toArray, List.set_cons_zero, List.set_cons_succ]
              go_wp2_with fail
              exact ⟨⟨i + 1, by omega, by go_num, Hw6.out.1⟩, by simp [intOf]; omega⟩
            exact AllT.nil
          exact AllT.nil
        exact AllT.nil
      · obtain rfl : i = l.length := by omega
        have HB := Lib.hid hb
        clear hb
        go_wp2_with fail
        go_ret
        exact ⟨rfl, HB1.out.trans (HB.out.mono HB1.out.size)⟩
  exact AllT.nil
end Go.Proofs.YtgnoaeldmpbjmaaGreatDoor
/- errors.Is: at codes. -/
namespace Go.Proofs.YtgnoaeldmpbjmaaGreatDoor
open Go.RowKit Go.Extern.Stop Go.Stop Go.Extern
section
variable {P : Program} (w : World)
theorem run_equalIn_iface_int (d : Nat) {ti tn : TypeId} {ms : Array (String × TypeId)} {i : TypeInfo} {k : IntKind} (a b : Int)
    (hi : P.underlying ti = some (.interface ms)) (hn : P.underlying tn = some (.int k)) (hinfo : P.info? tn = some i) (hcomp : i.comparable = true) :
    (Op.equalIn (d + 2) ti (.iface tn (.int k a)) (.iface tn (.int k b))).run P w = .ok (a == b) w := by
  simp [Op.equalIn, run_underlying hi, run_underlying hn, typeInfo, hinfo, hcomp]
/-- 'x == y', both interface values of one integer type: as the numbers are. -/
theorem run_eql_iface_int {ti tn : TypeId} {ms : Array (String × TypeId)} {i : TypeInfo} {k : IntKind} (a b : Int)
    (hi : P.underlying ti = some (.interface ms)) (hn : P.underlying tn = some (.int k)) (hinfo : P.info? tn = some i) (hcomp : i.comparable = true) :
    (binOp .eql ti (.iface tn (.int k a)) (.iface tn (.int k b))).run P w = .ok (.bool (a == b)) w := by
  simp only [binOp]
  simp [Op.equal, Op.maxDepth, run_equalIn_iface_int w 9998 a b hi hn hinfo hcomp]
end

theorem isTypeOf (v : Value) (w : World) : (Extern.ReflectliteType.typeOf #[.iface 67 v]).run Tryz.prog w = .ok (.iface 160 (.agg #[typeHandle Tryz.prog 67])) w := by kernel_rfl
def compMethod : Array Value → Sem Value := Extern.ReflectliteType.method fun t => do Go.Extern.Rtype.noPackHeld "Comparable" t; pure (.bool (← typeInfo t).comparable)
theorem isComparable (w : World) : (compMethod #[.agg #[typeHandle Tryz.prog 67]]).run Tryz.prog w = .ok (.bool true) w := by kernel_rfl
theorem isMethodComparable (n : Nat) (v : Value) (w : World) : (Go.method (n + 1) 160 v "Comparable").run Tryz.prog w = .ok (151, v) w := by kernel_rfl
theorem isComp : (Tryz.prog.info? 67).map (·.comparable) = some true := by kernel_rfl
theorem noIs (v : Value) (xT : TypeId) (w : World) : (Instr.typeAssert (.iface 67 v) xT 162 true).run Tryz.prog w = .ok (.tuple #[.nilIface, .bool false]) w := run_typeAssert_lacksB Tryz.underlying162 (by kernel_rfl) (by kernel_rfl) v xT w
theorem noUnwrap (v : Value) (xT : TypeId) (w : World) : (Instr.typeAssert (.iface 67 v) xT 165 true).run Tryz.prog w = .ok (.tuple #[.nilIface, .bool false]) w := run_typeAssert_lacksB Tryz.underlying165 (by kernel_rfl) (by kernel_rfl) v xT w
theorem noUnwraps (v : Value) (xT : TypeId) (w : World) : (Instr.typeAssert (.iface 67 v) xT 167 true).run Tryz.prog w = .ok (.tuple #[.nilIface, .bool false]) w := run_typeAssert_lacksB Tryz.underlying167 (by kernel_rfl) (by kernel_rfl) v xT w

theorem is_in (c d : Int) (w : World) :
    Calls Tryz.prog 50 #[.iface 67 (.int .i64 c), .iface 67 (.int .i64 d), .bool true] w fun e w' => e = .returned (.bool (c == d)) ∧ w = w' := by
  obtain ⟨i, hi, hcmp⟩ := Option.map_eq_some_iff.1 isComp
  have nI := noIs
  have nU := noUnwrap
  have nV := noUnwraps
  have heq := run_eql_iface_int (P := Tryz.prog) w c d Tryz.underlying29 Tryz.underlying67 hi hcmp
  by_cases h : (c == d) = true
  · go_enter Tryz.func50, Tryz.ntmps50
    go_wp2
    refine wp_loop_rounds 1 ?_
    rw [rounds_succ]
    go_wp2
    go_ret
    exact ⟨by rw [h]; rfl, rfl⟩
  · have h : (c == d) = false := by simpa using h
    go_enter Tryz.func50, Tryz.ntmps50
    go_wp2
    refine wp_loop_rounds 1 ?_
    rw [rounds_succ]
    go_wp2
    go_ret
    exact ⟨by rw [h]; rfl, rfl⟩
theorem is_code (c d : Int) (w : World) :
    Calls Tryz.prog 25 #[.iface 67 (.int .i64 c), .iface 67 (.int .i64 d)] w fun e w' => e = .returned (.bool (c == d)) ∧ w = w' := by
  have h8 := @run_callFunc_extern Tryz.prog 49 _ Extern.ReflectliteType.typeOf Tryz.func49 (by kernel_rfl) (by kernel_rfl) (by kernel_rfl) (by kernel_rfl)
  have h32 := @run_callFunc_extern Tryz.prog 151 _ compMethod Tryz.func151 (by kernel_rfl) (by kernel_rfl) (by kernel_rfl) (by kernel_rfl)
  have tT := isTypeOf
  have cT := isComparable
  have mR := isMethodComparable
  have HI := Lib.hid (is_in c d w)
  go_enter Tryz.func25, Tryz.ntmps25
  go_wp2_with fail
  refine HI.out.mono ?_
  rintro e w1 ⟨rfl, rfl⟩
  clear HI
  go_wp2_with fail
  go_ret
  exact ⟨rfl, rfl⟩
theorem is_nil (d : Int) (w : World) :
    Calls Tryz.prog 25 #[.nilIface, .iface 67 (.int .i64 d)] w fun e w' => e = .returned (.bool false) ∧ w = w' := by
  have hn := run_eql_iface_nil_left (P := Tryz.prog) w 67 (.int .i64 d) Tryz.underlying29
  go_enter Tryz.func25, Tryz.ntmps25
  go_wp2
  go_ret
  exact ⟨rfl, rfl⟩
end Go.Proofs.YtgnoaeldmpbjmaaGreatDoor
/- The document's example, as the statements of this chapter begin: it is true. -/
set_option linter.unusedVariables false
namespace Go.Proofs.YtgnoaeldmpbjmaaGreatDoor
open Go.RowKit

abbrev sX : ByteArray := ⟨#[120]⟩
abbrev sW : ByteArray := ⟨#[35, 119, 58, 120]⟩
abbrev sA : ByteArray := ⟨#[33, 97, 58, 120]⟩
abbrev sB : ByteArray := ⟨#[33, 98, 58, 120]⟩
abbrev sAnn : ByteArray := ⟨#[64, 97, 110, 110, 58, 120]⟩
theorem x_server : serverB sX.data.toList = true := by kernel_rfl
theorem w_is : isB 3 sW.data.toList = true := by kernel_rfl
theorem a_is : isB 1 sA.data.toList = true := by kernel_rfl
theorem b_is : isB 1 sB.data.toList = true := by kernel_rfl
theorem ann_is : isB 2 sAnn.data.toList = true := by kernel_rfl
theorem w_of : ((ofL (ofB sW.data.toList)).toList == sX.toList) = true := by kernel_rfl
theorem w_own (y : ByteArray) (z : ByteArray) : getE [⟨sW, y, z⟩] sW = some ⟨sW, y, z⟩ := by
  unfold getE
  simp [aliasIs]
theorem fr_below {w w1 w2 : World} {b : Nat} (hb : Below w.heap.size w w1) (hbb : w.heap.size ≤ b) (hf : Fr (fun i => i = b) w1 w2) : Below w.heap.size w w2 :=
  hb.trans (hf.to_below hb.size (fun k hk e => by omega))
set_option maxRecDepth 100000 in
set_option maxHeartbeats 1600000 in
theorem awake_calls (w : World) (hm : Mx w) : Calls Tryz.prog 6 #[] w fun e w' => e = .returned (.bool true) ∧ Below w.heap.size w w' := by
  have HPOS := Lib.hid hm.pos
  have HM := Lib.hid hm
  have HN := Lib.hid (new_ok w sX 9 (by decide) hm x_server (by omega) (by omega))
  clear hm
  go_enter Tryz.func6, Tryz.ntmps6
  go_wp2_with fail
  refine HN.out.mono ?_
  rintro e w1 ⟨g, b, rfl, ht, hg, hbb, hb⟩
  have HT := Lib.hid ht
  have HBB := Lib.hid hbb
  have HB := Lib.hid hb
  have HM1 := Lib.hid (HM.out.below hb HPOS.out)
  clear ht hg hbb hb HN
  go_wp2_with fail
  refine (add_ok w1 g b sX 9 [] sW sA sAnn HT.out (by decide) (by decide) (by decide) HM1.out w_is a_is ann_is w_of rfl (by decide) (by decide)).mono ?_
  rintro e w2 ⟨rfl, ht, hf⟩
  have HT2 := Lib.hid (show Tab w2 g b sX 9 [⟨sW, sA, sAnn⟩] from ht)
  have HB2 := Lib.hid (fr_below HB.out HBB.out hf)
  have HM2 := Lib.hid (HM.out.below HB2.out HPOS.out)
  clear ht hf
  go_wp2_with fail
  refine (add_there w2 g b sX 9 [⟨sW, sA, sAnn⟩] sW sB sAnn HT2.out (by decide) (by decide) (by decide) HM2.out w_is b_is ann_is w_of ⟨sW, sA, sAnn⟩ (w_own _ _)).mono ?_
  rintro e w3 ⟨rfl, ht, hb⟩
  have HT3 := Lib.hid ht
  have HB3 := Lib.hid (HB2.out.trans (hb.mono HB2.out.size))
  clear ht hb
  go_wp2_with fail
  refine (is_code 15 15 w3).mono ?_
  rintro e w4 ⟨rfl, rfl⟩
  go_wp2_with fail
  refine (len_calls w3 g b sX 9 _ HT3.out).mono ?_
  rintro e w4 ⟨rfl, rfl⟩
  go_wp2_with fail
  go_ret
  exact ⟨rfl, HB3.out⟩
end Go.Proofs.YtgnoaeldmpbjmaaGreatDoor
/- How many of a list are of each room. No walk. -/
set_option linter.unusedVariables false
namespace Go.Proofs.YtgnoaeldmpbjmaaGreatDoor
open Go.RowKit Go.Maps Go.Sort

theorem getS_ins (k : ByteArray) (v : Value) (k' : ByteArray) : ∀ m : List (ByteArray × Value), (∀ e ∈ m, keyIs k e = false) → getS (insS (k, v) m) k' = if (k.data.toList == k'.data.toList) = true then some v else getS m k'
  | [], _ => by
    unfold getS insS
    rw [List.find?_cons]
    show (match keyIs k' (k, v) with | true => _ | false => _ : Option _).map _ = _
    have : keyIs k' (k, v) = (k.data.toList == k'.data.toList) := rfl
    rw [this]
    cases (k.data.toList == k'.data.toList) <;> rfl
  | y :: r, h => by
    have hy := h y (by simp)
    have ih := getS_ins k v k' r (fun e he => h e (by simp [he]))
    unfold insS
    split
    · unfold getS
      rw [List.find?_cons]
      have : keyIs k' (k, v) = (k.data.toList == k'.data.toList) := rfl
      rw [this]
      cases (k.data.toList == k'.data.toList) <;> rfl
    · unfold getS at ih ⊢
      rw [List.find?_cons, List.find?_cons]
      cases hk : keyIs k' y with
      | false => exact ih
      | true =>
        have hne : (k.data.toList == k'.data.toList) = false := by
          rw [beq_eq_false_iff_ne]
          intro e
          unfold keyIs at hy hk
          rw [e] at hy
          rw [hy] at hk
          cases hk
        rw [hne]
        rfl
theorem getS_del (k k' : ByteArray) (hne : (k.data.toList == k'.data.toList) = false) : ∀ m : List (ByteArray × Value), getS (delS k m) k' = getS m k'
  | [] => rfl
  | y :: r => by
    have ih := getS_del k k' hne r
    unfold getS delS at ih ⊢
    rw [List.filter_cons, List.find?_cons]
    cases hk : keyIs k y with
    | false =>
      simp only [Bool.not_false, if_true]
      rw [List.find?_cons]
      cases keyIs k' y
      · exact ih
      · rfl
    | true =>
      have h2 : keyIs k' y = false := by
        unfold keyIs at hk ⊢
        rw [beq_eq_false_iff_ne] at hne ⊢
        intro e
        exact hne (by rw [← e]; exact (by simpa using hk : y.1.data.toList = k.data.toList).symm)
      simp only [Bool.not_true, Bool.false_eq_true, if_false, h2]
      exact ih
theorem getS_put (k : ByteArray) (v : Value) (l : List (ByteArray × Value)) (k' : ByteArray) : getS (putS k v l) k' = if (k.data.toList == k'.data.toList) = true then some v else getS l k' := by
  unfold putS
  rw [getS_ins k v k' (delS k l) (fun e he => by
    have := (List.mem_filter.1 he).2
    simpa using this)]
  by_cases h : (k.data.toList == k'.data.toList) = true
  · rw [if_pos h, if_pos h]
  · rw [if_neg h, if_neg h, getS_del k k' (by simpa using h)]
def cntR (l : List En) (room : ByteArray) : Nat := l.countP fun x => sameB x.r room
theorem cnt_of (l : List En) (room : ByteArray) : (ofRoom room l).length = cntR l room := by simp [ofRoom, cntR, List.countP_eq_length_filter]
/-- The rooms' map behind a list. -/
def RoomsOk (rl : List (ByteArray × Value)) (l : List En) : Prop := ∀ k : ByteArray, getS rl k = if 0 < cntR l k then some (.int .i64 (cntR l k)) else none
theorem rooms_nil : RoomsOk [] [] := fun k => rfl
theorem sameB_iff (a b : ByteArray) : sameB a b = (a.data.toList == b.data.toList) := by unfold sameB; rw [ByteArray.toList_eq, ByteArray.toList_eq]
theorem rooms_old {rl : List (ByteArray × Value)} {l : List En} (h : RoomsOk rl l) (k : ByteArray) : (getS rl k).getD (.int .i64 0) = .int .i64 (cntR l k) := by
  rw [h k]
  by_cases hc : 0 < cntR l k
  · rw [if_pos hc]; rfl
  · rw [if_neg hc]
    have : cntR l k = 0 := by omega
    rw [this]; rfl
theorem cnt_snoc (l : List En) (x : En) (k : ByteArray) : cntR (l ++ [x]) k = cntR l k + if sameB x.r k = true then 1 else 0 := by
  unfold cntR
  rw [List.countP_append, List.countP_cons]
  simp
theorem rooms_step {rl : List (ByteArray × Value)} {l : List En} (h : RoomsOk rl l) (x : En) : RoomsOk (putS x.r (.int .i64 ((cntR l x.r : Int) + 1)) rl) (l ++ [x]) := fun k => by
  rw [getS_put, cnt_snoc, sameB_iff]
  by_cases hk : (x.r.data.toList == k.data.toList) = true
  · rw [if_pos hk, if_pos hk, if_pos (by omega)]
    have : x.r = k := ba_eq (by simpa using hk)
    subst this
    rfl
  · rw [if_neg hk, if_neg hk, Nat.add_zero]
    exact h k
theorem put_length (k : ByteArray) (v : Value) (l : List (ByteArray × Value)) : (putS k v l).length ≤ l.length + 1 := by
  have hi : ∀ (x : ByteArray × Value) (m : List (ByteArray × Value)), (insS x m).length = m.length + 1 := by
    intro x m
    induction m with
    | nil => rfl
    | cons y r ih =>
      unfold insS
      split
      · rfl
      · simp [ih]
  unfold putS
  rw [hi]
  have := List.length_filter_le (fun e => !keyIs k e) l
  unfold delS
  omega
/-- How many of the list have a room that came already. -/
def seenN (left : Lit → Bool) (l : List En) : Nat := l.countP fun e => !left (lk e.r)
theorem seen_none {left : Lit → Bool} {l : List En} (h : ∀ e ∈ l, left (lk e.r) = true) : seenN left l = 0 := by
  unfold seenN
  rw [List.countP_eq_zero]
  intro e he
  rw [h e he]; simp
theorem seen_all {left : Lit → Bool} {l : List En} (h : ∀ z, left z = false) : seenN left l = l.length := by
  unfold seenN
  rw [List.countP_eq_length]
  intro e _
  rw [h]; rfl
theorem seen_step {left : Lit → Bool} (x : ByteArray) (hl : left (lk x) = true) : ∀ l : List En, seenN (fun z => left z && !z.sameKey (lk x)) l = seenN left l + cntR l x
  | [] => rfl
  | e :: l => by
    have ih := seen_step x hl l
    unfold seenN cntR at ih ⊢
    rw [List.countP_cons, List.countP_cons, List.countP_cons, ih]
    have h1 : (lk e.r).sameKey (lk x) = (e.r.data.toList == x.data.toList) := lk_same _ _
    have h2 := sameB_iff e.r x
    cases hk : (e.r.data.toList == x.data.toList) with
    | true =>
      have : e.r = x := ba_eq (by simpa using hk)
      subst this
      rw [hk] at h1 h2
      simp only [h1, h2, hl]
      simp
      omega
    | false =>
      rw [hk] at h1 h2
      simp only [h1, h2]
      cases left (lk e.r) <;> simp <;> omega
theorem rooms_has {rl : List (ByteArray × Value)} {l : List En} (h : RoomsOk rl l) {e : En} (he : e ∈ l) : Maps.has (MD rl) (lk e.r) = true := by
  rw [MD_has, h e.r, if_pos]
  · rfl
  · unfold cntR
    exact List.countP_pos_iff.2 ⟨e, he, by simp [sameB]⟩
theorem rooms_at {rl : List (ByteArray × Value)} {l : List En} (h : RoomsOk rl l) {x : ByteArray} {c : Value} (hh : Maps.has (MD rl) (lk x) = true) (hat : ∀ zd, (MD rl).atKey (lk x) zd = .held c) : c = .int .i64 (cntR l x) := by
  have h1 := hat (.held undef)
  rw [MD_atKey] at h1
  rw [MD_has, h x] at hh
  rw [h x] at h1
  by_cases hc : 0 < cntR l x
  · rw [if_pos hc] at h1
    injection h1 with h1
    exact h1.symm
  · rw [if_neg hc] at hh
    cases hh
/-- A room's aliases: each there, of it, rising. -/
theorem of_at {l : List En} (hl : RiseE l) {room : ByteArray} {i : Nat} {a : ByteArray} (h : (ofRoom room l)[i]? = some a) : ∃ x ∈ l, x.a = a ∧ (x.r.toList == room.toList) = true ∧ getE l a = some x := by
  unfold ofRoom at h
  rw [List.getElem?_map] at h
  obtain ⟨x, hx, rfl⟩ := Option.map_eq_some_iff.1 h
  have hm := List.mem_filter.1 (List.mem_of_getElem? hx)
  exact ⟨x, hm.1, rfl, hm.2, hl.get hm.1⟩
theorem of_rise {l : List En} (hl : RiseE l) {room : ByteArray} {i : Nat} {a b : ByteArray} (h1 : (ofRoom room l)[i]? = some a) (h2 : (ofRoom room l)[i + 1]? = some b) : Op.bytesLess a.toList b.toList = true := by
  have hp : (ofRoom room l).Pairwise fun a b => bytesBefore a.data.toList b.data.toList = true := by
    unfold ofRoom
    rw [List.pairwise_map]
    exact List.Pairwise.filter _ hl
  rw [less_before]
  obtain ⟨h3, h4⟩ := List.getElem?_eq_some_iff.1 h1
  obtain ⟨h5, h6⟩ := List.getElem?_eq_some_iff.1 h2
  have := List.pairwise_iff_getElem.1 hp i (i + 1) h3 h5 (by omega)
  rw [h4, h6] at this
  exact this
end Go.Proofs.YtgnoaeldmpbjmaaGreatDoor
/- Slices and their rows, of any length up to a bound. No program is named. -/
namespace Go.Proofs.YtgnoaeldmpbjmaaGreatDoor
open Go.RowKit

/-- A slice's row: nothing, or the first cells of a block of which P holds. -/
def RowB (K : Nat) (w : World) (P : Nat → Prop) (E sz : Nat) (s : Sl) (l : List (List Value)) : Prop :=
  s.n = l.length ∧ l.length ≤ K ∧ ((s = ⟨none, 0, 0⟩ ∧ l = []) ∨ ∃ r, s.a = some ⟨r, 0, none⟩ ∧ s.n ≤ s.c ∧ P r ∧ r < w.heap.size ∧ Rw w E r s.c sz l)
theorem RowB.same {K : Nat} {w w' : World} {P : Nat → Prop} {E sz : Nat} {s : Sl} {l : List (List Value)} (h : RowB K w P E sz s l) (hs : w.heap.size ≤ w'.heap.size) (hb : ∀ g, g < w.heap.size → P g → w'.heap[g]? = w.heap[g]?) : RowB K w' P E sz s l := by
  obtain ⟨h1, h2, h⟩ := h
  refine ⟨h1, h2, ?_⟩
  rcases h with h | ⟨r, h3, h4, h5, h6, h7⟩
  · exact .inl h
  · exact .inr ⟨r, h3, h4, h5, by omega, h7.same (hb r h6 h5)⟩
theorem RowB.mono {K : Nat} {w : World} {P Q : Nat → Prop} {E sz : Nat} {s : Sl} {l : List (List Value)} (h : RowB K w P E sz s l) (hq : ∀ g, g < w.heap.size → P g → Q g) : RowB K w Q E sz s l := by
  obtain ⟨h1, h2, h⟩ := h
  refine ⟨h1, h2, ?_⟩
  rcases h with h | ⟨r, h3, h4, h5, h6, h7⟩
  · exact .inl h
  · exact .inr ⟨r, h3, h4, hq r h6 h5, h6, h7⟩
theorem RowB.of_own {K : Nat} {w : World} {base E sz n : Nat} {v : Value} {l : List (List Value)} (h : w.ownsRow base E sz v n l.flatten) (hl : ∀ c ∈ l, c.length = sz) (hz : 0 < sz) (hm : l.length ≤ K) :
    ∃ s : Sl, v = s.val ∧ RowB K w (fun g => base ≤ g) E sz s l := by
  obtain ⟨hn, h⟩ := Rw.of_own h hl hz
  rcases h with ⟨rfl, rfl⟩ | ⟨r, cap, rfl, hb, hr, hrw⟩
  · exact ⟨⟨none, 0, 0⟩, by first | (simp [Sl.val]; done) | (simp [Sl.val]; simpa using hn), rfl, hm, .inl ⟨rfl, rfl⟩⟩
  · exact ⟨⟨some ⟨r, 0, none⟩, n, cap⟩, rfl, hn, hm, .inr ⟨r, rfl, by show n ≤ cap; rw [hn]; exact hrw.choose_spec.2.2.1, hb, hr, hrw⟩⟩
theorem RowB.at {K : Nat} {w : World} {P : Nat → Prop} {E sz : Nat} {s : Sl} {l : List (List Value)} (h : RowB K w P E sz s l) {r : Nat} (ha : s.a = some ⟨r, 0, none⟩) : P r ∧ r < w.heap.size ∧ Rw w E r s.c sz l := by
  obtain ⟨_, _, ⟨rfl, _⟩ | ⟨r', h1, _, h3, h4, h5⟩⟩ := h
  · cases ha
  · rw [h1] at ha
    injection ha with ha
    injection ha with ha
    subst ha
    exact ⟨h3, h4, h5⟩
theorem RowB.kept {K : Nat} {w w' : World} {P : Nat → Prop} {E sz : Nat} {s : Sl} {l : List (List Value)} (h : RowB K w P E sz s l) (hs : w.heap.size ≤ w'.heap.size) (hb : ∀ g, g < w.heap.size → s.a = some ⟨g, 0, none⟩ → w'.heap[g]? = w.heap[g]?) : RowB K w' P E sz s l := by
  obtain ⟨h1, h2, h⟩ := h
  refine ⟨h1, h2, ?_⟩
  rcases h with h | ⟨r, h3, h4, h5, h6, h7⟩
  · exact .inl h
  · exact .inr ⟨r, h3, h4, h5, by omega, h7.same (hb r h6 h3)⟩
theorem RowB.both {K : Nat} {w : World} {P : Nat → Prop} {E sz : Nat} {s : Sl} {l : List (List Value)} (h : RowB K w P E sz s l) {Q : Nat → Prop} (hq : ∀ r, s.a = some ⟨r, 0, none⟩ → P r → Q r) : RowB K w Q E sz s l := by
  obtain ⟨h1, h2, h⟩ := h
  refine ⟨h1, h2, ?_⟩
  rcases h with h | ⟨r, h3, h4, h5, h6, h7⟩
  · exact .inl h
  · exact .inr ⟨r, h3, h4, hq r h3 h5, h6, h7⟩
end Go.Proofs.YtgnoaeldmpbjmaaGreatDoor
/- The program's values (value.Value, value.Member) in memory. No walk. -/
namespace Go.Proofs.YtgnoaeldmpbjmaaGreatDoor
open Go.RowKit

/-- A value.Value's six cells. -/
structure V6 where
  kind : Int
  yes : Bool
  int : Int
  text : ByteArray
  list : Sl
  map : Sl
abbrev V6.cells (x : V6) : Array Value := #[.int .i64 x.kind, .bool x.yes, .int .i64 x.int, .string x.text, .slice x.list.a x.list.n x.list.c, .slice x.map.a x.map.n x.map.c]
structure Mb where
  key : ByteArray
  v : V6
abbrev Mb.cells (m : Mb) : Array Value := #[.string m.key, .int .i64 m.v.kind, .bool m.v.yes, .int .i64 m.v.int, .string m.v.text, .slice m.v.list.a m.v.list.n m.v.list.c, .slice m.v.map.a m.v.map.n m.v.map.c]

/-- What a value is, whatever memory. -/
inductive V where
  | mk (kind : Int) (yes : Bool) (int : Int) (text : ByteArray) (list : List V) (map : List (ByteArray × V)) : V

abbrev vcells (l : List V6) : List (List Value) := l.map fun x => x.cells.toList
abbrev mcells (l : List Mb) : List (List Value) := l.map fun x => x.cells.toList

/-- Six cells of w tell a value; all that it reaches lies in blocks of which P holds. -/
inductive RepV (w : World) (P : Nat → Prop) : V6 → V → Prop where
  | mk (x : V6) (L : List V) (M : List (ByteArray × V)) (xs : List V6) (ms : List Mb)
    (hL : RowB 1599289640401 w P 92 6 x.list (vcells xs)) (hM : RowB 1353245080339 w P 141 7 x.map (mcells ms))
    (lenL : xs.length = L.length) (lenM : ms.length = M.length)
    (elL : ∀ (i : Nat) (y : V6) (v : V), xs[i]? = some y → L[i]? = some v → RepV w P y v)
    (keyM : ∀ (i : Nat) (m : Mb) (kv : ByteArray × V), ms[i]? = some m → M[i]? = some kv → m.key = kv.1)
    (elM : ∀ (i : Nat) (m : Mb) (kv : ByteArray × V), ms[i]? = some m → M[i]? = some kv → RepV w P m.v kv.2) :
    RepV w P x (.mk x.kind x.yes x.int x.text L M)

theorem RepV.same {w w' : World} {P : Nat → Prop} {x : V6} {v : V} (h : RepV w P x v) (hs : w.heap.size ≤ w'.heap.size) (hb : ∀ g, g < w.heap.size → P g → w'.heap[g]? = w.heap[g]?) : RepV w' P x v := by
  induction h with
  | mk x L M xs ms hL hM lenL lenM elL keyM elM ih1 ih2 => exact .mk x L M xs ms (hL.same hs hb) (hM.same hs hb) lenL lenM ih1 keyM ih2
theorem RepV.mono {w : World} {P Q : Nat → Prop} {x : V6} {v : V} (h : RepV w P x v) (hq : ∀ g, g < w.heap.size → P g → Q g) : RepV w Q x v := by
  induction h with
  | mk x L M xs ms hL hM lenL lenM elL keyM elM ih1 ih2 => exact .mk x L M xs ms (hL.mono hq) (hM.mono hq) lenL lenM ih1 keyM ih2
theorem RepV.under {B : Nat} {w w' : World} {P : Nat → Prop} {x : V6} {v : V} (h : RepV w P x v) (hb : Below B w w') (hs : ∀ g, P g → g < B) : RepV w' P x v := h.same hb.size (fun g _ hp => hb.block g (hs g hp))
/-- A value of no parts. -/
theorem RepV.leaf (w : World) (P : Nat → Prop) (k : Int) (y : Bool) (i : Int) (t : ByteArray) : RepV w P ⟨k, y, i, t, ⟨none, 0, 0⟩, ⟨none, 0, 0⟩⟩ (.mk k y i t [] []) :=
  .mk ⟨k, y, i, t, ⟨none, 0, 0⟩, ⟨none, 0, 0⟩⟩ [] [] [] [] ⟨rfl, by simp, .inl ⟨rfl, rfl⟩⟩ ⟨rfl, by simp, .inl ⟨rfl, rfl⟩⟩ rfl rfl (by simp) (by simp) (by simp)

theorem vcells_len (l : List V6) : ∀ c ∈ vcells l, c.length = 6 := by
  intro c hc
  obtain ⟨x, _, rfl⟩ := List.mem_map.1 hc
  rfl
theorem mcells_len (l : List Mb) : ∀ c ∈ mcells l, c.length = 7 := by
  intro c hc
  obtain ⟨x, _, rfl⟩ := List.mem_map.1 hc
  rfl
theorem vcells_one (l : List V6) : ∀ u ∈ (vcells l).flatten, u.oneCell' = true := by
  intro u hu
  obtain ⟨c, hc, hu⟩ := List.mem_flatten.1 hu
  obtain ⟨x, _, rfl⟩ := List.mem_map.1 hc
  simp at hu
  rcases hu with rfl | rfl | rfl | rfl | rfl | rfl <;> rfl
theorem mcells_one (l : List Mb) : ∀ u ∈ (mcells l).flatten, u.oneCell' = true := by
  intro u hu
  obtain ⟨c, hc, hu⟩ := List.mem_flatten.1 hu
  obtain ⟨x, _, rfl⟩ := List.mem_map.1 hc
  simp at hu
  rcases hu with rfl | rfl | rfl | rfl | rfl | rfl | rfl <;> rfl
/-- The cells of a row, in a line. -/
theorem Rw.flat {w : World} {E r cap sz : Nat} {l : List (List Value)} (h : Rw w E r cap sz l) (hz : 0 < sz) : ∀ j u, l.flatten[j]? = some u → w.cell? ⟨r, j, none⟩ = some u := by
  intro j u hj
  have hlen : ∀ c ∈ l, c.length = sz := by
    intro c hc
    obtain ⟨i, hi⟩ := List.mem_iff_getElem?.1 hc
    obtain ⟨_, _, _, _, h4⟩ := h
    exact (h4 i c hi).1
  have hjl := (List.getElem?_eq_some_iff.1 hj).1
  rw [flatten_length l hlen] at hjl
  have hi : j / sz < l.length := Nat.div_lt_of_lt_mul (by rw [Nat.mul_comm]; exact hjl)
  have hd : j % sz < sz := Nat.mod_lt _ hz
  have hg : l[j / sz]? = some l[j / sz] := List.getElem?_eq_getElem hi
  have := flatten_get l hlen (j / sz) (j % sz) _ hg hd
  have he : j / sz * sz + j % sz = j := Nat.div_add_mod' j sz
  rw [he, hj] at this
  have := h.cell hg this.symm
  rw [he] at this
  exact this
end Go.Proofs.YtgnoaeldmpbjmaaGreatDoor
