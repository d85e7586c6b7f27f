/- The document's Get on a value that came in. -/
import Derived.Test.YtgnoaeldmpbjmaaGreatDoorMM7
import Derived.Test.YtgnoaeldmpbjmaaGreatDoorMM2
import Derived.Test.YtgnoaeldmpbjmaaGreatDoorRows
import Derived.DeepKeys4
import Derived.Maps.Views
import Derived.Laws.Cover1
import Derived.Test.YtgnoaeldmpbjmaaGreatDoorMM4
import Derived.Deep.DeepCutAuto
import Derived.Deep.Cut
import Derived.Laws.AppendOwn
import Derived.Laws.StructEq
import Derived.Test.YtgnoaeldmpbjmaaGreatDoorMM3
import Derived.Deep.MidRow
import Derived.Laws.Cells
set_option linter.unusedVariables false
set_option linter.unusedSimpArgs false
namespace Go.Proofs.YtgnoaeldmpbjmaaGreatDoor
open Go.RowKit

theorem six_below {w w0 : World} {B g : Nat} {a b c d e f : Value} (h : Below B w0 w) (hB : B ≤ w0.heap.size) (hg : B ≤ g) : Below B w0 ((((((w.setCell ⟨g, 0, none⟩ a).setCell ⟨g, 1, none⟩ b).setCell ⟨g, 2, none⟩ c).setCell ⟨g, 3, none⟩ d).setCell ⟨g, 4, none⟩ e).setCell ⟨g, 5, none⟩ f) :=
  h.trans (Fr.to_below (S := fun i => i = g) ((((((Fr.setCell (S := fun i => i = g) w ⟨g, 0, none⟩ a rfl).trans (Fr.setCell _ ⟨g, 1, none⟩ b rfl)).trans (Fr.setCell _ ⟨g, 2, none⟩ c rfl)).trans (Fr.setCell _ ⟨g, 3, none⟩ d rfl)).trans (Fr.setCell _ ⟨g, 4, none⟩ e rfl)).trans (Fr.setCell _ ⟨g, 5, none⟩ f rfl)) (Nat.le_trans hB h.size) (fun k hk e => by omega))
theorem find_first {α : Type} {p : α → Bool} {l : List α} {k : Nat} {x : α} (hx : l[k]? = some x) (hp : p x = true) (hno : ∀ (i : Nat) (y : α), i < k → l[i]? = some y → p y = false) : l.find? p = some x := by
  rw [List.find?_eq_some_iff_getElem]
  have hk := (List.getElem?_eq_some_iff.1 hx).1
  refine ⟨hp, k, hk, (List.getElem?_eq_some_iff.1 hx).2, fun j hj => ?_⟩
  rw [hno j _ hj (List.getElem?_eq_getElem (by omega))]; rfl
set_option maxRecDepth 100000 in
set_option maxHeartbeats 4000000 in
theorem rget_ok {w : World} {x : V6} {v : V} (h : RepI w x v) (key : ByteArray) : ∀ W, Below w.heap.size w W → Calls Tryz.prog 65 #[.agg x.cells, .string key] W fun e w' => ∃ x' : V6, e = .returned (.tuple #[.agg x'.cells, .bool (v.get key).isSome]) ∧ (v.get key = none → x' = ⟨0, false, 0, ⟨#[]⟩, ⟨none, 0, 0⟩, ⟨none, 0, 0⟩⟩) ∧ (∀ u, v.get key = some u → RepI w x' u) ∧ Below W.heap.size W w' := by
  cases h with
  | mk _ L M xs ms ht hL hM lenL lenM elL keyM elM =>
    intro W hbW
    have hnm : x.map.n = ms.length := by have := hM.1; simpa using this
    have hkm : ms.length ≤ 1353245080339 := by have := hM.2.1; simpa using this
    have HM := Lib.hid hM.2.2.2
    have HEL := Lib.hid elM
    have HLM := Lib.hid lenM
    have HKM := Lib.hid keyM
    have HBW := Lib.hid hbW
    obtain ⟨xk, xy, xi, xt, ⟨la, ln, lc⟩, ⟨ma, mn, mc⟩⟩ := x
    dsimp only at hnm
    subst hnm
    clear ht hL hM lenL lenM elL keyM elM hbW
    by_cases h5 : xk = 5
    · subst h5
      have HGT := Lib.hid (show (V.mk 5 xy xi xt L M).get key = (M.find? fun kv => kv.1.toList == key.toList).map (·.2) from by unfold V.get; simp)
      go_enter Tryz.func65, Tryz.ntmps65
      go_wp2_with fail
      have hx0 : ((W.alloc (.cells #[.int .i64 5, .bool xy, .int .i64 xi, .string xt, .slice la ln lc, .slice ma ms.length mc] 71)).alloc (.cells #[.int .i64 0, .bool false, .int .i64 0, .string ⟨#[]⟩, .slice none 0 0, .slice none 0 0] 71)).heap[W.heap.size]? = some (.cells #[.int .i64 5, .bool xy, .int .i64 xi, .string xt, .slice la ln lc, .slice ma ms.length mc] 71 (0, 0)) := (heap_old_at _ _ _ (by simp)).trans (heap_new_at _ _ _ rfl)
      have hz0 : ((W.alloc (.cells #[.int .i64 5, .bool xy, .int .i64 xi, .string xt, .slice la ln lc, .slice ma ms.length mc] 71)).alloc (.cells #[.int .i64 0, .bool false, .int .i64 0, .string ⟨#[]⟩, .slice none 0 0, .slice none 0 0] 71)).heap[W.heap.size + 1]? = some (.cells #[.int .i64 0, .bool false, .int .i64 0, .string ⟨#[]⟩, .slice none 0 0, .slice none 0 0] 71 (0, 0)) := heap_new_at _ _ _ (by simp)
      have hb0 : Below W.heap.size W ((W.alloc (.cells #[.int .i64 5, .bool xy, .int .i64 xi, .string xt, .slice la ln lc, .slice ma ms.length mc] 71)).alloc (.cells #[.int .i64 0, .bool false, .int .i64 0, .string ⟨#[]⟩, .slice none 0 0, .slice none 0 0] 71)) := ((Below.refl _ _).alloc (Nat.le_refl _) _).alloc (by simp) _
      generalize (W.alloc (.cells #[.int .i64 5, .bool xy, .int .i64 xi, .string xt, .slice la ln lc, .slice ma ms.length mc] 71)).alloc (.cells #[.int .i64 0, .bool false, .int .i64 0, .string ⟨#[]⟩, .slice none 0 0, .slice none 0 0] 71) = w1 at *
      have HX := Lib.hid hx0
      have HZ := Lib.hid hz0
      have HB := Lib.hid hb0
      clear hx0 hz0 hb0
      go_loopw [13] (fun c wr => ∃ k : Nat, k ≤ ms.length ∧ c = .int .i64 k ∧ wr = w1 ∧ ∀ (i : Nat) (kv : ByteArray × V), i < k → M[i]? = some kv → (kv.1.toList == key.toList) = false) (fun c _ => ms.length - (intOf c).toNat)
      case atStart => exact ⟨0, by omega, rfl, rfl, fun i kv h => absurd h (by omega)⟩
      case round =>
        obtain ⟨k, hk, rfl, rfl, hno⟩ := hrel
        have HNO := Lib.hid hno
        clear hno
        have x5 := cell_at (j := 5) HX.out rfl
        have z0 := fun j => frozen_at (j := j) HZ.out
        have z1 := cell_at (j := 0) HZ.out rfl
        have z2 := cell_at (j := 1) HZ.out rfl
        have z3 := cell_at (j := 2) HZ.out rfl
        have z4 := cell_at (j := 3) HZ.out rfl
        have z5 := cell_at (j := 4) HZ.out rfl
        have z6 := cell_at (j := 5) HZ.out rfl
        by_cases hlt : k < ms.length
        · obtain ⟨ad, hla, hadl, hcell⟩ := HM.out (by simpa using (by omega : 0 < ms.length))
          have hy : ms[k]? = some ms[k] := List.getElem?_eq_getElem hlt
          obtain ⟨kv, hkv⟩ : ∃ kv, M[k]? = some kv := ⟨_, List.getElem?_eq_getElem (by rw [← HLM.out]; exact hlt)⟩
          generalize ms[k] = m at hy
          have hkey := (HKM.out k m kv hy hkv).1
          have hel := HEL.out k m kv hy hkv
          have hrow : (mcells ms)[k]? = some m.cells.toList := by simp [mcells, hy]
          have hbr : Below w.heap.size w wr := HBW.out.trans (HB.out.mono HBW.out.size)
          have c0 : wr.cell? (ad.add (k * 7)) = some (.string m.key) := (hbr.cell (p := at2 ad (k * 7) 0) (by rw [at2_block]; exact hadl)).trans (hcell k 0 _ _ hrow rfl)
          have c1 : wr.cell? ⟨(ad.add (k * 7)).block, (ad.add (k * 7)).off + 1, none⟩ = some (.int .i64 m.v.kind) := (hbr.cell (p := at2 ad (k * 7) 1) (by rw [at2_block]; exact hadl)).trans (hcell k 1 _ _ hrow rfl)
          have c2 : wr.cell? ⟨(ad.add (k * 7)).block, (ad.add (k * 7)).off + 2, none⟩ = some (.bool m.v.yes) := (hbr.cell (p := at2 ad (k * 7) 2) (by rw [at2_block]; exact hadl)).trans (hcell k 2 _ _ hrow rfl)
          have c3 : wr.cell? ⟨(ad.add (k * 7)).block, (ad.add (k * 7)).off + 3, none⟩ = some (.int .i64 m.v.int) := (hbr.cell (p := at2 ad (k * 7) 3) (by rw [at2_block]; exact hadl)).trans (hcell k 3 _ _ hrow rfl)
          have c4 : wr.cell? ⟨(ad.add (k * 7)).block, (ad.add (k * 7)).off + 4, none⟩ = some (.string m.v.text) := (hbr.cell (p := at2 ad (k * 7) 4) (by rw [at2_block]; exact hadl)).trans (hcell k 4 _ _ hrow rfl)
          have c5 : wr.cell? ⟨(ad.add (k * 7)).block, (ad.add (k * 7)).off + 5, none⟩ = some (.slice m.v.list.a m.v.list.n m.v.list.c) := (hbr.cell (p := at2 ad (k * 7) 5) (by rw [at2_block]; exact hadl)).trans (hcell k 5 _ _ hrow rfl)
          have c6 : wr.cell? ⟨(ad.add (k * 7)).block, (ad.add (k * 7)).off + 6, none⟩ = some (.slice m.v.map.a m.v.map.n m.v.map.c) := (hbr.cell (p := at2 ad (k * 7) 6) (by rw [at2_block]; exact hadl)).trans (hcell k 6 _ _ hrow rfl)
          have hadr : ad.block < wr.heap.size := Nat.lt_of_lt_of_le hadl hbr.size
          have HEM := Lib.hid hel
          have HKV := Lib.hid hkv
          have HKEY := Lib.hid hkey
          subst hla
          clear hy hrow hcell hbr hel hkv hkey
          cases hsame : (m.key.toList == key.toList) with
          | true =>
            have HS := Lib.hid hsame
            go_wp2_with fail
            refine bodyPost_ret (results_row_tmp rfl _ _ (W.heap.size + 1) 71 #[.int .i64 m.v.kind, .bool m.v.yes, .int .i64 m.v.int, .string m.v.text, .slice m.v.list.a m.v.list.n m.v.list.c, .slice m.v.map.a m.v.map.n m.v.map.c] (0, 0) _ rfl (six_heap HZ.out rfl) Tryz.underlying71 rfl (by kernel_rfl)) rfl ?_
            have hf := find_first HKV.out (by rw [← HKEY.out]; exact HS.out) HNO.out
            rw [HGT.out, hf]
            exact ⟨m.v, rfl, (fun h => by cases h), (fun u hu => by injection hu with hu; rw [← hu]; exact HEM.out), six_below HB.out (Nat.le_refl _) (by omega)⟩
          | false =>
            have HS := Lib.hid hsame
            go_wp2_with fail
            exact ⟨⟨k + 1, by omega, by go_num, (by first | rfl | trivial), fun i kv' hi hM => by
              by_cases hik : i = k
              · subst hik
                rw [HKV.out] at hM
                injection hM with hM
                rw [← hM, ← HKEY.out]
                exact HS.out
              · exact HNO.out i kv' (by omega) hM⟩, by simp [intOf]; omega⟩
        · obtain rfl : k = ms.length := by omega
          go_wp2_with fail
          refine bodyPost_ret (results_row_tmp rfl _ _ (W.heap.size + 1) 71 #[.int .i64 0, .bool false, .int .i64 0, .string ⟨#[]⟩, .slice none 0 0, .slice none 0 0] (0, 0) _ rfl (six_heap HZ.out rfl) Tryz.underlying71 rfl (by kernel_rfl)) rfl ?_
          have hf : M.find? (fun kv => kv.1.toList == key.toList) = none := List.find?_eq_none.2 fun kv hkv => by
            obtain ⟨i, hi⟩ := List.mem_iff_getElem?.1 hkv
            rw [HNO.out i kv (by rw [HLM.out]; exact (List.getElem?_eq_some_iff.1 hi).1) hi]; simp
          rw [HGT.out, hf]
          exact ⟨⟨0, false, 0, ⟨#[]⟩, ⟨none, 0, 0⟩, ⟨none, 0, 0⟩⟩, rfl, fun _ => rfl, (fun u hu => by cases hu), six_below HB.out (Nat.le_refl _) (by omega)⟩
    · have HGT := Lib.hid (show (V.mk xk xy xi xt L M).get key = none from by unfold V.get; simp [h5])
      have h5b : (xk == 5) = false := by simp [h5]
      go_enter Tryz.func65, Tryz.ntmps65
      go_wp2_with fail
      refine bodyPost_ret (results_row_tmp rfl _ _ (W.heap.size + 1) 71 #[.int .i64 0, .bool false, .int .i64 0, .string ⟨#[]⟩, .slice none 0 0, .slice none 0 0] (0, 0) _ rfl (heap_new_at _ _ _ (by simp)) Tryz.underlying71 rfl (by kernel_rfl)) rfl ?_
      rw [HGT.out]
      exact ⟨⟨0, false, 0, ⟨#[]⟩, ⟨none, 0, 0⟩, ⟨none, 0, 0⟩⟩, rfl, fun _ => rfl, (fun u hu => by cases hu), ((Below.refl _ _).alloc (Nat.le_refl _) _).alloc (by simp) _⟩
end Go.Proofs.YtgnoaeldmpbjmaaGreatDoor
/- The document's Str: a text of a value that came in. -/
set_option linter.unusedVariables false
set_option linter.unusedSimpArgs false
namespace Go.Proofs.YtgnoaeldmpbjmaaGreatDoor
open Go.RowKit

def V.str (v : V) (key : ByteArray) : ByteArray := match v.get key with
  | some (.mk k _ _ t _ _) => if k = 3 then t else ⟨#[]⟩
  | none => ⟨#[]⟩
set_option maxRecDepth 100000 in
set_option maxHeartbeats 2000000 in
theorem rstr_ok {w : World} {x : V6} {v : V} (h : RepI w x v) (key : ByteArray) : ∀ W, Below w.heap.size w W → Calls Tryz.prog 40 #[.agg x.cells, .string key] W fun e w' => e = .returned (.string (v.str key)) ∧ Below W.heap.size W w' := by
  intro W hbW
  have hb0 : Below W.heap.size W (W.alloc (.cells x.cells 71)) := (Below.refl _ _).alloc (Nat.le_refl _) _
  have HG := Lib.hid (rget_ok h key _ (hbW.trans (hb0.mono hbW.size)))
  have HB0 := Lib.hid hb0
  clear h hbW hb0
  obtain ⟨xk, xy, xi, xt, ⟨la, ln, lc⟩, ⟨ma, mn, mc⟩⟩ := x
  dsimp only [V6.cells] at HG HB0
  go_enter Tryz.func40, Tryz.ntmps40
  go_wp2_with fail
  refine HG.out.mono ?_
  rintro e w1 ⟨⟨yk, yy, yi, yt, ⟨pa, pn, pc⟩, ⟨qa, qn, qc⟩⟩, rfl, hnone, hsome, hb1⟩
  have HB1 := Lib.hid (HB0.out.trans (hb1.mono (by simp)))
  have hstr : v.str key = if yk = 3 then yt else ⟨#[]⟩ := by
    unfold V.str
    cases hg : v.get key with
    | none =>
      have := hnone hg
      injection this with e1 e2 e3 e4 e5 e6
      rw [e1]; rfl
    | some u =>
      have hr := hsome u hg
      cases hr
      rfl
  have HS := Lib.hid hstr
  clear hnone hsome hb1 hstr HG
  by_cases h3 : yk = 3
  · have h3b : (yk == 3) = true := by simp [h3]
    have h3c : (yk != 3) = false := by simp [h3]
    go_wp2_with fail
    go_ret
    exact ⟨by rw [HS.out, if_pos h3]; rfl, HB1.out.alloc HB1.out.size _⟩
  · have h3b : (yk == 3) = false := by simp [h3]
    have h3c : (yk != 3) = true := by simp [h3]
    go_wp2_with fail
    go_ret
    exact ⟨by rw [HS.out, if_neg h3]; rfl, HB1.out.alloc HB1.out.size _⟩
end Go.Proofs.YtgnoaeldmpbjmaaGreatDoor
/- The document's events that came in: opened. -/
set_option linter.unusedVariables false
namespace Go.Proofs.YtgnoaeldmpbjmaaGreatDoor
open Go.RowKit Go.ChangeShapes Go.WideShapes

/-- The document's event: its sixteen cells. -/
structure T16 where
  id : ByteArray
  room : ByteArray
  sender : ByteArray
  typ : ByteArray
  key : ByteArray
  state : Bool
  content : V6
  ts : Int
  depth : Int
  prev : Sl
  auth : Sl
abbrev T16.cells (t : T16) : Array Value := #[.string t.id, .string t.room, .string t.sender, .string t.typ, .string t.key, .bool t.state,
  .int .i64 t.content.kind, .bool t.content.yes, .int .i64 t.content.int, .string t.content.text, .slice t.content.list.a t.content.list.n t.content.list.c, .slice t.content.map.a t.content.map.n t.content.map.c,
  .int .i64 t.ts, .int .i64 t.depth, .slice t.prev.a t.prev.n t.prev.c, .slice t.auth.a t.auth.n t.auth.c]
abbrev trows (l : List ByteArray) : List (List Value) := l.map fun x => [.string x]
/-- What an event tells beside its cells. -/
structure TIn (w : World) (t : T16) (v : V) (p a : List ByteArray) : Prop where
  z : t.id.size ≤ 9223372036854775807 ∧ t.room.size ≤ 9223372036854775807 ∧ t.sender.size ≤ 9223372036854775807 ∧ t.typ.size ≤ 9223372036854775807 ∧ t.key.size ≤ 9223372036854775807
  c : RepI w t.content v
  pr : RowIn 8796093022207 w 1 t.prev (trows p)
  ar : RowIn 8796093022207 w 1 t.auth (trows a)
  ps : ∀ x ∈ p, x.size ≤ 9223372036854775807
  au : ∀ x ∈ a, x.size ≤ 9223372036854775807
  pn : t.prev.a = none → t.prev.c = 0
  an : t.auth.a = none → t.auth.c = 0
theorem TIn.under {B : Nat} {w w' : World} {t : T16} {v : V} {p a : List ByteArray} (h : TIn w t v p a) (hb : Below B w w') (hB : B = w.heap.size) : TIn w' t v p a :=
  ⟨h.z, h.c.under hb hB, h.pr.below hb hB, h.ar.below hb hB, h.ps, h.au, h.pn, h.an⟩
theorem cellsT : Tryz.prog.cellsOf 73 = 16 := by kernel_rfl
theorem bytesT : Tryz.prog.bytesOf 73 = 240 := by kernel_rfl
theorem bytesStr : Tryz.prog.bytesOf 9 = 16 := by kernel_rfl
theorem cellsSs : Tryz.prog.cellsOf 62 = 1 := by kernel_rfl
theorem list16 (l : List Value) (h : l.length = 16) : ∃ c0 c1 c2 c3 c4 c5 c6 c7 c8 c9 d0 d1 d2 d3 d4 d5, l = [c0, c1, c2, c3, c4, c5, c6, c7, c8, c9, d0, d1, d2, d3, d4, d5] := by
  match l, h with
  | [c0, c1, c2, c3, c4, c5, c6, c7, c8, c9, d0, d1, d2, d3, d4, d5], _ => exact ⟨c0, c1, c2, c3, c4, c5, c6, c7, c8, c9, d0, d1, d2, d3, d4, d5, rfl⟩
theorem open_texts {H : Type} {enc : TypeId × Value → H} {W : World} {held : Bool} {fuel : Nat} {cs : List Value} {x : DataW H × List MemPlace} (h : DataW.trod enc Tryz.prog W 0 (fun _ => true) held fuel 62 cs = some x) (hw : (x.1.weights Tryz.prog 62).all (· ≤ reachBytes) = true) :
    ∃ (s : Sl) (l : List ByteArray), cs = [s.val] ∧ RowIn 8796093022207 W 1 s (trows l) ∧ (∀ x ∈ l, x.size ≤ 9223372036854775807) ∧ (s.a = none → s.c = 0) :=
  open_slice (K := 8796093022207) (fun x : ByteArray => [.string x]) (fun x => x.size ≤ 9223372036854775807) Tryz.underlying62 cells1.2.2.1 bytesStr (fun n h => by unfold reachBytes at h; omega) (fun y => rfl) (by omega) h hw
    (fun n c y hn ht hwy => by
      obtain ⟨s, e, _, z⟩ := DataW.trod_string Tryz.underlying9 ht
      exact ⟨s, e, by unfold maxLen at z; exact z⟩)
set_option maxRecDepth 100000 in
/-- An event that came in, opened. -/
theorem open_t {H : Type} {enc : TypeId × Value → H} {W : World} {held : Bool} {fuel : Nat} {cs : List Value} {x : DataW H × List MemPlace} (h : DataW.trod enc Tryz.prog W 0 (fun _ => true) held fuel 73 cs = some x) (hw : (x.1.weights Tryz.prog 73).all (· ≤ reachBytes) = true) :
    ∃ (t : T16) (v : V) (p a : List ByteArray), cs = t.cells.toList ∧ TIn W t v p a := by
  obtain ⟨xs, m, hfu, hx, hcl, hxl, hg⟩ := DataW.trod_struct Tryz.underlying73 h
  subst hx
  rw [cellsT] at hcl
  obtain ⟨c0, c1, c2, c3, c4, c5, c6, c7, c8, c9, d0, d1, d2, d3, d4, d5, rfl⟩ := list16 cs hcl
  have hxl11 : xs.length = 11 := hxl
  dsimp only at hw
  unfold DataW.weights at hw
  rw [Tryz.underlying73] at hw
  dsimp only at hw
  obtain ⟨n1, n2, n3, n4, n5⟩ := cells1
  have str : ∀ (i : Nat) (hi : i < 11) (c : Value), DataW.trod enc Tryz.prog W 0 (fun _ => true) held m 9 [c] = xs[i]? → ∃ s : ByteArray, c = .string s ∧ s.size ≤ 9223372036854775807 := by
    intro i hi c hc
    rw [List.getElem?_eq_getElem (by omega)] at hc
    obtain ⟨s, e, _, z⟩ := DataW.trod_string Tryz.underlying9 hc
    simp at e
    exact ⟨s, e, by unfold maxLen at z; exact z⟩
  have int : ∀ (i : Nat) (hi : i < 11) (c : Value), DataW.trod enc Tryz.prog W 0 (fun _ => true) held m 3 [c] = xs[i]? → ∃ z : Int, c = .int .i64 z := by
    intro i hi c hc
    rw [List.getElem?_eq_getElem (by omega)] at hc
    obtain ⟨z, e, _⟩ := DataW.trod_int Tryz.underlying3 hc
    simp at e
    exact ⟨z, e⟩
  have g0 : DataW.trod enc Tryz.prog W 0 (fun _ => true) held m 9 (([c0, c1, c2, c3, c4, c5, c6, c7, c8, c9, d0, d1, d2, d3, d4, d5].drop 0).take (Tryz.prog.cellsOf 9)) = xs[0]? := hg 0 _ rfl
  have g1 : DataW.trod enc Tryz.prog W 0 (fun _ => true) held m 9 (([c0, c1, c2, c3, c4, c5, c6, c7, c8, c9, d0, d1, d2, d3, d4, d5].drop 1).take (Tryz.prog.cellsOf 9)) = xs[1]? := hg 1 _ rfl
  have g2 : DataW.trod enc Tryz.prog W 0 (fun _ => true) held m 9 (([c0, c1, c2, c3, c4, c5, c6, c7, c8, c9, d0, d1, d2, d3, d4, d5].drop 2).take (Tryz.prog.cellsOf 9)) = xs[2]? := hg 2 _ rfl
  have g3 : DataW.trod enc Tryz.prog W 0 (fun _ => true) held m 9 (([c0, c1, c2, c3, c4, c5, c6, c7, c8, c9, d0, d1, d2, d3, d4, d5].drop 3).take (Tryz.prog.cellsOf 9)) = xs[3]? := hg 3 _ rfl
  have g4 : DataW.trod enc Tryz.prog W 0 (fun _ => true) held m 9 (([c0, c1, c2, c3, c4, c5, c6, c7, c8, c9, d0, d1, d2, d3, d4, d5].drop 4).take (Tryz.prog.cellsOf 9)) = xs[4]? := hg 4 _ rfl
  have g5 : DataW.trod enc Tryz.prog W 0 (fun _ => true) held m 4 (([c0, c1, c2, c3, c4, c5, c6, c7, c8, c9, d0, d1, d2, d3, d4, d5].drop 5).take (Tryz.prog.cellsOf 4)) = xs[5]? := hg 5 _ rfl
  have g6 : DataW.trod enc Tryz.prog W 0 (fun _ => true) held m 71 (([c0, c1, c2, c3, c4, c5, c6, c7, c8, c9, d0, d1, d2, d3, d4, d5].drop 6).take (Tryz.prog.cellsOf 71)) = xs[6]? := hg 6 _ rfl
  have g7 : DataW.trod enc Tryz.prog W 0 (fun _ => true) held m 3 (([c0, c1, c2, c3, c4, c5, c6, c7, c8, c9, d0, d1, d2, d3, d4, d5].drop 12).take (Tryz.prog.cellsOf 3)) = xs[7]? := hg 7 _ rfl
  have g8 : DataW.trod enc Tryz.prog W 0 (fun _ => true) held m 3 (([c0, c1, c2, c3, c4, c5, c6, c7, c8, c9, d0, d1, d2, d3, d4, d5].drop 13).take (Tryz.prog.cellsOf 3)) = xs[8]? := hg 8 _ rfl
  have g9 : DataW.trod enc Tryz.prog W 0 (fun _ => true) held m 62 (([c0, c1, c2, c3, c4, c5, c6, c7, c8, c9, d0, d1, d2, d3, d4, d5].drop 14).take (Tryz.prog.cellsOf 62)) = xs[9]? := hg 9 _ rfl
  have g10 : DataW.trod enc Tryz.prog W 0 (fun _ => true) held m 62 (([c0, c1, c2, c3, c4, c5, c6, c7, c8, c9, d0, d1, d2, d3, d4, d5].drop 15).take (Tryz.prog.cellsOf 62)) = xs[10]? := hg 10 _ rfl
  rw [n3] at g0 g1 g2 g3 g4
  rw [n2, List.getElem?_eq_getElem (by omega)] at g5
  rw [cellsV, List.getElem?_eq_getElem (by omega)] at g6
  rw [n1] at g7 g8
  rw [cellsSs, List.getElem?_eq_getElem (by omega)] at g9 g10
  obtain ⟨s0, rfl, z0⟩ := str 0 (by omega) c0 g0
  obtain ⟨s1, rfl, z1⟩ := str 1 (by omega) c1 g1
  obtain ⟨s2, rfl, z2⟩ := str 2 (by omega) c2 g2
  obtain ⟨s3, rfl, z3⟩ := str 3 (by omega) c3 g3
  obtain ⟨s4, rfl, z4⟩ := str 4 (by omega) c4 g4
  obtain ⟨b5, e5, _⟩ := DataW.trod_bool Tryz.underlying4 g5
  obtain ⟨i7, rfl⟩ := int 7 (by omega) d2 g7
  obtain ⟨i8, rfl⟩ := int 8 (by omega) d3 g8
  have w6 := weightsEach_at (i := 6) (t := 71) (d := xs[6].1) rfl (by rw [List.getElem?_map, List.getElem?_eq_getElem (by omega)]; rfl) hw
  have w9 := weightsEach_at (i := 9) (t := 62) (d := xs[9].1) rfl (by rw [List.getElem?_map, List.getElem?_eq_getElem (by omega)]; rfl) hw
  have w10 := weightsEach_at (i := 10) (t := 62) (d := xs[10].1) rfl (by rw [List.getElem?_map, List.getElem?_eq_getElem (by omega)]; rfl) hw
  obtain ⟨y6, v, hc, hr⟩ := open_v m g6 w6
  obtain ⟨sp, pl, ep, hrp, hps, hpn⟩ := open_texts g9 w9
  obtain ⟨sa, al, ea, hra, has, han⟩ := open_texts g10 w10
  obtain ⟨k6, y6', q6, t6, l6, m6⟩ := y6
  simp at e5 hc ep ea
  obtain ⟨rfl, rfl, rfl, rfl, rfl, rfl⟩ := hc
  subst e5 ep ea
  exact ⟨⟨s0, s1, s2, s3, s4, b5, ⟨k6, y6', q6, t6, l6, m6⟩, i7, i8, sp, sa⟩, v, pl, al, rfl, ⟨⟨z0, z1, z2, z3, z4⟩, hr, hrp, hra, hps, has, hpn, han⟩⟩
/-- Events that came in. -/
structure TsIn (w : World) (s : Sl) (l : List (T16 × V × List ByteArray × List ByteArray)) : Prop where
  r : RowIn 586406201480 w 16 s (l.map fun x => x.1.cells.toList)
  e : ∀ x ∈ l, TIn w x.1 x.2.1 x.2.2.1 x.2.2.2
theorem TsIn.under {B : Nat} {w w' : World} {s : Sl} {l : List (T16 × V × List ByteArray × List ByteArray)} (h : TsIn w s l) (hb : Below B w w') (hB : B = w.heap.size) : TsIn w' s l :=
  ⟨h.r.below hb hB, fun x hx => (h.e x hx).under hb hB⟩
theorem open_ts {H : Type} {enc : TypeId × Value → H} {W : World} {held : Bool} {fuel : Nat} {cs : List Value} {x : DataW H × List MemPlace} (h : DataW.trod enc Tryz.prog W 0 (fun _ => true) held fuel 23 cs = some x) (hw : (x.1.weights Tryz.prog 23).all (· ≤ reachBytes) = true) :
    ∃ (s : Sl) (l : List (T16 × V × List ByteArray × List ByteArray)), cs = [s.val] ∧ TsIn W s l := by
  obtain ⟨s, l, e, hr, hq, _⟩ := open_slice (K := 586406201480) (fun x : T16 × V × List ByteArray × List ByteArray => x.1.cells.toList) (fun x => TIn W x.1 x.2.1 x.2.2.1 x.2.2.2) Tryz.underlying23 cellsT bytesT (fun n h => by unfold reachBytes at h; omega) (fun y => rfl) (by omega) h hw
    (fun n c y hn ht hwy => by
      obtain ⟨t, v, p, a, hc, hr⟩ := open_t ht hwy
      exact ⟨(t, v, p, a), hc, hr⟩)
  exact ⟨s, l, e, hr, hq⟩
end Go.Proofs.YtgnoaeldmpbjmaaGreatDoor
/- Maps by pairs of texts (auth.Key): as lists of entries with unlike keys, in whatever order. -/
set_option linter.unusedVariables false
namespace Go.Proofs.YtgnoaeldmpbjmaaGreatDoor
open Go.RowKit

def kv2 (k : ByteArray × ByteArray) : Value := .agg #[.string k.1, .string k.2]
def lk2 (k : ByteArray × ByteArray) : Lit := .string (keyBytes [.string k.1.data.toList, .string k.2.data.toList])
def Ks (k : ByteArray × ByteArray) : Prop := k.1.size ≤ 9223372036854775807 ∧ k.2.size ≤ 9223372036854775807
theorem law2 : WideMaps.KeyLaw Tryz.prog 100 := deep_law_laid (by kernel_rfl) (m := 2) (by omega) (of_decide_eq_true (by kernel_rfl)) (by kernel_rfl) (by rw [Tryz.underlying100])
theorem keyed2 : Maps.Keyed Tryz.prog 100 := Maps.Keyed.of_law law2
theorem keyOf2 (k : ByteArray × ByteArray) (h : Ks k) : keyOf Tryz.prog 100 (kv2 k) = some (lk2 k) := by
  obtain ⟨a, b⟩ := k
  obtain ⟨ha, hb⟩ := h
  dsimp only at ha hb
  have hc : Tryz.prog.cellsOf 100 = 2 := by kernel_rfl
  have h1 : Tryz.prog.keyType 100 = true := by kernel_rfl
  have hcs : Tryz.prog.cellsOf 9 = 1 := by kernel_rfl
  have hf : (kv2 (a, b)).formed Tryz.prog 100 = true := by unfold kv2; simp [Value.formed, Tryz.underlying100, hc]
  have hsz : ∃ m, Tryz.prog.types.size + 1 = m + 2 := ⟨Tryz.prog.types.size - 1, by have : 0 < Tryz.prog.types.size := of_decide_eq_true (by kernel_rfl); omega⟩
  obtain ⟨m, hm⟩ := hsz
  have hu := Tryz.underlying100
  unfold keyOf
  rw [hu]
  dsimp only
  rw [h1, hf, hm]
  unfold kv2
  have ha' : a.size ≤ maxLen := ha
  have hb' : b.size ≤ maxLen := hb
  have hs := Tryz.underlying9
  simp [Program.keyLits, hu, hc, hcs, hs, ha', hb', Value.cells, lk2]
theorem lk2_inj {k k' : ByteArray × ByteArray} (h : Ks k) (h' : Ks k') (e : lk2 k = lk2 k') : k = k' := by
  have e1 := keyOf2 k h
  rw [e] at e1
  have := law2.inj e1 (keyOf2 k' h')
  unfold kv2 at this
  obtain ⟨a, b⟩ := k
  obtain ⟨c, d⟩ := k'
  simp at this
  rw [this.1, this.2]
theorem lk2_key (k : ByteArray × ByteArray) : WideAt.IsKeyLit (lk2 k) := by unfold lk2; simp [WideAt.IsKeyLit]
theorem lk2_same {k k' : ByteArray × ByteArray} (h : Ks k) (h' : Ks k') : (lk2 k).sameKey (lk2 k') = true ↔ k = k' := by
  constructor
  · intro e
    exact lk2_inj h h' (WideAt.sameKey_eq e)
  · rintro rfl
    exact WideAt.sameKey_self (lk2_key k)

abbrev E2 := (ByteArray × ByteArray) × Value
def ent (e : E2) : Lit × DataW Value := (lk2 e.1, .held e.2)
/-- Block b is a map of these entries. -/
def MapK (w : World) (b : Nat) (l : List E2) : Prop :=
  ∃ es, w.ownsMap Tryz.prog 100 hR b l.length (.map es) ∧ es.Perm (l.map ent) ∧ l.Pairwise (fun x y => x.1 ≠ y.1) ∧ ∀ e ∈ l, Ks e.1
theorem MapK.made (w : World) : MapK (w.alloc (.map #[] 0)) w.heap.size [] := ⟨[], World.ownsMap_made w _ _ hR, .refl _, .nil, by simp⟩
theorem MapK.lt {w : World} {b : Nat} {l : List E2} (h : MapK w b l) : b < w.heap.size := by obtain ⟨es, h, _⟩ := h; exact World.ownsMap.lt h
theorem MapK.same {w w' : World} {b : Nat} {l : List E2} (h : MapK w b l) (hb : w'.heap[b]? = w.heap[b]?) : MapK w' b l := by
  obtain ⟨es, ⟨es', clock, h1, F, hs, hD⟩, h2⟩ := h
  exact ⟨es, ⟨es', clock, hb.trans h1, F, hs, hD⟩, h2⟩
theorem MapK.below {B : Nat} {w w' : World} {b : Nat} {l : List E2} (h : MapK w b l) (hb : Below B w w') (hlt : b < B) : MapK w' b l := h.same (hb.block b hlt)

theorem pair_one {l : List E2} (hd : l.Pairwise (fun x y => x.1 ≠ y.1)) {x y : E2} (hx : x ∈ l) (hy : y ∈ l) (h : x.1 = y.1) : x = y := by
  induction l with
  | nil => cases hx
  | cons a l ih =>
    obtain ⟨h1, h2⟩ := List.pairwise_cons.1 hd
    rcases List.mem_cons.1 hx with e1 | e1 <;> rcases List.mem_cons.1 hy with e2 | e2
    · rw [e1, e2]
    · subst e1; exact absurd h (h1 y e2)
    · subst e2; exact absurd h.symm (h1 x e1)
    · exact ih h2 e1 e2
theorem find_one {α : Type} {p : α → Bool} {l : List α} {x : α} (hx : x ∈ l) (hp : p x = true) (ho : ∀ y ∈ l, p y = true → y = x) : l.find? p = some x := by
  induction l with
  | nil => cases hx
  | cons a l ih =>
    rw [List.find?_cons]
    cases hpa : p a with
    | true => rw [ho a (by simp) hpa]
    | false =>
      rcases List.mem_cons.1 hx with rfl | hx
      · rw [hp] at hpa; cases hpa
      · exact ih hx (fun y hy => ho y (by simp [hy]))
theorem hitK {l : List E2} {es : List (Lit × DataW Value)} (hp : es.Perm (l.map ent)) (hd : l.Pairwise (fun x y => x.1 ≠ y.1)) (hs : ∀ e ∈ l, Ks e.1) {e : E2} (he : e ∈ l) (z : DataW Value) : (DataW.map es).atKey (lk2 e.1) z = .held e.2 ∧ Maps.has (.map es) (lk2 e.1) = true := by
  have hf : es.find? (fun p => p.1.sameKey (lk2 e.1)) = some (ent e) := by
    refine find_one (hp.mem_iff.2 (List.mem_map.2 ⟨e, he, rfl⟩)) (WideAt.sameKey_self (lk2_key e.1)) ?_
    intro y hy hk
    obtain ⟨x, hx, rfl⟩ := List.mem_map.1 (hp.mem_iff.1 hy)
    rw [pair_one hd hx he ((lk2_same (hs x hx) (hs e he)).1 hk)]
  constructor
  · unfold DataW.atKey
    dsimp only
    rw [hf]
    rfl
  · rw [Maps.has_eq, List.any_eq_true]
    exact ⟨ent e, List.mem_of_find?_eq_some hf, WideAt.sameKey_self (lk2_key e.1)⟩
theorem missK {l : List E2} {es : List (Lit × DataW Value)} (hp : es.Perm (l.map ent)) (hs : ∀ e ∈ l, Ks e.1) {k : ByteArray × ByteArray} (hk : Ks k) (hn : ∀ e ∈ l, e.1 ≠ k) (z : DataW Value) : (DataW.map es).atKey (lk2 k) z = z ∧ Maps.has (.map es) (lk2 k) = false := by
  have hno : ∀ y ∈ es, ¬ y.1.sameKey (lk2 k) = true := by
    intro y hy e
    obtain ⟨x, hx, rfl⟩ := List.mem_map.1 (hp.mem_iff.1 hy)
    exact hn x hx ((lk2_same (hs x hx) hk).1 e)
  constructor
  · unfold DataW.atKey
    dsimp only
    rw [List.find?_eq_none.2 hno]
  · rw [Maps.has_eq, List.any_eq_false]
    exact hno
section
variable {P : Program} (w : World) {ops : Array Oper} {rest : List Oper} {o : Oper} {a : Act} {Q : Exit → Act → World → Prop}
/-- v, ok := m[k]. -/
theorem lookupK_ok (hg : o.guard = none) (m x : Operand) (t : TypeId) (hop : o.op = Op.lookup t m x true) (e : TypeId) (ht : Tryz.prog.underlying t = some (.map 100 e)) (z : Value) (hz : (zeroValue e).run Tryz.prog w = .ok z w)
    (b : Nat) (l : List E2) (hm : a.eval m = .map (some b)) (hown : MapK w b l) (k : ByteArray × ByteArray) (hx : a.eval x = kv2 k) (hk : Ks k)
    (hhit : ∀ v, (k, v) ∈ l → wpList Tryz.prog ops Q rest (a.put o.dst (.tuple #[v, .bool true])) w) (hmiss : (∀ e ∈ l, e.1 ≠ k) → wpList Tryz.prog ops Q rest (a.put o.dst (.tuple #[z, .bool false])) w) : wpList Tryz.prog ops Q (o :: rest) a w := by
  obtain ⟨es, h1, h2, h3, h4⟩ := hown
  refine wpList_lookup_own_ok w hg m x t hop _ e keyed2 ht hR hz (.held z) [] rfl b l.length (.map es) hm h1 (kv2 k) (lk2 k) hx (keyOf2 k hk) ?_
  intro v ps hv
  unfold hR at hv
  injection hv with hv
  injection hv with hv _
  by_cases hh : ∃ e ∈ l, e.1 = k
  · obtain ⟨⟨k', u⟩, he, rfl⟩ := hh
    obtain ⟨q1, q2⟩ := hitK h2 h3 h4 he (.held z)
    rw [q1] at hv
    injection hv with hv
    rw [hv, q2]
    exact hhit u he
  · have hn : ∀ e ∈ l, e.1 ≠ k := fun e he h => hh ⟨e, he, h⟩
    obtain ⟨q1, q2⟩ := missK h2 h4 hk hn (.held z)
    rw [q1] at hv
    injection hv with hv
    rw [hv, q2]
    exact hmiss hn
/-- m[k]. -/
theorem lookupK (hg : o.guard = none) (m x : Operand) (t : TypeId) (hop : o.op = Op.lookup t m x false) (e : TypeId) (ht : Tryz.prog.underlying t = some (.map 100 e)) (z : Value) (hz : (zeroValue e).run Tryz.prog w = .ok z w)
    (b : Nat) (l : List E2) (hm : a.eval m = .map (some b)) (hown : MapK w b l) (k : ByteArray × ByteArray) (hx : a.eval x = kv2 k) (hk : Ks k)
    (hhit : ∀ v, (k, v) ∈ l → wpList Tryz.prog ops Q rest (a.put o.dst v) w) (hmiss : (∀ e ∈ l, e.1 ≠ k) → wpList Tryz.prog ops Q rest (a.put o.dst z) w) : wpList Tryz.prog ops Q (o :: rest) a w := by
  obtain ⟨es, h1, h2, h3, h4⟩ := hown
  refine wpList_plain hg fun K' hK' => ?_
  obtain ⟨v, ps, hrun, hv⟩ := World.ownsMap.lookup (H := Value) h1 keyed2 ht hz (zd := .held z) (zp := []) rfl (key := kv2 k) (kl := lk2 k) (keyOf2 k hk)
  unfold hR at hv
  injection hv with hv
  injection hv with hv _
  have hgo : wpList Tryz.prog ops Q rest (a.put o.dst v) w := by
    by_cases hh : ∃ e ∈ l, e.1 = k
    · obtain ⟨⟨k', u⟩, he, rfl⟩ := hh
      obtain ⟨q1, q2⟩ := hitK h2 h3 h4 he (.held z)
      rw [q1] at hv
      injection hv with hv
      rw [hv]
      exact hhit u he
    · have hn : ∀ e ∈ l, e.1 ≠ k := fun e he h => hh ⟨e, he, h⟩
      obtain ⟨q1, q2⟩ := missK h2 h4 hk hn (.held z)
      rw [q1] at hv
      injection hv with hv
      rw [hv]
      exact hmiss hn
  unfold Oper.wp
  simp [execOp, hop, hm, hx, hrun, Result.andThen]
  exact hK' _ _ hgo
/-- m[k] = v, where k is new. -/
theorem updateK (hg : o.guard = none) (m x y : Operand) (t : TypeId) (hop : o.op = Op.mapUpdate t m x y) (e : TypeId) (ht : Tryz.prog.underlying t = some (.map 100 e))
    (b : Nat) (l : List E2) (hm : a.eval m = .map (some b)) (hown : MapK w b l) (hn : l.length < maxLen) (k : ByteArray × ByteArray) (hx : a.eval x = kv2 k) (hk : Ks k) (hnew : ∀ e ∈ l, e.1 ≠ k) (v : Value) (hy : a.eval y = v)
    (hK : ∀ w', MapK w' b ((k, v) :: l) → w.mapTurned w' b → wpList Tryz.prog ops Q rest (a.put o.dst undef) w') : wpList Tryz.prog ops Q (o :: rest) a w := by
  obtain ⟨es, h1, h2, h3, h4⟩ := hown
  refine wpList_mapUpdate_in w hg m x y t hop _ e keyed2 ht hR b l.length (.map es) hm h1 hn (kv2 k) v (lk2 k) hx hy (keyOf2 k hk) (.held v) [] rfl ?_
  intro w' g1 g2
  refine hK w' ⟨DataW.insert (lk2 k, .held v) (es.filter fun p => !p.1.sameKey (lk2 k)), g1, ?_, List.pairwise_cons.2 ⟨fun e he => (hnew e he).symm, h3⟩, ?_⟩ g2
  · refine (WideShapes.insert_perm _ _).trans ?_
    have : (es.filter fun p => !p.1.sameKey (lk2 k)) = es := by
      rw [List.filter_eq_self]
      intro y hy
      obtain ⟨x, hx, rfl⟩ := List.mem_map.1 (h2.mem_iff.1 hy)
      have := mt (lk2_same (h4 x hx) hk).1 (hnew x hx)
      simpa [ent] using this
    rw [this]
    exact h2.cons _
  · intro e he
    rcases List.mem_cons.1 he with rfl | he
    · exact hk
    · exact h4 e he
end
end Go.Proofs.YtgnoaeldmpbjmaaGreatDoor
/- The document's pairs: an event's; which is ahead. -/
set_option linter.unusedVariables false
set_option linter.unusedSimpArgs false
namespace Go.Proofs.YtgnoaeldmpbjmaaGreatDoor
open Go.RowKit

abbrev K2 := ByteArray × ByteArray
def less2 (a b : K2) : Bool := Op.bytesLess a.1.toList b.1.toList || (a.1.toList == b.1.toList && Op.bytesLess a.2.toList b.2.toList)
def same2 (a b : K2) : Bool := a.1.toList == b.1.toList && a.2.toList == b.2.toList
theorem same2_iff {a b : K2} : same2 a b = true ↔ a = b := by
  unfold same2
  rw [Bool.and_eq_true, beq_iff_eq, beq_iff_eq]
  constructor
  · rintro ⟨h1, h2⟩
    obtain ⟨a1, a2⟩ := a
    obtain ⟨b1, b2⟩ := b
    exact Prod.ext (bytes_inj h1) (bytes_inj h2)
  · rintro rfl
    exact ⟨rfl, rfl⟩
abbrev T16.k (t : T16) : K2 := (t.typ, t.key)
set_option maxRecDepth 100000 in
set_option maxHeartbeats 2000000 in
theorem tof_calls (t : T16) (W : World) : Calls Tryz.prog 60 #[.agg t.cells] W fun e w' => e = .returned (kv2 t.k) ∧ Below W.heap.size W w' := by
  go_enter Tryz.func60, Tryz.ntmps60
  go_wp2_with fail
  refine bodyPost_ret (results_cell_row rfl _ _ (W.heap.size + 1) 135 #[.string t.typ, .string t.key] (0, 0) _ rfl (heap_new_at _ _ _ (by simp)) Tryz.underlying135 rfl (by kernel_rfl)) rfl ?_
  exact ⟨rfl, ((Below.refl _ _).alloc (Nat.le_refl _) _).alloc (by simp) _⟩
set_option maxRecDepth 100000 in
set_option maxHeartbeats 2000000 in
theorem less_calls (a b : K2) (W : World) : Calls Tryz.prog 59 #[kv2 a, kv2 b] W fun e w' => e = .returned (.bool (less2 a b)) ∧ Below W.heap.size W w' := by
  obtain ⟨a1, a2⟩ := a
  obtain ⟨b1, b2⟩ := b
  show Calls Tryz.prog 59 #[.agg #[.string a1, .string a2], .agg #[.string b1, .string b2]] W fun e w' => e = .returned (.bool (less2 (a1, a2) (b1, b2))) ∧ Below W.heap.size W w'
  have HB := Lib.hid (show Below W.heap.size W ((W.alloc (.cells #[.string a1, .string a2] 135)).alloc (.cells #[.string b1, .string b2] 135)) from ((Below.refl _ _).alloc (Nat.le_refl _) _).alloc (by simp) _)
  have HL := Lib.hid (show less2 (a1, a2) (b1, b2) = (Op.bytesLess a1.toList b1.toList || (a1.toList == b1.toList && Op.bytesLess a2.toList b2.toList)) from rfl)
  cases h1 : Op.bytesLess a1.toList b1.toList with
  | true =>
    go_enter Tryz.func59, Tryz.ntmps59
    go_wp2_with fail
    go_ret
    exact ⟨by rw [HL.out, h1]; rfl, HB.out⟩
  | false =>
    cases h2 : (a1.toList == b1.toList) with
    | true =>
      go_enter Tryz.func59, Tryz.ntmps59
      go_wp2_with fail
      go_ret
      exact ⟨by rw [HL.out, h1, h2]; rfl, HB.out⟩
    | false =>
      go_enter Tryz.func59, Tryz.ntmps59
      go_wp2_with fail
      go_ret
      exact ⟨by rw [HL.out, h1, h2]; rfl, HB.out⟩
end Go.Proofs.YtgnoaeldmpbjmaaGreatDoor
/- The document's With: a state with an event. -/
set_option linter.unusedVariables false
set_option linter.unusedSimpArgs false
namespace Go.Proofs.YtgnoaeldmpbjmaaGreatDoor
open Go.RowKit

theorem RowB.toIn {K : Nat} {w : World} {P : Nat → Prop} {E sz : Nat} {s : Sl} {l : List (List Value)} (h : RowB K w P E sz s l) : RowIn K w sz s l := by
  obtain ⟨h1, h2, h3⟩ := h
  rcases h3 with ⟨rfl, rfl⟩ | ⟨r, ha, hc, hP, hr, hrw⟩
  · exact ⟨h1, h2, by simp, fun h => absurd h (by simp)⟩
  · refine ⟨h1, h2, fun x hx => ?_, fun _ => ⟨⟨r, 0, none⟩, ha, hr, fun i d x u hi hd => ?_⟩⟩
    · obtain ⟨i, hi⟩ := List.mem_iff_getElem?.1 hx
      obtain ⟨_, _, _, _, h4⟩ := hrw
      exact (h4 i x hi).1
    · have := hrw.cell hi hd
      rw [← at2_add]
      have e : ((Addr.mk r 0 none).add (i * sz)).add d = ⟨r, i * sz + d, none⟩ := by
        rw [add_of_add]
        unfold Addr.add
        split
        · next h => rw [h]
        · simp
      rw [e]
      exact this
theorem ownsRow_below {w w' : World} {base : Nat} {e : TypeId} {size : Nat} {v : Value} {n : Nat} {xs : List Value} (h : w.ownsRow base e size v n xs) (hb : Below w.heap.size w w') : w'.ownsRow base e size v n xs :=
  h.kept (grown_of_below hb none) (by by_cases h : v.ownBlock = none; exact .inl h; exact .inr h)
abbrev Tx := T16 × V × List ByteArray × List ByteArray
abbrev Tx.c (x : Tx) : List Value := x.1.cells.toList
def wput (t x : Tx) (st : List Tx × Bool) : List Tx × Bool := if !st.2 && !less2 x.1.k t.1.k then (st.1 ++ [t], true) else st
def wstep (t : Tx) (st : List Tx × Bool) (x : Tx) : List Tx × Bool :=
  if same2 x.1.k t.1.k then wput t x st else ((wput t x st).1 ++ [x], (wput t x st).2)
def wst (t : Tx) (l : List Tx) : List Tx × Bool := l.foldl (wstep t) ([], false)
/-- A state with an event. -/
def withT (l : List Tx) (t : Tx) : List Tx := if t.1.state then (if (wst t l).2 then (wst t l).1 else (wst t l).1 ++ [t]) else l
theorem tof_calls' (t : T16) (W : World) : Calls Tryz.prog 60 #[.agg t.cells] W fun e w' => e = .returned (.agg #[.string t.typ, .string t.key]) ∧ Below W.heap.size W w' := tof_calls t W
theorem neq_if (a b c d : ByteArray) (w : World) : (if a.toList = b.toList then if c.toList = d.toList then Result.ok (Next.value (Value.bool false)) w else Result.ok (Next.value (Value.bool true)) w else Result.ok (Next.value (Value.bool true)) w) = Result.ok (Next.value (Value.bool (!same2 (a, c) (b, d)))) w := by
  unfold same2
  by_cases h1 : a.toList = b.toList <;> by_cases h2 : c.toList = d.toList <;> simp [h1, h2]
theorem wput_len (t x : Tx) (st : List Tx × Bool) {n : Nat} (h : st.1.length + (if st.2 then 0 else 1) ≤ n) : (wput t x st).1.length + (if (wput t x st).2 then 0 else 1) ≤ n := by
  unfold wput
  cases h2 : (!st.2 && !less2 x.1.k t.1.k) with
  | true => rw [Bool.and_eq_true] at h2; simp at h2; simp [h2.1] at h; simpa using h
  | false => exact h
theorem wst_len (t : Tx) (l : List Tx) : (wst t l).1.length + (if (wst t l).2 then 0 else 1) ≤ l.length + 1 := by
  unfold wst
  rw [← List.reverse_reverse l]
  generalize l.reverse = l
  rw [List.foldl_reverse]
  induction l with
  | nil => simp
  | cons x l ih =>
    rw [List.foldr_cons]
    generalize List.foldr (fun x y => wstep t y x) ([], false) l = st at ih
    have h := wput_len t x st ih
    unfold wstep
    split
    · simp at h ⊢; omega
    · simp at h ⊢; omega
theorem withT_len (l : List Tx) (t : Tx) : (withT l t).length ≤ l.length + 1 := by
  have h := wst_len t l
  unfold withT
  split
  · split
    · next h2 => simp [h2] at h; omega
    · next h2 => simp [h2] at h; simp; omega
  · omega
theorem wput_mem {t x z : Tx} {st : List Tx × Bool} (h : z ∈ (wput t x st).1) : z ∈ st.1 ∨ z = t := by
  unfold wput at h
  split at h
  · simpa using h
  · exact .inl h
theorem wst_mem (t z : Tx) (l : List Tx) (h : z ∈ (wst t l).1) : z ∈ l ∨ z = t := by
  unfold wst at h
  rw [← List.reverse_reverse l] at h ⊢
  generalize l.reverse = l at h
  rw [List.foldl_reverse] at h
  simp only [List.mem_reverse]
  induction l with
  | nil => simp at h
  | cons x l ih =>
    rw [List.foldr_cons] at h
    generalize List.foldr (fun x y => wstep t y x) ([], false) l = st at ih h
    unfold wstep at h
    split at h
    · rcases wput_mem h with h | h
      · rcases ih h with h | h
        · exact .inl (by simp [h])
        · exact .inr h
      · exact .inr h
    · simp only [List.mem_append, List.mem_singleton] at h
      rcases h with h | rfl
      · rcases wput_mem h with h | h
        · rcases ih h with h | h
          · exact .inl (by simp [h])
          · exact .inr h
        · exact .inr h
      · exact .inl (by simp)
theorem withT_mem {t z : Tx} {l : List Tx} (h : z ∈ withT l t) : z ∈ l ∨ z = t := by
  unfold withT at h
  split at h
  · split at h
    · exact wst_mem t z l h
    · simp only [List.mem_append, List.mem_singleton] at h
      rcases h with h | h
      · exact wst_mem t z l h
      · exact .inr h
  · exact .inl h
abbrev NoTwo (l : List Tx) : Prop := l.Pairwise fun x y => x.1.k ≠ y.1.k
/-- What a round keeps: unlike pairs; the event is there just if it is done; of the others none has its pair. -/
def WI (t : Tx) (st : List Tx × Bool) : Prop := NoTwo st.1 ∧ ∀ z ∈ st.1, z.1.k = t.1.k → st.2 = true
theorem wst_two (t : Tx) (l : List Tx) (hl : NoTwo l) : NoTwo (wst t l).1 ∧ ((wst t l).2 = false → ∀ z ∈ (wst t l).1, z.1.k ≠ t.1.k) := by
  have key : ∀ l : List Tx, NoTwo l.reverse → (NoTwo (l.foldr (fun x y => wstep t y x) ([], false)).1 ∧ ((l.foldr (fun x y => wstep t y x) ([], false)).2 = false → ∀ z ∈ (l.foldr (fun x y => wstep t y x) ([], false)).1, z.1.k ≠ t.1.k)) ∧ ∀ z ∈ (l.foldr (fun x y => wstep t y x) ([], false)).1, z ∈ l ∨ z = t := by
    intro l
    induction l with
    | nil => intro _; exact ⟨⟨by simp, by simp⟩, by simp⟩
    | cons x l ih =>
      intro hl
      rw [List.reverse_cons] at hl
      obtain ⟨hl1, _, hl3⟩ := List.pairwise_append.1 hl
      obtain ⟨⟨h1, h2⟩, h3⟩ := ih hl1
      rw [List.foldr_cons]
      generalize List.foldr (fun x y => wstep t y x) ([], false) l = st at h1 h2 h3
      have hp : NoTwo (wput t x st).1 ∧ ((wput t x st).2 = false → ∀ z ∈ (wput t x st).1, z.1.k ≠ t.1.k) := by
        unfold wput
        cases hc : (!st.2 && !less2 x.1.k t.1.k) with
        | true =>
          rw [Bool.and_eq_true] at hc
          have hd : st.2 = false := by simpa using hc.1
          refine ⟨List.pairwise_append.2 ⟨h1, by simp, fun a ha b hb => ?_⟩, by simp⟩
          simp at hb
          subst hb
          exact h2 hd a ha
        | false => exact ⟨h1, h2⟩
      unfold wstep
      cases hs : same2 x.1.k t.1.k with
      | true =>
        refine ⟨hp, fun z hz => ?_⟩
        rcases wput_mem hz with h | h
        · rcases h3 z h with h | h
          · exact .inl (by simp [h])
          · exact .inr h
        · exact .inr h
      | false =>
        have hne : x.1.k ≠ t.1.k := fun e => by rw [same2_iff.2 e] at hs; cases hs
        refine ⟨⟨List.pairwise_append.2 ⟨hp.1, by simp, fun a ha b hb => ?_⟩, fun hd z hz => ?_⟩, fun z hz => ?_⟩
        · simp at hb
          subst hb
          rcases wput_mem ha with h | h
          · rcases h3 a h with h | h
            · exact hl3 a (by simpa using h) b (by simp)
            · rw [h]; exact fun e => hne e.symm
          · rw [h]; exact fun e => hne e.symm
        · simp only [Bool.false_eq_true, if_false, List.mem_append, List.mem_singleton] at hz
          rcases hz with hz | rfl
          · exact hp.2 hd z hz
          · exact hne
        · simp only [Bool.false_eq_true, if_false, List.mem_append, List.mem_singleton] at hz
          rcases hz with hz | rfl
          · rcases wput_mem hz with h | h
            · rcases h3 z h with h | h
              · exact .inl (by simp [h])
              · exact .inr h
            · exact .inr h
          · exact .inl (by simp)
  have := (key l.reverse (by rw [List.reverse_reverse]; exact hl)).1
  rw [List.foldr_reverse] at this
  exact this
theorem withT_two {t : Tx} {l : List Tx} (hl : NoTwo l) : NoTwo (withT l t) := by
  obtain ⟨h1, h2⟩ := wst_two t l hl
  unfold withT
  split
  · split
    · exact h1
    · next hd =>
      refine List.pairwise_append.2 ⟨h1, by simp, fun a ha b hb => ?_⟩
      simp at hb
      subst hb
      exact h2 (by simpa using hd) a ha
  · exact hl
theorem tcells_one (t : T16) : ∀ u ∈ t.cells.toList, u.oneCell' = true := by
  intro u hu
  simp at hu
  rcases hu with rfl | rfl | rfl | rfl | rfl | rfl | rfl | rfl | rfl | rfl | rfl | rfl | rfl | rfl | rfl | rfl <;> rfl
theorem sizeT (t : T16) : (Tryz.prog.info? 73).map (·.size) = some t.cells.size := show _ = some 16 from by kernel_rfl
theorem infoT : (Tryz.prog.info? 73).map (fun i => (i.zero, i.size, i.bytes)) = some (some (.agg #[.string ⟨#[]⟩, .string ⟨#[]⟩, .string ⟨#[]⟩, .string ⟨#[]⟩, .string ⟨#[]⟩, .bool false, .int .i64 0, .bool false, .int .i64 0, .string ⟨#[]⟩, .slice none 0 0, .slice none 0 0, .int .i64 0, .int .i64 0, .slice none 0 0, .slice none 0 0]), 16, 240) := by kernel_rfl
abbrev tcs (l : List Tx) : List (List Value) := l.map Tx.c
theorem tcs_flat (l : List Tx) (x : Tx) : (tcs l).flatten ++ x.c = (tcs (l ++ [x])).flatten := by simp [tcs]
theorem flat_len (l : List Tx) : (tcs l).flatten.length = l.length * 16 := by
  rw [flatten_length (sz := 16)]
  · simp
  · intro c hc
    obtain ⟨x, _, rfl⟩ := List.mem_map.1 hc
    rfl
end Go.Proofs.YtgnoaeldmpbjmaaGreatDoor
/- A value of the document made the program's: what the loops keep. -/
set_option linter.unusedVariables false
namespace Go.Proofs.YtgnoaeldmpbjmaaGreatDoor
open Go.RowKit

theorem src_one1 {W : World} {b sz E : Nat} {cs : Array Value} (h : W.heap[b]? = some (.cells cs E (0, 0))) (hs : cs.size = sz) (h1 : ∀ u ∈ cs.toList, u.oneCell' = true) : Src W sz (some ⟨b, 0, none⟩) 1 1 [cs.toList] := by
  refine ⟨rfl, by simp [hs], by simpa using h1, .inr ⟨_, rfl, fun j u hj => ?_⟩⟩
  have e : (⟨b, 0, none⟩ : Addr).add j = ⟨b, j, none⟩ := by unfold Addr.add; split <;> simp_all
  rw [e]
  simp only [World.cell?, h]
  simpa using hj
theorem v6_one (x : V6) : ∀ u ∈ x.cells.toList, u.oneCell' = true := by
  intro u hu
  simp at hu
  rcases hu with rfl | rfl | rfl | rfl | rfl | rfl <;> rfl
theorem mb_one (x : Mb) : ∀ u ∈ x.cells.toList, u.oneCell' = true := by
  intro u hu
  simp at hu
  rcases hu with rfl | rfl | rfl | rfl | rfl | rfl | rfl <;> rfl
theorem infoPV : (Tryz.prog.info? 92).map (fun i => (i.zero, i.size, i.bytes)) = some (some (.agg #[.int .i64 0, .bool false, .int .i64 0, .string ⟨#[]⟩, .slice none 0 0, .slice none 0 0]), 6, 88) := by kernel_rfl
theorem infoPM : (Tryz.prog.info? 141).map (fun i => (i.zero, i.size, i.bytes)) = some (some (.agg #[.string ⟨#[]⟩, .int .i64 0, .bool false, .int .i64 0, .string ⟨#[]⟩, .slice none 0 0, .slice none 0 0]), 7, 104) := by kernel_rfl
theorem vflat_len (l : List V6) : (vcells l).flatten.length = l.length * 6 := by
  rw [flatten_length (sz := 6) _ (vcells_len l)]
  simp
theorem mflat_len (l : List Mb) : (mcells l).flatten.length = l.length * 7 := by
  rw [flatten_length (sz := 7) _ (mcells_len l)]
  simp
/-- The three blocks: what came, the result's, the value that is made. -/
structure R3 (W : World) (x : V6) (lv mv : Value) (wr : World) : Prop where
  box : wr.heap[W.heap.size]? = some (.cells x.cells 71 (0, 0))
  res : wr.heap[W.heap.size + 1]? = some (.cells #[.int .i64 0, .bool false, .int .i64 0, .string ⟨#[]⟩, .slice none 0 0, .slice none 0 0] 92 (0, 0))
  out : wr.heap[W.heap.size + 2]? = some (.cells #[.int .i64 x.kind, .bool x.yes, .int .i64 x.int, .string x.text, lv, mv] 92 (0, 0))
  below : Below W.heap.size W wr
theorem R3.lt {W : World} {x : V6} {lv mv : Value} {wr : World} (h : R3 W x lv mv wr) : W.heap.size + 3 ≤ wr.heap.size := by
  have := (Array.getElem?_eq_some_iff.1 h.out).1
  omega
/-- Other blocks are written, or new. -/
theorem R3.kept {W : World} {x : V6} {lv mv : Value} {wr w' : World} {row : Option Nat} (h : R3 W x lv mv wr) (hg : wr.grownBy w' row) (hr : ∀ g, row = some g → W.heap.size + 3 ≤ g) : R3 W x lv mv w' := by
  have hl := h.lt
  have hb : ∀ g, g < W.heap.size + 3 → w'.heap[g]? = wr.heap[g]? := fun g hg' => hg.block g (by omega) (fun e => by have := hr g e.symm; omega)
  exact ⟨(hb _ (by omega)).trans h.box, (hb _ (by omega)).trans h.res, (hb _ (by omega)).trans h.out, h.below.trans ⟨hg.os, hg.tape, hg.output, hg.size, fun g hg' => hb g (by omega)⟩⟩
theorem R3.belowed {W : World} {x : V6} {lv mv : Value} {wr w' : World} (h : R3 W x lv mv wr) (hb : Below wr.heap.size wr w') : R3 W x lv mv w' := h.kept (grown_of_below hb none) (fun g e => by cases e)
theorem R3.putL {W : World} {x : V6} {lv mv lv' : Value} {wr : World} (h : R3 W x lv mv wr) : R3 W x lv' mv (wr.setCell ⟨W.heap.size + 2, 4, none⟩ lv') := by
  refine ⟨?_, ?_, ?_, h.below.trans (Fr.to_below (S := fun i => i = W.heap.size + 2) (Fr.setCell _ _ _ rfl) h.below.size (fun k hk e => by omega))⟩
  · rw [Below.heap_setCell _ _ _ _ (by show W.heap.size ≠ W.heap.size + 2; omega)]; exact h.box
  · rw [Below.heap_setCell _ _ _ _ (by show W.heap.size + 1 ≠ W.heap.size + 2; omega)]; exact h.res
  · rw [setCell_heap_at h.out]; rfl
theorem R3.putM {W : World} {x : V6} {lv mv mv' : Value} {wr : World} (h : R3 W x lv mv wr) : R3 W x lv mv' (wr.setCell ⟨W.heap.size + 2, 5, none⟩ mv') := by
  refine ⟨?_, ?_, ?_, h.below.trans (Fr.to_below (S := fun i => i = W.heap.size + 2) (Fr.setCell _ _ _ rfl) h.below.size (fun k hk e => by omega))⟩
  · rw [Below.heap_setCell _ _ _ _ (by show W.heap.size ≠ W.heap.size + 2; omega)]; exact h.box
  · rw [Below.heap_setCell _ _ _ _ (by show W.heap.size + 1 ≠ W.heap.size + 2; omega)]; exact h.res
  · rw [setCell_heap_at h.out]; rfl
theorem R3.stored {W : World} {x : V6} {lv mv : Value} {wr : World} (h : R3 W x lv mv wr) (cs : List Value) : Below W.heap.size W (wr.setCells (W.heap.size + 1) 0 cs) :=
  h.below.trans ((Fr.of_grown (S := fun i => i = W.heap.size + 1) (setCells_grown (W.heap.size + 1) cs 0 wr) (fun r e => (Option.some.inj e).symm)).to_below h.below.size (fun k hk e => by omega))
theorem own_lt {w : World} {base : Nat} {e : TypeId} {size : Nat} {v : Value} {n : Nat} {xs : List Value} (h : w.ownsRow base e size v n xs) {g : Nat} (hg : v.ownBlock = some g) : base ≤ g ∧ g < w.heap.size := h.lt g hg
/-- The first loop. -/
structure R1 (W : World) (x : V6) (L : List V) (k : Nat) (lv : Value) (ys : List V6) (wr : World) : Prop where
  three : R3 W x lv (.slice none 0 0) wr
  own : wr.ownsRow (W.heap.size + 3) 92 6 lv k (vcells ys).flatten
  len : ys.length = k
  el : ∀ (i : Nat) (y : V6) (v : V), ys[i]? = some y → L[i]? = some v → RepV wr (fun g => W.heap.size + 3 ≤ g ∧ lv.ownBlock ≠ some g) y v
/-- An append in place, or into a new row, then the store into the value: of what was there just the row, and the value, are written. -/
structure Put (W wv w3 w4 : World) (lv lv' : Value) : Prop where
  hb : Below wv.heap.size wv w3
  hg : w3.grownBy w4 lv.ownBlock
  hat : lv'.ownBlock = lv.ownBlock ∨ lv'.ownBlock = some w3.heap.size
theorem Put.size {W wv w3 w4 : World} {lv lv' : Value} (h : Put W wv w3 w4 lv lv') (d : Nat) (u : Value) : wv.heap.size ≤ (w4.setCell ⟨W.heap.size + 2, d, none⟩ u).heap.size := by
  have h2 := h.hb.size
  have h3 := h.hg.size
  have : (w4.setCell ⟨W.heap.size + 2, d, none⟩ u).heap.size = w4.heap.size := by simp [World.setCell]
  omega
theorem Put.at {W wv w3 w4 : World} {lv lv' : Value} (h : Put W wv w3 w4 lv lv') (d : Nat) (u : Value) {g : Nat} (hg : g < wv.heap.size) (hne : g ≠ W.heap.size + 2) (ho : lv.ownBlock ≠ some g) : (w4.setCell ⟨W.heap.size + 2, d, none⟩ u).heap[g]? = wv.heap[g]? := by
  have h2 := h.hb.size
  rw [Below.heap_setCell _ _ _ _ (by show g ≠ W.heap.size + 2; exact hne)]
  exact (h.hg.block g (by omega) (fun e => ho e.symm)).trans (h.hb.block g hg)
theorem Put.old {W wr wv w3 w4 : World} {lv lv' : Value} (h : Put W wv w3 w4 lv lv') (hb : Below wr.heap.size wr wv) {y : V6} {v : V} {Q : Nat → Prop} (hQ : ∀ g, Q g → W.heap.size + 3 ≤ g) (hr : RepV wr (fun g => Q g ∧ lv.ownBlock ≠ some g) y v) (d : Nat) (u : Value) :
    RepV (w4.setCell ⟨W.heap.size + 2, d, none⟩ u) (fun g => Q g ∧ lv'.ownBlock ≠ some g) y v := by
  have h1 := hb.size
  have h2 := h.hb.size
  have hm : RepV wr (fun g => (Q g ∧ lv'.ownBlock ≠ some g) ∧ lv.ownBlock ≠ some g) y v := hr.mono (fun g hg hp => by
    refine ⟨⟨hp.1, fun e => ?_⟩, hp.2⟩
    rcases h.hat with h' | h'
    · exact hp.2 (h' ▸ e)
    · rw [h'] at e; injection e with e; omega)
  refine (hm.same (Nat.le_trans h1 (h.size d u)) (fun g hg hp => ?_)).mono (fun g _ hp => hp.1)
  exact (h.at d u (by omega) (by have := hQ g hp.1.1; omega) hp.2).trans (hb.block g hg)
theorem Put.new {W wv w3 w4 : World} {lv lv' : Value} (h : Put W wv w3 w4 lv lv') {n : Nat} (ho : ∀ g, lv.ownBlock = some g → g < n) (hn : W.heap.size + 3 ≤ n) {y : V6} {v : V} {Q : Nat → Prop} (hQ : ∀ g, n ≤ g → Q g) (hr : RepV wv (fun g => n ≤ g) y v) (d : Nat) (u : Value) :
    RepV (w4.setCell ⟨W.heap.size + 2, d, none⟩ u) (fun g => Q g ∧ lv'.ownBlock ≠ some g) y v := by
  have h2 := h.hb.size
  have hm : RepV wv (fun g => (Q g ∧ lv'.ownBlock ≠ some g) ∧ n ≤ g) y v := hr.mono (fun g hg hp => by
    refine ⟨⟨hQ g hp, fun e => ?_⟩, hp⟩
    rcases h.hat with h' | h'
    · rw [h'] at e; have := ho g e; omega
    · rw [h'] at e; injection e with e; omega)
  refine (hm.same (h.size d u) (fun g hg hp => ?_)).mono (fun g _ hp => hp.1)
  exact h.at d u hg (by omega) (fun e => by have := ho g e; omega)
theorem Put.row {W wv w3 w4 : World} {lv lv' : Value} {base E sz n : Nat} {xs : List Value} (hown : w4.ownsRow base E sz lv' n xs) (hb : W.heap.size + 3 ≤ base) (d : Nat) (u : Value) : (w4.setCell ⟨W.heap.size + 2, d, none⟩ u).ownsRow base E sz lv' n xs := by
  refine hown.kept (setCells_grown (W.heap.size + 2) [u] d w4) ?_
  by_cases h : lv'.ownBlock = none
  · exact .inl h
  · refine .inr (fun e => ?_)
    have := own_lt hown e
    omega
theorem R1.start {W : World} {x : V6} {wr : World} (L : List V) (h : R3 W x (.slice none 0 0) (.slice none 0 0) wr) : R1 W x L 0 (.slice none 0 0) [] wr :=
  ⟨h, ⟨rfl, .inl ⟨rfl, rfl⟩⟩, rfl, by simp⟩
theorem R1.step {W : World} {x : V6} {L : List V} {k : Nat} {lv lv' : Value} {ys : List V6} {wr wv w3 w4 : World} {y : V6} {v : V} (h : R1 W x L k lv ys wr) (hv : L[k]? = some v) (hb : Below wr.heap.size wr wv) (hr : RepV wv (fun g => wr.heap.size ≤ g) y v) (hp : Put W wv w3 w4 lv lv')
    (hown : w4.ownsRow (W.heap.size + 3) 92 6 lv' (k + 1) ((vcells ys).flatten ++ y.cells.toList)) : R1 W x L (k + 1) lv' (ys ++ [y]) (w4.setCell ⟨W.heap.size + 2, 4, none⟩ lv') := by
  have h3 := h.three.lt
  have hrow : ∀ g, lv.ownBlock = some g → W.heap.size + 3 ≤ g ∧ g < wr.heap.size := fun g hg => own_lt h.own hg
  refine ⟨(((h.three.belowed hb).belowed hp.hb).kept hp.hg (fun g e => (hrow g e).1)).putL, ?_, by simp [h.len], fun i z u hz hu => ?_⟩
  · have e : (vcells (ys ++ [y])).flatten = (vcells ys).flatten ++ y.cells.toList := by simp [vcells]
    rw [e]
    exact Put.row (W := W) (wv := wv) (w3 := w3) (lv := lv) hown (Nat.le_refl _) 4 lv'
  · by_cases hi : i < k
    · rw [List.getElem?_append_left (by rw [h.len]; exact hi)] at hz
      exact hp.old hb (Q := fun g => W.heap.size + 3 ≤ g) (fun g hg => hg) (h.el i z u hz hu) 4 lv'
    · rw [List.getElem?_append_right (by rw [h.len]; omega)] at hz
      have hik : i = k := by
        have := (List.getElem?_eq_some_iff.1 hz).1
        have := h.len
        simp at *
        omega
      subst hik
      rw [h.len] at hz
      simp at hz
      subst hz
      rw [hv] at hu
      injection hu with hu
      subst hu
      exact hp.new (n := wr.heap.size) (fun g hg => (hrow g hg).2) h3 (Q := fun g => W.heap.size + 3 ≤ g) (fun g hg => by omega) hr 4 lv'
/-- The second loop. -/
structure R2 (W : World) (x : V6) (L : List V) (M : List (ByteArray × V)) (ys : List V6) (s : Sl) (B : Nat) (k : Nat) (mv : Value) (zs : List Mb) (wr : World) : Prop where
  three : R3 W x s.val mv wr
  hB : W.heap.size + 3 ≤ B
  rowL : RowB 1599289640401 wr (fun g => W.heap.size + 3 ≤ g ∧ g < B) 92 6 s (vcells ys)
  lenL : ys.length = L.length
  elL : ∀ (i : Nat) (y : V6) (v : V), ys[i]? = some y → L[i]? = some v → RepV wr (fun g => W.heap.size + 3 ≤ g ∧ g < B) y v
  own : wr.ownsRow B 141 7 mv k (mcells zs).flatten
  len : zs.length = k
  key : ∀ (i : Nat) (z : Mb) (kv : ByteArray × V), zs[i]? = some z → M[i]? = some kv → z.key = kv.1
  el : ∀ (i : Nat) (z : Mb) (kv : ByteArray × V), zs[i]? = some z → M[i]? = some kv → RepV wr (fun g => B ≤ g ∧ mv.ownBlock ≠ some g) z.v kv.2
theorem R1.done {W : World} {x : V6} {L : List V} {M : List (ByteArray × V)} {k : Nat} {lv : Value} {ys : List V6} {wr : World} (h : R1 W x L k lv ys wr) (hk : k = L.length) (hK : k ≤ 1599289640401) : ∃ s : Sl, lv = s.val ∧ R2 W x L M ys s wr.heap.size 0 (.slice none 0 0) [] wr := by
  have hown := h.own
  rw [← h.len] at hown
  obtain ⟨s, rfl, hrow⟩ := RowB.of_own (K := 1599289640401) (l := vcells ys) (by have := hown; exact this) (vcells_len ys) (by decide) (by simp; have := h.len; omega)
  exact ⟨s, rfl, h.three, h.three.lt, hrow.mono (fun g hg hp => ⟨hp, hg⟩), by rw [h.len, hk], fun i y v hy hv => (h.el i y v hy hv).mono (fun g hg hp => ⟨hp.1, hg⟩), ⟨rfl, .inl ⟨rfl, rfl⟩⟩, rfl, by simp, by simp⟩
theorem R2.step {W : World} {x : V6} {L : List V} {M : List (ByteArray × V)} {ys : List V6} {s : Sl} {B k : Nat} {mv mv' : Value} {zs : List Mb} {wr wv w3 w4 : World} {z : Mb} {kv : ByteArray × V} (h : R2 W x L M ys s B k mv zs wr) (hv : M[k]? = some kv) (hk : z.key = kv.1) (hb : Below wr.heap.size wr wv) (hs : B ≤ wr.heap.size) (hr : RepV wv (fun g => wr.heap.size ≤ g) z.v kv.2) (hp : Put W wv w3 w4 mv mv')
    (hown : w4.ownsRow B 141 7 mv' (k + 1) ((mcells zs).flatten ++ z.cells.toList)) : R2 W x L M ys s B (k + 1) mv' (zs ++ [z]) (w4.setCell ⟨W.heap.size + 2, 5, none⟩ mv') := by
  have h3 := h.three.lt
  have hB := h.hB
  have hrow : ∀ g, mv.ownBlock = some g → B ≤ g ∧ g < wr.heap.size := fun g hg => own_lt h.own hg
  have hkeep : ∀ g, g < wr.heap.size → (W.heap.size + 3 ≤ g ∧ g < B) → (w4.setCell ⟨W.heap.size + 2, 5, none⟩ mv').heap[g]? = wr.heap[g]? := fun g hg hq =>
    (hp.at 5 mv' (by have := hb.size; omega) (by omega) (fun e => by have := hrow g e; omega)).trans (hb.block g hg)
  have hsz : wr.heap.size ≤ (w4.setCell ⟨W.heap.size + 2, 5, none⟩ mv').heap.size := Nat.le_trans hb.size (hp.size 5 mv')
  refine ⟨(((h.three.belowed hb).belowed hp.hb).kept hp.hg (fun g e => by have := hrow g e; omega)).putM, hB, h.rowL.same hsz hkeep, h.lenL, fun i y v hy hv => (h.elL i y v hy hv).same hsz hkeep, ?_, by simp [h.len], fun i q u hq hu => ?_, fun i q u hq hu => ?_⟩
  · have e : (mcells (zs ++ [z])).flatten = (mcells zs).flatten ++ z.cells.toList := by simp [mcells]
    rw [e]
    exact Put.row (W := W) (wv := wv) (w3 := w3) (lv := mv) hown hB 5 mv'
  all_goals by_cases hi : i < k
  · rw [List.getElem?_append_left (by rw [h.len]; exact hi)] at hq
    exact h.key i q u hq hu
  rotate_left
  · rw [List.getElem?_append_left (by rw [h.len]; exact hi)] at hq
    exact hp.old hb (Q := fun g => B ≤ g) (fun g hg => by omega) (h.el i q u hq hu) 5 mv'
  all_goals
    rw [List.getElem?_append_right (by rw [h.len]; omega)] at hq
    have hik : i = k := by
      have := (List.getElem?_eq_some_iff.1 hq).1
      have := h.len
      simp at *
      omega
    subst hik
    rw [h.len] at hq
    simp at hq
    subst hq
    rw [hv] at hu
    injection hu with hu
    subst hu
  · exact hp.new (n := wr.heap.size) (fun g hg => (hrow g hg).2) h3 (Q := fun g => B ≤ g) (fun g hg => by omega) hr 5 mv'
  · exact hk
theorem R2.done {W : World} {x : V6} {L : List V} {M : List (ByteArray × V)} {ys : List V6} {s : Sl} {B k : Nat} {mv : Value} {zs : List Mb} {wr : World} (h : R2 W x L M ys s B k mv zs wr) (hk : k = M.length) (hK : k ≤ 1353245080339) :
    ∃ t : Sl, mv = t.val ∧ RepV wr (fun g => W.heap.size + 3 ≤ g) ⟨x.kind, x.yes, x.int, x.text, s, t⟩ (.mk x.kind x.yes x.int x.text L M) := by
  have hown := h.own
  have hB := h.hB
  rw [← h.len] at hown
  obtain ⟨t, rfl, hrow⟩ := RowB.of_own (K := 1353245080339) (l := mcells zs) (by have := hown; exact this) (mcells_len zs) (by decide) (by simp; have := h.len; omega)
  exact ⟨t, rfl, .mk ⟨x.kind, x.yes, x.int, x.text, s, t⟩ L M ys zs (h.rowL.mono (fun g _ hp => hp.1)) (hrow.mono (fun g _ hp => by omega)) h.lenL (by rw [h.len, hk])
    (fun i y v hy hv => (h.elL i y v hy hv).mono (fun g _ hp => hp.1)) h.key (fun i z kv hz hkv => (h.el i z kv hz hkv).mono (fun g _ hp => by omega))⟩
end Go.Proofs.YtgnoaeldmpbjmaaGreatDoor
/- A struct's cells loaded at once, wherever they lie. No program is named. -/
set_option linter.unusedVariables false
namespace Go.Proofs.YtgnoaeldmpbjmaaGreatDoor
open Go.RowKit

/-- These cells lie from p on. -/
def Holds (w : World) (p : Addr) (cs : Array Value) : Prop := ∀ j v, cs[j]? = some v → w.cell? (p.add j) = some v
theorem Holds.below {B : Nat} {w w' : World} {p : Addr} {cs : Array Value} (h : Holds w p cs) (hb : Below B w w') (hp : p.block < B) : Holds w' p cs := fun j v hj => (hb.cell (p := p.add j) (by rw [block_add]; exact hp)).trans (h j v hj)
theorem Holds.of_block {w : World} {b E : Nat} {cs : Array Value} {f : Nat × Nat} (h : w.heap[b]? = some (.cells cs E f)) : Holds w ⟨b, 0, none⟩ cs := fun j v hj => by
  have e : (⟨b, 0, none⟩ : Addr).add j = ⟨b, j, none⟩ := by unfold Addr.add; split <;> simp_all
  rw [e]
  simpa [World.cell?, h] using hj
theorem there_of_block {w : World} {b E n : Nat} {cur : Array Value} (h : w.heap[b]? = some (.cells cur E (0, 0))) (hs : cur.size = n) : w.there b 0 n := fun j hj => by
  refine ⟨?_, by simp [World.frozen?, h]⟩
  simp only [World.cell?, h]
  simp
  omega
theorem setCells_whole {w : World} {b E : Nat} {cur cs : Array Value} {f : Nat × Nat} (h : w.heap[b]? = some (.cells cur E f)) (hs : cs.size = cur.size) : (w.setCells b 0 cs.toList).heap[b]? = some (.cells cs E f) := by
  obtain ⟨cur', h1, h2, _, h4⟩ := setCells_get b cs.toList 0 w cur E f h (by simp; omega)
  rw [h1]
  congr 2
  apply Array.ext_getElem?
  intro j
  by_cases hj : j < cs.size
  · have := h4 j (by simpa using hj)
    simpa using this
  · rw [Array.getElem?_eq_none (by omega), Array.getElem?_eq_none (by omega)]
theorem Holds.tail {w : World} {b : Nat} {x : Value} {cs : List Value} (h : Holds w ⟨b, 0, none⟩ (x :: cs).toArray) : Holds w ⟨b, 1, none⟩ cs.toArray := fun j v hj => by
  have := h (j + 1) v (by simpa using hj)
  have e1 : (⟨b, 0, none⟩ : Addr).add (j + 1) = ⟨b, j + 1, none⟩ := by unfold Addr.add; simp
  have e2 : (⟨b, 1, none⟩ : Addr).add j = ⟨b, j + 1, none⟩ := by
    unfold Addr.add
    split
    · next h => subst h; rfl
    · simp; omega
  rw [e1] at this
  rw [e2]
  exact this
theorem Holds.cell {w : World} {b : Nat} {cs : Array Value} (h : Holds w ⟨b, 0, none⟩ cs) {j : Nat} {v : Value} (hj : cs[j]? = some v) : w.cell? ⟨b, j, none⟩ = some v := by
  have := h j v hj
  have e1 : (⟨b, 0, none⟩ : Addr).add j = ⟨b, j, none⟩ := by unfold Addr.add; split <;> simp_all
  rw [e1] at this
  exact this
section
variable {P : Program}
theorem run_loadVar_at (w : World) (p : Addr) (ty : TypeId) (cs : Array Value) (d : TypeDesc) (hc : Holds w p cs) (hu : P.underlying ty = some d) (hd : d.isRow = true) (hi : (P.info? ty).map (·.size) = some cs.size) :
    (loadVar ty p).run P w = .ok (.agg cs) w := by
  have hl : (loadCells p cs.size).run P w = .ok cs w := by
    have := run_loadCells_list (P := P) w p cs.toList (fun j v hv => hc j v (by simpa using hv))
    simpa using this
  cases hq : P.info? ty with
  | none => simp [hq] at hi
  | some i =>
    have hs : i.size = cs.size := by simpa [hq] using hi
    have hagg : (isAgg ty).run P w = .ok true w := by
      unfold isAgg
      rw [Sem.run_bind, run_underlying hu w]
      cases d <;> simp_all
    simp [loadVar, Sem.run_bind, hagg, sizeOf, typeInfo, hq, hs, hl]
theorem wp_load_at {op : Oper} {a : Act} {w : World} {K : Act → World → Prop} {Q : Exit → Act → World → Prop} (ty : TypeId) (x : Operand) (ho : op.op = .load ty x)
    (p : Addr) (hx : a.eval x = .pointer (some p)) (cs : Array Value) (d : TypeDesc) (hc : Holds w p cs)
    (hu : P.underlying ty = some d) (hd : d.isRow = true) (hi : (P.info? ty).map (·.size) = some cs.size)
    (h : K (a.put op.dst (.agg cs)) w) : op.wp P a w K Q := by
  unfold Oper.wp execOp
  simp only [ho, hx, Instr.loadAt, Instr.sureAddr, Sem.run_bind, Sem.run_pure, Result.andThen_ok, run_loadVar_at w p ty cs d hc hu hd hi]
  exact h
theorem wpList_load_at {ops : Array Oper} {rest : List Oper} {op : Oper} {a : Act} {w : World} {Q : Exit → Act → World → Prop} (hgd : op.guard = none) (ty : TypeId) (x : Operand) (ho : op.op = .load ty x)
    (p : Addr) (hx : a.eval x = .pointer (some p)) (cs : Array Value) (d : TypeDesc) (hc : Holds w p cs)
    (hu : P.underlying ty = some d) (hd : d.isRow = true) (hi : (P.info? ty).map (·.size) = some cs.size)
    (h : wpList P ops Q rest (a.put op.dst (.agg cs)) w) : wpList P ops Q (op :: rest) a w :=
  wpList_plain hgd fun _ hK => wp_load_at ty x ho p hx cs d hc hu hd hi (hK _ _ h)
theorem yieldsIf_load_at {ops : Array Oper} {S : World → Prop} {op : Oper} {a : Act} (hw : Region.wanted op (yielded ops a.tmps) = true) (ty : TypeId) (x : Operand) (ho : op.op = .load ty x)
    (p : Addr) (hx : a.eval x = .pointer (some p)) (cs : Array Value) (d : TypeDesc) (hS : ∀ w, S w → Holds w p cs)
    (hu : P.underlying ty = some d) (hd : d.isRow = true) (hi : (P.info? ty).map (·.size) = some cs.size) : YieldsIf P ops S op (.agg cs) a :=
  .inl ⟨hw, fun w hw' => by
    unfold execOp
    simp only [ho, hx, Instr.loadAt, Instr.sureAddr, Sem.run_bind, Sem.run_pure, Result.andThen_ok, run_loadVar_at w p ty cs d (hS w hw') hu hd hi]⟩
theorem step_store_at {ops : Array Oper} {o : Oper} {a : Act} {w : World} {K : Act → World → Prop} {Q : Exit → Act → World → Prop} {E : Prop} (hgd : o.guard = none) (ty : TypeId) (x y : Operand) (ho : o.op = .store ty x y)
    (b : Nat) (cells : Array Value) (hx : a.eval x = .pointer (some ⟨b, 0, none⟩)) (hy : a.eval y = .agg cells)
    (ht : w.there b 0 cells.size) (hi : (P.info? ty).map (·.size) = some cells.size) (h1 : cells.all (·.oneCell') = true)
    (h : K (a.put o.dst undef) (w.setCells b 0 cells.toList)) : if Region.wanted o (yielded ops a.tmps) = true then Oper.wp P o a w K Q else E := by
  have hw : Region.wanted o (yielded ops a.tmps) = true := by simp [Region.wanted, hgd]
  rw [if_pos hw]
  exact wp_store_mid ty x y ho b 0 cells hx hy ht hi h1 h
end
end Go.Proofs.YtgnoaeldmpbjmaaGreatDoor
/- enfiladelaw01.Real: a value of the document, anew, as the program's. -/
set_option linter.unusedVariables false
set_option linter.unusedSimpArgs false
namespace Go.Proofs.YtgnoaeldmpbjmaaGreatDoor
open Go.RowKit

theorem sizeV6 (x : V6) : (Tryz.prog.info? 71).map (·.size) = some x.cells.size := show _ = some 6 from by kernel_rfl
theorem sizeV6p (x : V6) : (Tryz.prog.info? 92).map (·.size) = some x.cells.size := show _ = some 6 from by kernel_rfl
theorem sizeMb (x : Mb) : (Tryz.prog.info? 172).map (·.size) = some x.cells.size := show _ = some 7 from by kernel_rfl
theorem v6_all (x : V6) : x.cells.all (·.oneCell') = true := Array.all_eq_true_iff_forall_mem.2 (fun v hv => v6_one x v (by simpa using hv))
theorem wpList_store_v6 {ops : Array Oper} {rest : List Oper} {op : Oper} {a : Act} {w : World} {Q : Exit → Act → World → Prop} (hgd : op.guard = none) (p q : Operand) (ho : op.op = .store 92 p q) (b : Nat) (z : V6)
    (hx : a.eval p = .pointer (some ⟨b, 0, none⟩)) (hy : a.eval q = .agg z.cells) (ht : w.there b 0 6) (h : wpList Tryz.prog ops Q rest (a.put op.dst undef) (w.setCells b 0 z.cells.toList)) : wpList Tryz.prog ops Q (op :: rest) a w :=
  wpList_store_mid hgd 92 p q ho b 0 z.cells hx hy ht (sizeV6p z) (v6_all z) h
set_option maxRecDepth 100000 in
set_option maxHeartbeats 4000000 in
theorem real_ok {w : World} {x : V6} {v : V} (h : RepI w x v) : ∀ Wf, Below w.heap.size w Wf → Calls Tryz.prog 64 #[.agg x.cells] Wf fun e w' => ∃ x' : V6, e = .returned (.agg x'.cells) ∧ RepV w' (fun g => Wf.heap.size ≤ g) x' v ∧ Below Wf.heap.size Wf w' := by
  induction h with
  | mk x L M xs ms ht hL hM lenL lenM elL keyM elM ih1 ih2 =>
    intro Wf hbW
    have hnl : x.list.n = xs.length := by have := hL.1; simpa using this
    have hnm : x.map.n = ms.length := by have := hM.1; simpa using this
    have hkl : xs.length ≤ 1599289640401 := by have := hL.2.1; simpa using this
    have hkm : ms.length ≤ 1353245080339 := by have := hM.2.1; simpa using this
    have HL := Lib.hid hL.2.2.2
    have HM := Lib.hid hM.2.2.2
    have HI1 := Lib.hid ih1
    have HI2 := Lib.hid ih2
    have HLL := Lib.hid lenL
    have HLM := Lib.hid lenM
    have HKM := Lib.hid keyM
    have HBW := Lib.hid hbW
    obtain ⟨i0, hi, hz0, hz1, hz2⟩ := info_parts infoPV
    have HI := Lib.hid hi
    have HZ0 := Lib.hid hz0
    have HZ1 := Lib.hid hz1
    have HZ2 := Lib.hid hz2
    obtain ⟨i1, hj, hy0, hy1, hy2⟩ := info_parts infoPM
    have HJ := Lib.hid hj
    have HY0 := Lib.hid hy0
    have HY1 := Lib.hid hy1
    have HY2 := Lib.hid hy2
    obtain ⟨xl, hxl⟩ : ∃ xl, xl = x.list := ⟨_, rfl⟩
    clear ht hL hM ih1 ih2 lenL lenM elL keyM elM hbW hi hz0 hz1 hz2 hj hy0 hy1 hy2 hxl
    go_enter Tryz.func64, Tryz.ntmps64
    go_wp2_with fail
    have h3 : R3 Wf x (.slice none 0 0) (.slice none 0 0) (((Wf.alloc (.cells x.cells 71)).alloc (.cells #[.int .i64 0, .bool false, .int .i64 0, .string ⟨#[]⟩, .slice none 0 0, .slice none 0 0] 92)).alloc (.cells #[.int .i64 x.kind, .bool x.yes, .int .i64 x.int, .string x.text, .slice none 0 0, .slice none 0 0] 92)) :=
      ⟨(heap_old_at _ _ _ (by simp; omega)).trans ((heap_old_at _ _ _ (by simp)).trans (heap_new_at _ _ _ rfl)), (heap_old_at _ _ _ (by simp)).trans (heap_new_at _ _ _ (by simp)), heap_new_at _ _ _ (by simp), (((Below.refl _ _).alloc (Nat.le_refl _) _).alloc (by simp) _).alloc (by simp; omega) _⟩
    have H3 := Lib.hid h3
    clear h3
    go_loopw [20] (fun i wr => ∃ (k : Nat) (lv : Value) (ys : List V6), k ≤ xs.length ∧ i = .int .i64 k ∧ R1 Wf x L k lv ys wr) (fun i _ => xs.length - (intOf i).toNat)
    case atStart => exact ⟨0, _, [], by omega, rfl, R1.start L H3.out⟩
    case round =>
      obtain ⟨k, lv, ys, hk, rfl, h1⟩ := hrel
      have H1 := Lib.hid h1
      clear H3 h1
      by_cases hlt : k < xs.length
      · obtain ⟨ad, hla, hadl, hcell⟩ := HL.out (by simpa using (by omega : 0 < xs.length))
        have hy : xs[k]? = some xs[k] := List.getElem?_eq_getElem hlt
        obtain ⟨vv, hvv⟩ : ∃ vv, L[k]? = some vv := ⟨_, List.getElem?_eq_getElem (by rw [← HLL.out]; exact hlt)⟩
        generalize xs[k] = y at hy
        have HC := Lib.hid (fun (W' : World) (h : Below w.heap.size w W') => HI1.out k y vv hy hvv W' h)
        have HV := Lib.hid hvv
        have hrow : (vcells xs)[k]? = some y.cells.toList := by simp [vcells, hy]
        have hbr : Below w.heap.size w wr := HBW.out.trans (H1.out.three.below.mono HBW.out.size)
        have HEC := Lib.hid (show Holds wr (ad.add (k * 6)) y.cells from fun d u hd => by rw [at2_add]; exact (hbr.cell (p := at2 ad (k * 6) d) (by rw [at2_block]; exact hadl)).trans (hcell k d _ _ hrow (by simpa using hd)))
        have hadr : ad.block < wr.heap.size := Nat.lt_of_lt_of_le hadl hbr.size
        have HBR := Lib.hid hbr
        have HROW := Lib.hid (fun (g : Nat) (hg : lv.ownBlock = some g) => own_lt H1.out.own hg)
        rw [hla]
        clear hy hvv hrow hbr hcell
        go_wp2_with (refine wpList_load_at rfl _ _ rfl _ rfl y.cells _ HEC.out Tryz.underlying71 rfl (sizeV6 _) ?_)
        obtain ⟨wa, hwa⟩ : ∃ wa : World, wa = wr.alloc (.cells y.cells 71) := ⟨_, rfl⟩
        rw [← hwa]
        have hba : Below wr.heap.size wr wa := by rw [hwa]; exact (Below.refl _ _).alloc (Nat.le_refl _) _
        have hltA : wr.heap.size < wa.heap.size := by rw [hwa]; simp
        have HMA := Lib.hid (show Holds wa ⟨wr.heap.size, 0, none⟩ y.cells from Holds.of_block (by rw [hwa]; exact heap_new_at _ _ _ rfl))
        have HBA := Lib.hid (HBR.out.trans (hba.mono HBR.out.size))
        have HBR2 := Lib.hid hba
        have HA3 := Lib.hid (H1.out.three.belowed hba)
        have HOWN := Lib.hid (ownsRow_below H1.out.own hba)
        have q0 : wa.cell? ⟨Wf.heap.size + 2, 4, none⟩ = some lv := cell_at (j := 4) HA3.out.out rfl
        have q1 := HMA.out
        clear hwa hba
        refine wt_start (S := fun W => W.cell? ⟨Wf.heap.size + 2, 4, none⟩ = some lv ∧ Holds W ⟨wr.heap.size, 0, none⟩ y.cells) 7 (by kernel_rfl) ⟨by kernel_rfl, by kernel_rfl, by kernel_rfl, by decide⟩ ?_
        intro HTK
        refine wt_take (i := 0) (v := ?_) HTK.out rfl (by decide) (by kernel_rfl) (by kernel_rfl) (fun _ _ _ h => h) (by exact ⟨q0, q1⟩) (Or.inl ⟨by rfl, ?_⟩) ?_
        rotate_left
        · intro W hSw
          obtain ⟨q0, q1⟩ := hSw
          go_simp
          try (with_reducible rfl)
        try simp only [List.getElem_toArray, List.getElem_cons_zero, List.getElem_cons_succ, Act.put, List.setIfInBounds_toArray, List.set_cons_zero, List.set_cons_succ]
        refine wt_take (i := 1) (v := ?_) HTK.out rfl (by decide) (by kernel_rfl) (by kernel_rfl) (fun _ _ _ h => h) (by exact ⟨q0, q1⟩) (Or.inl ⟨by rfl, ?_⟩) ?_
        rotate_left
        · intro W hSw
          obtain ⟨q0, q1⟩ := hSw
          go_simp
          try (with_reducible rfl)
        try simp only [List.getElem_toArray, List.getElem_cons_zero, List.getElem_cons_succ, Act.put, List.setIfInBounds_toArray, List.set_cons_zero, List.set_cons_succ]
        refine wt_take (i := 2) (v := .agg y.cells) HTK.out rfl (by decide) (by kernel_rfl) (by kernel_rfl) (fun _ _ _ h => h) (by exact ⟨q0, q1⟩) (yieldsIf_load_at (by rfl) _ _ (by rfl) _ (by rfl) y.cells _ (fun W hSw => hSw.2) Tryz.underlying71 (by rfl) (sizeV6 _)) ?_
        try simp only [List.getElem_toArray, List.getElem_cons_zero, List.getElem_cons_succ, Act.put, List.setIfInBounds_toArray, List.set_cons_zero, List.set_cons_succ]
        refine wt_ready (rs := [3]) (by kernel_rfl) (by simp) ?_
        refine AllT.cons rfl (by decide) (fun K hK => ?_) ?_
        · go_simp
          go_at_call 64
          refine (HC.out _ HBA.out.drew).mono ?_
          rintro e wv ⟨y', rfl, hrep, hbz⟩
          have hbv : Below wa.heap.size wa wv := (Below.refl _ _).drew.trans hbz
          have h3v := HA3.out.belowed hbv
          have hmv := HMA.out.below hbv (by exact hltA)
          have q0 : wv.cell? ⟨Wf.heap.size + 2, 4, none⟩ = some lv := cell_at (j := 4) h3v.out rfl
          have q1 : Holds wv ⟨wr.heap.size, 0, none⟩ y.cells := hmv
          have HREP := Lib.hid hrep
          have HBV := Lib.hid hbv
          have H3V := Lib.hid h3v
          have HMV := Lib.hid hmv
          clear hrep hbz hbv h3v hmv
          refine hK.out _ _ (by exact ⟨q0, q1⟩) ?_
          clear hK K
          try simp only [List.getElem_toArray, List.getElem_cons_zero, List.getElem_cons_succ, Act.put, List.setIfInBounds_toArray, List.set_cons_zero, List.set_cons_succ]
          refine wt_ready (rs := [4]) (by kernel_rfl) (by simp) ?_
          refine AllT.cons rfl (by decide) (fun K hK => ?_) ?_
          · go_simp
            have hbw : Below wv.heap.size wv (wv.alloc (.cells y'.cells 92)) := (Below.refl _ _).alloc (Nat.le_refl _) _
            have hxw : Src (wv.alloc (.cells y'.cells 92)) 6 (some ⟨wv.heap.size, 0, none⟩) 1 1 [y'.cells.toList] := src_one1 (heap_new_at _ _ _ rfl) rfl (v6_one _)
            have h3w := H3V.out.belowed hbw
            have hmw := HMV.out.below hbw (by have := HBV.out.size; exact Nat.lt_of_lt_of_le hltA this)
            have hownw : (wv.alloc (.cells y'.cells 92)).ownsRow (Wf.heap.size + 3) 92 6 lv k (vcells ys).flatten := (ownsRow_below HOWN.out HBV.out).alloc _
            have q0 : (wv.alloc (.cells y'.cells 92)).cell? ⟨Wf.heap.size + 2, 4, none⟩ = some lv := cell_at (j := 4) h3w.out rfl
            have q1 : Holds (wv.alloc (.cells y'.cells 92)) ⟨wr.heap.size, 0, none⟩ y.cells := hmw
            have HXW := Lib.hid hxw
            have HBW2 := Lib.hid hbw
            have H3W := Lib.hid h3w
            have HMW := Lib.hid hmw
            have HOWNW := Lib.hid hownw
            clear hxw hbw h3w hmw hownw
            refine hK.out _ _ (by exact ⟨q0, q1⟩) ?_
            clear hK K
            try simp only [List.getElem_toArray, List.getElem_cons_zero, List.getElem_cons_succ, Act.put, List.setIfInBounds_toArray, List.set_cons_zero, List.set_cons_succ]
            refine wt_ready (rs := [5]) (by kernel_rfl) (by simp) ?_
            refine AllT.cons rfl (by decide) (fun K hK => ?_) ?_
            · refine step_append_src _ (by rfl) _ _ _ (by rfl) (Wf.heap.size + 3) 92 i0 _ 6 88 Tryz.underlying89 HI.out HZ0.out HZ1.out HZ2.out rfl (by omega) _ _ _ (by rfl) HOWNW.out _ 1 1 [y'.cells.toList] (by rfl) HXW.out (by unfold maxLen; omega) (by omega) H3W.out.lt ?_
              intro a4 cap4 w4 hown4 hg4 hat4
              have hrow4 : ∀ g, lv.ownBlock = some g → Wf.heap.size + 3 ≤ g ∧ g < wr.heap.size := fun g hg => HROW.out g hg
              have h34 := H3W.out.kept hg4 (fun g e => (hrow4 g e).1)
              have hm4 : Holds w4 ⟨wr.heap.size, 0, none⟩ y.cells := fun j v hj => by
                have := HMW.out j v hj
                rw [← this]
                have e : ((⟨wr.heap.size, 0, none⟩ : Addr).add j).block = wr.heap.size := block_add _ _
                have hlw : wr.heap.size < (wv.alloc (.cells y'.cells 92)).heap.size := by have := HBW2.out.size; have := HBV.out.size; omega
                exact World.cell?_of_block (by rw [e]; exact hg4.block _ hlw (fun e => by have := (hrow4 _ e.symm).2; omega))
              have q0 : w4.cell? ⟨Wf.heap.size + 2, 4, none⟩ = some lv := cell_at (j := 4) h34.out rfl
              have q1 : Holds w4 ⟨wr.heap.size, 0, none⟩ y.cells := hm4
              have qf : w4.frozen? ⟨Wf.heap.size + 2, 4, none⟩ = false := frozen_at h34.out
              have HP := Lib.hid (Put.mk (W := Wf) HBW2.out hg4 hat4)
              have HOWN4 := Lib.hid hown4
              clear hown4 hg4 hat4 hrow4 h34 hm4
              refine hK.out _ _ (by exact ⟨q0, q1⟩) ?_
              clear hK K
              try simp only [List.getElem_toArray, List.getElem_cons_zero, List.getElem_cons_succ, Act.put, List.setIfInBounds_toArray, List.set_cons_zero, List.set_cons_succ]
              refine wt_take (i := 6) (v := ?_) HTK.out rfl (by decide) (by kernel_rfl) (by kernel_rfl) (fun _ _ _ h => h) (by exact ⟨q0, q1⟩) (Or.inl ⟨by rfl, ?_⟩) ?_
              rotate_left
              · intro W hSw
                obtain ⟨q0, q1⟩ := hSw
                go_simp
                try (with_reducible rfl)
              try simp only [List.getElem_toArray, List.getElem_cons_zero, List.getElem_cons_succ, Act.put, List.setIfInBounds_toArray, List.set_cons_zero, List.set_cons_succ]
              refine wt_last (k := 7) (by kernel_rfl) (by kernel_rfl) (by decide) rfl (fun K hK => ?_)
              go_simp
              refine hK.out _ _ ?_
              clear hK K
              try simp only [List.getElem_toArray, List.getElem_cons_zero, List.getElem_cons_succ, Act.put, List.setIfInBounds_toArray, List.set_cons_zero, List.set_cons_succ]
              go_wp2_with fail
              exact ⟨⟨k + 1, _, ys ++ [y'], by omega, by go_num, H1.out.step HV.out (HBR2.out.trans (HBV.out.mono HBR2.out.size)) (HREP.out.mono (fun g _ hg => Nat.le_trans (Nat.le_of_lt hltA) hg)) HP.out (by simpa using HOWN4.out)⟩, by simp [intOf]; omega⟩
            exact AllT.nil
          exact AllT.nil
        exact AllT.nil
      · obtain rfl : k = xs.length := by omega
        obtain ⟨s, rfl, h2⟩ := R1.done (M := M) H1.out HLL.out hkl
        have H2 := Lib.hid h2
        obtain ⟨wb, hwb⟩ : ∃ wn : World, wn = wr := ⟨_, rfl⟩
        subst hwb
        have q5 : wb.cell? ⟨Wf.heap.size, 5, none⟩ = some (.slice x.map.a x.map.n x.map.c) := cell_at (j := 5) h2.three.box rfl
        clear H1 h2
        go_wp2_with fail
        clear q5
        go_loopw [35] (fun i wr => ∃ (k : Nat) (mv : Value) (zs : List Mb), k ≤ ms.length ∧ i = .int .i64 k ∧ R2 Wf x L M ys s wb.heap.size k mv zs wr ∧ wb.heap.size ≤ wr.heap.size) (fun i _ => ms.length - (intOf i).toNat)
        case atStart => exact ⟨0, _, [], by omega, rfl, H2.out, Nat.le_refl _⟩
        case round =>
          obtain ⟨k, mv, zs, hk, rfl, h2, hBs⟩ := hrel
          obtain ⟨B, hB⟩ : ∃ B, B = wb.heap.size := ⟨_, rfl⟩
          rw [← hB] at h2 hBs
          have HBE := Lib.hid hB
          clear H2
          have H2 := Lib.hid h2
          clear h2
          by_cases hlt : k < ms.length
          · obtain ⟨ad, hla, hadl, hcell⟩ := HM.out (by simpa using (by omega : 0 < ms.length))
            have hy : ms[k]? = some ms[k] := List.getElem?_eq_getElem hlt
            obtain ⟨vv, hvv⟩ : ∃ vv, M[k]? = some vv := ⟨_, List.getElem?_eq_getElem (by rw [← HLM.out]; exact hlt)⟩
            generalize ms[k] = m at hy
            have HC := Lib.hid (fun (W' : World) (h : Below w.heap.size w W') => HI2.out k m vv hy hvv W' h)
            have HV := Lib.hid hvv
            have HKEY := Lib.hid (HKM.out k m vv hy hvv).1
            have hrow : (mcells ms)[k]? = some m.cells.toList := by simp [mcells, hy]
            have hbr : Below w.heap.size w wr := HBW.out.trans (H2.out.three.below.mono HBW.out.size)
            have HEC := Lib.hid (show Holds wr (ad.add (k * 7)) m.cells from fun d u hd => by rw [at2_add]; exact (hbr.cell (p := at2 ad (k * 7) d) (by rw [at2_block]; exact hadl)).trans (hcell k d _ _ hrow (by simpa using hd)))
            have hadr : ad.block < wr.heap.size := Nat.lt_of_lt_of_le hadl hbr.size
            have HBR := Lib.hid hbr
            have HROW := Lib.hid (fun (g : Nat) (hg : mv.ownBlock = some g) => (fun p : B ≤ g ∧ g < wr.heap.size => (⟨Nat.le_trans H2.out.hB p.1, p.2⟩ : Wf.heap.size + 3 ≤ g ∧ g < wr.heap.size)) (own_lt H2.out.own hg))
            rw [hla]
            clear hy hvv hrow hbr hcell hB
            go_wp2_with (refine wpList_load_at rfl _ _ rfl _ rfl m.cells _ HEC.out Tryz.underlying172 rfl (sizeMb _) ?_)
            obtain ⟨wa, hwa⟩ : ∃ wa : World, wa = wr.alloc (.cells m.cells 172) := ⟨_, rfl⟩
            rw [← hwa]
            have hba : Below wr.heap.size wr wa := by rw [hwa]; exact (Below.refl _ _).alloc (Nat.le_refl _) _
            have hltA : wr.heap.size < wa.heap.size := by rw [hwa]; simp
            have HMA := Lib.hid (show Holds wa ⟨wr.heap.size, 0, none⟩ (Mb.cells m) from Holds.of_block (by rw [hwa]; exact heap_new_at _ _ _ rfl))
            have HBA := Lib.hid (HBR.out.trans (hba.mono HBR.out.size))
            have HBR2 := Lib.hid hba
            have HA3 := Lib.hid (H2.out.three.belowed hba)
            have HOWN := Lib.hid (ownsRow_below H2.out.own hba)
            have q0 : wa.cell? ⟨Wf.heap.size + 2, 5, none⟩ = some mv := cell_at (j := 5) HA3.out.out rfl
            have q1 : wa.cell? ⟨wr.heap.size, 0, none⟩ = some (.string m.key) := HMA.out.cell rfl
            have q2 : Holds wa ⟨wr.heap.size, 1, none⟩ m.v.cells := HMA.out.tail
            clear hwa hba
            refine wt_start (S := fun W => W.cell? ⟨Wf.heap.size + 2, 5, none⟩ = some mv ∧ W.cell? ⟨wr.heap.size, 0, none⟩ = some (.string m.key) ∧ Holds W ⟨wr.heap.size, 1, none⟩ m.v.cells) 11 (by kernel_rfl) ⟨by kernel_rfl, by kernel_rfl, by kernel_rfl, by decide⟩ ?_
            intro HTK
            refine wt_take (i := 0) (v := ?_) HTK.out rfl (by decide) (by kernel_rfl) (by kernel_rfl) (fun _ _ _ h => h) (by exact ⟨q0, q1, q2⟩) (Or.inl ⟨by rfl, ?_⟩) ?_
            rotate_left
            · intro W hSw
              obtain ⟨q0, q1, q2⟩ := hSw
              go_simp
              try (with_reducible rfl)
            try simp only [List.getElem_toArray, List.getElem_cons_zero, List.getElem_cons_succ, Act.put, List.setIfInBounds_toArray, List.set_cons_zero, List.set_cons_succ]
            refine wt_take (i := 1) (v := ?_) HTK.out rfl (by decide) (by kernel_rfl) (by kernel_rfl) (fun _ _ _ h => h) (by exact ⟨q0, q1, q2⟩) (Or.inl ⟨by rfl, ?_⟩) ?_
            rotate_left
            · intro W hSw
              obtain ⟨q0, q1, q2⟩ := hSw
              go_simp
              try (with_reducible rfl)
            try simp only [List.getElem_toArray, List.getElem_cons_zero, List.getElem_cons_succ, Act.put, List.setIfInBounds_toArray, List.set_cons_zero, List.set_cons_succ]
            refine wt_take (i := 2) (v := ?_) HTK.out rfl (by decide) (by kernel_rfl) (by kernel_rfl) (fun _ _ _ h => h) (by exact ⟨q0, q1, q2⟩) (Or.inl ⟨by rfl, ?_⟩) ?_
            rotate_left
            · intro W hSw
              obtain ⟨q0, q1, q2⟩ := hSw
              go_simp
              try (with_reducible rfl)
            try simp only [List.getElem_toArray, List.getElem_cons_zero, List.getElem_cons_succ, Act.put, List.setIfInBounds_toArray, List.set_cons_zero, List.set_cons_succ]
            refine wt_take (i := 3) (v := ?_) HTK.out rfl (by decide) (by kernel_rfl) (by kernel_rfl) (fun _ _ _ h => h) (by exact ⟨q0, q1, q2⟩) (Or.inl ⟨by rfl, ?_⟩) ?_
            rotate_left
            · intro W hSw
              obtain ⟨q0, q1, q2⟩ := hSw
              go_simp
              try (with_reducible rfl)
            try simp only [List.getElem_toArray, List.getElem_cons_zero, List.getElem_cons_succ, Act.put, List.setIfInBounds_toArray, List.set_cons_zero, List.set_cons_succ]
            refine wt_take (i := 4) (v := ?_) HTK.out rfl (by decide) (by kernel_rfl) (by kernel_rfl) (fun _ _ _ h => h) (by exact ⟨q0, q1, q2⟩) (Or.inl ⟨by rfl, ?_⟩) ?_
            rotate_left
            · intro W hSw
              obtain ⟨q0, q1, q2⟩ := hSw
              go_simp
              try (with_reducible rfl)
            try simp only [List.getElem_toArray, List.getElem_cons_zero, List.getElem_cons_succ, Act.put, List.setIfInBounds_toArray, List.set_cons_zero, List.set_cons_succ]
            refine wt_take (i := 5) (v := .agg m.v.cells) HTK.out rfl (by decide) (by kernel_rfl) (by kernel_rfl) (fun _ _ _ h => h) (by exact ⟨q0, q1, q2⟩) (yieldsIf_load_at (by rfl) _ _ (by rfl) _ (by rfl) m.v.cells _ (fun W hSw => hSw.2.2) Tryz.underlying71 (by rfl) (sizeV6 _)) ?_
            try simp only [List.getElem_toArray, List.getElem_cons_zero, List.getElem_cons_succ, Act.put, List.setIfInBounds_toArray, List.set_cons_zero, List.set_cons_succ]
            refine wt_ready (rs := [6]) (by kernel_rfl) (by simp) ?_
            refine AllT.cons rfl (by decide) (fun K hK => ?_) ?_
            · go_simp
              go_at_call 64
              refine (HC.out _ HBA.out.drew).mono ?_
              rintro e wv ⟨y', rfl, hrep, hbz⟩
              have hbv : Below wa.heap.size wa wv := (Below.refl _ _).drew.trans hbz
              have h3v := HA3.out.belowed hbv
              have hmv := HMA.out.below hbv (by exact hltA)
              have q0 : wv.cell? ⟨Wf.heap.size + 2, 5, none⟩ = some mv := cell_at (j := 5) h3v.out rfl
              have qh : Holds wv ⟨wr.heap.size, 0, none⟩ (Mb.cells m) := hmv
              have q1 : wv.cell? ⟨wr.heap.size, 0, none⟩ = some (.string m.key) := qh.cell rfl
              have q2 : Holds wv ⟨wr.heap.size, 1, none⟩ m.v.cells := qh.tail
              have HREP := Lib.hid hrep
              have HBV := Lib.hid hbv
              have H3V := Lib.hid h3v
              have HMV := Lib.hid hmv
              clear hrep hbz hbv h3v hmv qh
              refine hK.out _ _ (by exact ⟨q0, q1, q2⟩) ?_
              clear hK K
              try simp only [List.getElem_toArray, List.getElem_cons_zero, List.getElem_cons_succ, Act.put, List.setIfInBounds_toArray, List.set_cons_zero, List.set_cons_succ]
              refine wt_take (i := 7) (v := ?_) HTK.out rfl (by decide) (by kernel_rfl) (by kernel_rfl) (fun _ _ _ h => h) (by exact ⟨q0, q1, q2⟩) (Or.inl ⟨by rfl, ?_⟩) ?_
              rotate_left
              · intro W hSw
                obtain ⟨q0, q1, q2⟩ := hSw
                go_simp
                try (with_reducible rfl)
              try simp only [List.getElem_toArray, List.getElem_cons_zero, List.getElem_cons_succ, Act.put, List.setIfInBounds_toArray, List.set_cons_zero, List.set_cons_succ]
              refine wt_ready (rs := [8]) (by kernel_rfl) (by simp) ?_
              refine AllT.cons rfl (by decide) (fun K hK => ?_) ?_
              · go_simp
                have hbw : Below wv.heap.size wv (wv.alloc (.cells (Mb.cells ⟨m.key, y'⟩) 141)) := (Below.refl _ _).alloc (Nat.le_refl _) _
                have hxw : Src (wv.alloc (.cells (Mb.cells ⟨m.key, y'⟩) 141)) 7 (some ⟨wv.heap.size, 0, none⟩) 1 1 [(Mb.cells ⟨m.key, y'⟩).toList] := src_one1 (heap_new_at _ _ _ rfl) rfl (mb_one _)
                have h3w := H3V.out.belowed hbw
                have hmw := HMV.out.below hbw (by have := HBV.out.size; exact Nat.lt_of_lt_of_le hltA this)
                have hownw : (wv.alloc (.cells (Mb.cells ⟨m.key, y'⟩) 141)).ownsRow B 141 7 mv k (mcells zs).flatten := (ownsRow_below HOWN.out HBV.out).alloc _
                have q0 : (wv.alloc (.cells (Mb.cells ⟨m.key, y'⟩) 141)).cell? ⟨Wf.heap.size + 2, 5, none⟩ = some mv := cell_at (j := 5) h3w.out rfl
                have qh : Holds (wv.alloc (.cells (Mb.cells ⟨m.key, y'⟩) 141)) ⟨wr.heap.size, 0, none⟩ (Mb.cells m) := hmw
                have q1 : (wv.alloc (.cells (Mb.cells ⟨m.key, y'⟩) 141)).cell? ⟨wr.heap.size, 0, none⟩ = some (.string m.key) := qh.cell rfl
                have q2 : Holds (wv.alloc (.cells (Mb.cells ⟨m.key, y'⟩) 141)) ⟨wr.heap.size, 1, none⟩ m.v.cells := qh.tail
                have HXW := Lib.hid hxw
                have HBW2 := Lib.hid hbw
                have H3W := Lib.hid h3w
                have HMW := Lib.hid hmw
                have HOWNW := Lib.hid hownw
                clear hxw hbw h3w hmw hownw qh
                refine hK.out _ _ (by exact ⟨q0, q1, q2⟩) ?_
                clear hK K
                try simp only [List.getElem_toArray, List.getElem_cons_zero, List.getElem_cons_succ, Act.put, List.setIfInBounds_toArray, List.set_cons_zero, List.set_cons_succ]
                refine wt_ready (rs := [9]) (by kernel_rfl) (by simp) ?_
                refine AllT.cons rfl (by decide) (fun K hK => ?_) ?_
                · refine step_append_src _ (by rfl) _ _ _ (by rfl) B 141 i1 _ 7 104 Tryz.underlying90 HJ.out HY0.out HY1.out HY2.out rfl (by omega) _ _ _ (by rfl) HOWNW.out _ 1 1 [(Mb.cells ⟨m.key, y'⟩).toList] (by rfl) HXW.out (by unfold maxLen; omega) (by omega) (Nat.le_trans hBs (Nat.le_trans (Nat.le_of_lt hltA) (Nat.le_trans HBV.out.size HBW2.out.size))) ?_
                  intro a4 cap4 w4 hown4 hg4 hat4
                  have hrow4 : ∀ g, mv.ownBlock = some g → Wf.heap.size + 3 ≤ g ∧ g < wr.heap.size := fun g hg => HROW.out g hg
                  have h34 := H3W.out.kept hg4 (fun g e => (hrow4 g e).1)
                  have hm4 : Holds w4 ⟨wr.heap.size, 0, none⟩ (Mb.cells m) := fun j v hj => by
                    have := HMW.out j v hj
                    rw [← this]
                    have e : ((⟨wr.heap.size, 0, none⟩ : Addr).add j).block = wr.heap.size := block_add _ _
                    have hlw : wr.heap.size < (wv.alloc (.cells (Mb.cells ⟨m.key, y'⟩) 141)).heap.size := by have := HBW2.out.size; have := HBV.out.size; omega
                    exact World.cell?_of_block (by rw [e]; exact hg4.block _ hlw (fun e => by have := (hrow4 _ e.symm).2; omega))
                  have q0 : w4.cell? ⟨Wf.heap.size + 2, 5, none⟩ = some mv := cell_at (j := 5) h34.out rfl
                  have qh : Holds w4 ⟨wr.heap.size, 0, none⟩ (Mb.cells m) := hm4
                  have q1 : w4.cell? ⟨wr.heap.size, 0, none⟩ = some (.string m.key) := qh.cell rfl
                  have q2 : Holds w4 ⟨wr.heap.size, 1, none⟩ m.v.cells := qh.tail
                  have qf : w4.frozen? ⟨Wf.heap.size + 2, 5, none⟩ = false := frozen_at h34.out
                  have HP := Lib.hid (Put.mk (W := Wf) HBW2.out hg4 hat4)
                  have HOWN4 := Lib.hid hown4
                  clear hown4 hg4 hat4 hrow4 h34 hm4 qh
                  refine hK.out _ _ (by exact ⟨q0, q1, q2⟩) ?_
                  clear hK K
                  try simp only [List.getElem_toArray, List.getElem_cons_zero, List.getElem_cons_succ, Act.put, List.setIfInBounds_toArray, List.set_cons_zero, List.set_cons_succ]
                  refine wt_take (i := 10) (v := ?_) HTK.out rfl (by decide) (by kernel_rfl) (by kernel_rfl) (fun _ _ _ h => h) (by exact ⟨q0, q1, q2⟩) (Or.inl ⟨by rfl, ?_⟩) ?_
                  rotate_left
                  · intro W hSw
                    obtain ⟨q0, q1, q2⟩ := hSw
                    go_simp
                    try (with_reducible rfl)
                  try simp only [List.getElem_toArray, List.getElem_cons_zero, List.getElem_cons_succ, Act.put, List.setIfInBounds_toArray, List.set_cons_zero, List.set_cons_succ]
                  refine wt_last (k := 11) (by kernel_rfl) (by kernel_rfl) (by decide) rfl (fun K hK => ?_)
                  go_simp
                  refine hK.out _ _ ?_
                  clear hK K
                  try simp only [List.getElem_toArray, List.getElem_cons_zero, List.getElem_cons_succ, Act.put, List.setIfInBounds_toArray, List.set_cons_zero, List.set_cons_succ]
                  go_wp2_with fail
                  have hstep := R2.step (z := ⟨m.key, y'⟩) H2.out HV.out HKEY.out (HBR2.out.trans (HBV.out.mono HBR2.out.size)) hBs (HREP.out.mono (fun g _ hg => Nat.le_trans (Nat.le_of_lt hltA) hg)) HP.out (by simpa using HOWN4.out)
                  have hsz4 := Nat.le_trans hBs (Nat.le_trans HBR2.out.size (Nat.le_trans HBV.out.size (HP.out.size 5 (.slice a4 (k + 1) cap4))))
                  rw [HBE.out] at hstep hsz4
                  exact ⟨⟨k + 1, _, zs ++ [⟨m.key, y'⟩], by omega, by go_num, hstep, hsz4⟩, by simp [intOf]; omega⟩
                exact AllT.nil
              exact AllT.nil
            exact AllT.nil
          · obtain rfl : k = ms.length := by omega
            obtain ⟨t, rfl, hrep⟩ := R2.done H2.out HLM.out hkm
            have HO := Lib.hid (show Holds wr ⟨Wf.heap.size + 2, 0, none⟩ (V6.cells ⟨x.kind, x.yes, x.int, x.text, s, t⟩) from Holds.of_block H2.out.three.out)
            have HTH := Lib.hid (there_of_block H2.out.three.res (n := 6) rfl)
            have HRES := Lib.hid (setCells_whole (cs := V6.cells ⟨x.kind, x.yes, x.int, x.text, s, t⟩) H2.out.three.res rfl)
            have HST := Lib.hid (hrep.stored (Wf.heap.size + 1) 0 (V6.cells ⟨x.kind, x.yes, x.int, x.text, s, t⟩).toList (by omega))
            have HBF := Lib.hid (H2.out.three.stored (V6.cells ⟨x.kind, x.yes, x.int, x.text, s, t⟩).toList)
            clear hrep H2
            go_wp2_with (first | (refine wpList_load_at rfl _ _ rfl _ rfl _ _ HO.out Tryz.underlying92 rfl (sizeV6p _) ?_) | (refine wpList_store_v6 rfl _ _ rfl (Wf.heap.size + 1) ⟨x.kind, x.yes, x.int, x.text, s, t⟩ rfl rfl HTH.out ?_))
            refine bodyPost_ret (results_cell_row rfl _ _ (Wf.heap.size + 1) 92 (V6.cells ⟨x.kind, x.yes, x.int, x.text, s, t⟩) (0, 0) _ rfl HRES.out Tryz.underlying92 rfl (sizeV6p _)) rfl ?_
            exact ⟨⟨x.kind, x.yes, x.int, x.text, s, t⟩, rfl, HST.out.mono (fun g _ hg => by omega), HBF.out⟩
end Go.Proofs.YtgnoaeldmpbjmaaGreatDoor
