/- alias: an alias is given, or taken. -/
import Derived.Test.YtgnoaeldmpbjmaaGreatDoorTb
set_option linter.unusedVariables false
namespace Go.Proofs.YtgnoaeldmpbjmaaGreatDoor
open Go.RowKit

def delE (k : ByteArray) (l : List En) : List En := l.filter fun x => !aliasIs k x
theorem ents_del (k : ByteArray) (l : List En) : ents (delE k l) = delS k (ents l) := by
  unfold ents delE delS
  rw [List.filter_map]
  rfl
def insE (x : En) : List En → List En
  | [] => [x]
  | y :: r => if bytesBefore x.a.data.toList y.a.data.toList then x :: y :: r else y :: insE x r
theorem ents_ins (x : En) : ∀ l : List En, ents (insE x l) = insS (x.a, .agg x.cells) (ents l)
  | [] => rfl
  | y :: r => by
    show ents (if bytesBefore x.a.data.toList y.a.data.toList then x :: y :: r else y :: insE x r) = insS (x.a, .agg x.cells) ((y.a, .agg y.cells) :: ents r)
    unfold insS
    by_cases h : bytesBefore x.a.data.toList y.a.data.toList = true
    · rw [if_pos h, if_pos h]; rfl
    · rw [if_neg h, if_neg h]
      show (y.a, _) :: ents (insE x r) = _
      rw [ents_ins x r]
theorem del_none {k : ByteArray} {l : List En} (h : getE l k = none) : delE k l = l := by
  unfold delE
  rw [List.filter_eq_self]
  intro x hx
  have := List.find?_eq_none.1 h x hx
  simpa using this
def sameB (a b : ByteArray) : Bool := a.toList == b.toList
theorem ents_put {k : ByteArray} {l : List En} (x : En) (hx : x.a = k) (h : getE l k = none) : putS k (.agg x.cells) (ents l) = ents (insE x l) := by
  unfold putS
  rw [← ents_del, del_none h, ents_ins, hx]
/-- What is wrong with taking an alias. -/
def dropErr (l : List En) (k by_ : ByteArray) (may : Bool) : Er := match getE l k with
  | none => some ([], 16)
  | some x => if sameB x.b by_ || may then none else some ([], 22)
theorem Tab.turned {w w' : World} {g b : Nat} {server : ByteArray} {most : Int} {l l' : List En} (h : Tab w g b server most l) (hm : MapS w' Tryz.prog 9 b (ents l')) (hf : w'.heap[g]? = w.heap[g]?) : Tab w' g b server most l' := ⟨hf.trans h.blk, hm⟩

set_option maxRecDepth 100000 in
set_option maxHeartbeats 1000000 in
theorem drop_none (w : World) (g b : Nat) (server : ByteArray) (most : Int) (l : List En) (k by_ : ByteArray) (may : Bool) (ht : Tab w g b server most l) (hk : k.size ≤ maxLen) (hg : getE l k = none) :
    Calls Tryz.prog 33 #[.pointer (some ⟨g, 0, none⟩), .string k, .string by_, .bool may] w fun e w' => e = .returned (.iface 67 (.int .i64 16)) ∧ Tab w' g b server most l ∧ Fr (fun i => i = b) w w' := by
  have HT := Lib.hid ht
  have HG := Lib.hid (get_calls w g b server most l k ht hk)
  rw [hg] at HG
  have hgl := blk_lt ht.blk
  have hbl := ht.mp.lt
  have HNE := Lib.hid ht.ne
  clear ht hg
  go_enter Tryz.func33, Tryz.ntmps33
  go_wp2_with fail
  refine HG.out.mono ?_
  rintro e w1 ⟨rfl, hb1⟩
  have HT1 := Lib.hid (HT.out.below hb1)
  have HB1 := Lib.hid hb1
  have k2 := cell_at (j := 2) HT1.out.blk rfl
  have hg1 := blk_lt HT1.out.blk
  clear hb1 HG
  unfold getV
  unfold errNone
  go_wp2_with fail
  go_ret
  exact ⟨rfl, HT1.out.below (Below.alloc (Below.refl _ _) (Nat.le_refl _) _), (Fr.of_below HB1.out).trans (Fr.alloc _ _)⟩
set_option maxRecDepth 100000 in
set_option maxHeartbeats 1000000 in
theorem drop_denied (w : World) (g b : Nat) (server : ByteArray) (most : Int) (l : List En) (k by_ : ByteArray) (ht : Tab w g b server most l) (hk : k.size ≤ maxLen) (x : En) (hg : getE l k = some x) (hb : (x.b.toList == by_.toList) = false) :
    Calls Tryz.prog 33 #[.pointer (some ⟨g, 0, none⟩), .string k, .string by_, .bool false] w fun e w' => e = .returned (.iface 67 (.int .i64 22)) ∧ Tab w' g b server most l ∧ Fr (fun i => i = b) w w' := by
  have HT := Lib.hid ht
  have HG := Lib.hid (get_calls w g b server most l k ht hk)
  rw [hg] at HG
  have hgl := blk_lt ht.blk
  have hbl := ht.mp.lt
  have HNE := Lib.hid ht.ne
  clear ht hg
  go_enter Tryz.func33, Tryz.ntmps33
  go_wp2_with fail
  refine HG.out.mono ?_
  rintro e w1 ⟨rfl, hb1⟩
  have HT1 := Lib.hid (HT.out.below hb1)
  have HB1 := Lib.hid hb1
  have k2 := cell_at (j := 2) HT1.out.blk rfl
  have hg1 := blk_lt HT1.out.blk
  clear hb1 HG
  unfold getV
  go_wp2_with fail
  go_ret
  exact ⟨rfl, HT1.out.below (Below.alloc (Below.refl _ _) (Nat.le_refl _) _), (Fr.of_below HB1.out).trans (Fr.alloc _ _)⟩
set_option maxRecDepth 100000 in
set_option maxHeartbeats 1000000 in
theorem drop_same (w : World) (g b : Nat) (server : ByteArray) (most : Int) (l : List En) (k by_ : ByteArray) (may : Bool) (ht : Tab w g b server most l) (hk : k.size ≤ maxLen) (x : En) (hg : getE l k = some x) (hb : (x.b.toList == by_.toList) = true) :
    Calls Tryz.prog 33 #[.pointer (some ⟨g, 0, none⟩), .string k, .string by_, .bool may] w fun e w' => e = .returned (.nilIface) ∧ Tab w' g b server most (delE k l) ∧ Fr (fun i => i = b) w w' := by
  have HT := Lib.hid ht
  have HG := Lib.hid (get_calls w g b server most l k ht hk)
  rw [hg] at HG
  have hgl := blk_lt ht.blk
  have hbl := ht.mp.lt
  have HNE := Lib.hid ht.ne
  clear ht hg
  go_enter Tryz.func33, Tryz.ntmps33
  go_wp2_with fail
  refine HG.out.mono ?_
  rintro e w1 ⟨rfl, hb1⟩
  have HT1 := Lib.hid (HT.out.below hb1)
  have HB1 := Lib.hid hb1
  have k2 := cell_at (j := 2) HT1.out.blk rfl
  have hg1 := blk_lt HT1.out.blk
  clear hb1 HG
  unfold getV
  cases may
  all_goals
    go_wp2_with (at_delete; refine deleteS _ rfl _ _ 78 9 rfl 49 Tryz.underlying9 Tryz.underlying78 b (ents l) rfl ?cm k rfl hk ?_)
    case cm => exact HT1.out.mp.same (heap_old_at _ _ _ HT1.out.mp.lt)
    intro w2 hm2 hturn
    have HFR := Lib.hid (Fr.of_turned (S := fun i => i = b) (P := Tryz.prog) (kt := 9) (HT1.out.mp.same (heap_old_at _ (.cells #[.string x.a, .string x.r, .string x.b] 49) _ HT1.out.mp.lt)) hturn rfl)
    have HM2 := Lib.hid hm2
    clear hm2 hturn
    go_wp2_with fail
    go_ret
    refine ⟨rfl, ⟨?_, by rw [ents_del]; exact HM2.out⟩, ((Fr.of_below HB1.out).trans (Fr.alloc _ _)).trans HFR.out⟩
    exact (HFR.out.block g (by simp; omega) HNE.out).trans ((heap_old_at _ _ _ hg1).trans HT1.out.blk)
set_option maxRecDepth 100000 in
set_option maxHeartbeats 1000000 in
theorem drop_may (w : World) (g b : Nat) (server : ByteArray) (most : Int) (l : List En) (k by_ : ByteArray) (ht : Tab w g b server most l) (hk : k.size ≤ maxLen) (x : En) (hg : getE l k = some x) (hb : (x.b.toList == by_.toList) = false) :
    Calls Tryz.prog 33 #[.pointer (some ⟨g, 0, none⟩), .string k, .string by_, .bool true] w fun e w' => e = .returned (.nilIface) ∧ Tab w' g b server most (delE k l) ∧ Fr (fun i => i = b) w w' := by
  have HT := Lib.hid ht
  have HG := Lib.hid (get_calls w g b server most l k ht hk)
  rw [hg] at HG
  have hgl := blk_lt ht.blk
  have hbl := ht.mp.lt
  have HNE := Lib.hid ht.ne
  clear ht hg
  go_enter Tryz.func33, Tryz.ntmps33
  go_wp2_with fail
  refine HG.out.mono ?_
  rintro e w1 ⟨rfl, hb1⟩
  have HT1 := Lib.hid (HT.out.below hb1)
  have HB1 := Lib.hid hb1
  have k2 := cell_at (j := 2) HT1.out.blk rfl
  have hg1 := blk_lt HT1.out.blk
  clear hb1 HG
  unfold getV
  go_wp2_with (at_delete; refine deleteS _ rfl _ _ 78 9 rfl 49 Tryz.underlying9 Tryz.underlying78 b (ents l) rfl ?cm k rfl hk ?_)
  case cm => exact HT1.out.mp.same (heap_old_at _ _ _ HT1.out.mp.lt)
  intro w2 hm2 hturn
  have HFR := Lib.hid (Fr.of_turned (S := fun i => i = b) (P := Tryz.prog) (kt := 9) (HT1.out.mp.same (heap_old_at _ (.cells #[.string x.a, .string x.r, .string x.b] 49) _ HT1.out.mp.lt)) hturn rfl)
  have HM2 := Lib.hid hm2
  clear hm2 hturn
  go_wp2_with fail
  go_ret
  refine ⟨rfl, ⟨?_, by rw [ents_del]; exact HM2.out⟩, ((Fr.of_below HB1.out).trans (Fr.alloc _ _)).trans HFR.out⟩
  exact (HFR.out.block g (by simp; omega) HNE.out).trans ((heap_old_at _ _ _ hg1).trans HT1.out.blk)
set_option maxRecDepth 100000 in
set_option maxHeartbeats 1000000 in
theorem add_alias (w : World) (g b : Nat) (server : ByteArray) (most : Int) (l : List En) (k room by_ : ByteArray) (ht : Tab w g b server most l) (hk : k.size < 4294967281) (hr : room.size < 4294967281) (hb : by_.size < 4294967281) (hm : Mx w) (h1 : isB 3 k.data.toList = false) :
    Calls Tryz.prog 24 #[.pointer (some ⟨g, 0, none⟩), .string k, .string room, .string by_] w fun e w' => ∃ v, e = .returned v ∧ ErrV w' (fun i => w.heap.size ≤ i) v (some ([sAlias], 7)) ∧ Tab w' g b server most l ∧ Below w.heap.size w w' := by
  have HT := Lib.hid ht
  have HM := Lib.hid hm
  have hpos := hm.pos
  have hkm : k.size ≤ maxLen := by unfold maxLen; omega
  have hgl := blk_lt ht.blk
  have k2 := cell_at (j := 2) ht.blk rfl
  have HNE := Lib.hid ht.ne
  obtain ⟨x, ok, hv, hok⟩ : ∃ (x : En) (ok : Bool), (getS (ents l) k).getD (.agg enZ.cells) = .agg x.cells ∧ (getS (ents l) k).isSome = ok := by
    rw [ents_get]
    cases getE l k with
    | none => exact ⟨enZ, _, rfl, rfl⟩
    | some x => exact ⟨x, _, rfl, rfl⟩
  have HV := Lib.hid hv
  have HOK := Lib.hid hok
  clear hv hok
  have HI1 := Lib.hid (fun (W : World) (h : Below w.heap.size w W) => (show Calls Tryz.prog 27 #[.int .i64 3, .string k] W fun e wq => e = .returned (.bool (isB 3 k.data.toList)) ∧ Below W.heap.size W wq from is_calls W 3 k (by omega) hk (hm.below h hpos)))
  rw [h1] at HI1
  clear h1
  have HEL := Lib.hid (ents_length l)
  clear ht hm
  go_enter Tryz.func24, Tryz.ntmps24
  go_wp2_with (at_lookup; refine lookupS_ok _ rfl _ _ 78 rfl 9 49 Tryz.underlying9 Tryz.underlying78 _ (zeroEn _) b (ents l) rfl HT.out.mp k rfl hkm _ ok HV.out HOK.out ?_)
  have HB0 := Lib.hid (show Below w.heap.size w (w.alloc (.cells #[.string (x).a, .string (x).r, .string (x).b] 49)) from (Below.refl _ _).alloc (Nat.le_refl _) _)
  with_reducible refine (HI1.out _ HB0.out).mono ?_
  rintro e w1 ⟨rfl, hb1⟩
  have HB1 := Lib.hid (HB0.out.trans (hb1.mono HB0.out.size))
  clear hb1 HI1
  go_wp2_with fail
  refine (in_code w1 sAlias 7).mono ?_
  rintro e wz ⟨v, rfl, hv, hbz⟩
  have HVV := Lib.hid hv
  have HBZ := Lib.hid (HB1.out.trans (hbz.mono HB1.out.size))
  clear hv hbz
  go_wp2_with fail
  go_ret
  exact ⟨v, rfl, HVV.out.mono (fun i _ h => Nat.le_trans HB1.out.size h), HT.out.below HBZ.out, HBZ.out⟩
set_option maxRecDepth 100000 in
set_option maxHeartbeats 1000000 in
theorem add_room (w : World) (g b : Nat) (server : ByteArray) (most : Int) (l : List En) (k room by_ : ByteArray) (ht : Tab w g b server most l) (hk : k.size < 4294967281) (hr : room.size < 4294967281) (hb : by_.size < 4294967281) (hm : Mx w) (h1 : isB 3 k.data.toList = true) (h2 : isB 1 room.data.toList = false) :
    Calls Tryz.prog 24 #[.pointer (some ⟨g, 0, none⟩), .string k, .string room, .string by_] w fun e w' => ∃ v, e = .returned v ∧ ErrV w' (fun i => w.heap.size ≤ i) v (some ([sRoom], 7)) ∧ Tab w' g b server most l ∧ Below w.heap.size w w' := by
  have HT := Lib.hid ht
  have HM := Lib.hid hm
  have hpos := hm.pos
  have hkm : k.size ≤ maxLen := by unfold maxLen; omega
  have hgl := blk_lt ht.blk
  have k2 := cell_at (j := 2) ht.blk rfl
  have HNE := Lib.hid ht.ne
  obtain ⟨x, ok, hv, hok⟩ : ∃ (x : En) (ok : Bool), (getS (ents l) k).getD (.agg enZ.cells) = .agg x.cells ∧ (getS (ents l) k).isSome = ok := by
    rw [ents_get]
    cases getE l k with
    | none => exact ⟨enZ, _, rfl, rfl⟩
    | some x => exact ⟨x, _, rfl, rfl⟩
  have HV := Lib.hid hv
  have HOK := Lib.hid hok
  clear hv hok
  have HI1 := Lib.hid (fun (W : World) (h : Below w.heap.size w W) => (show Calls Tryz.prog 27 #[.int .i64 3, .string k] W fun e wq => e = .returned (.bool (isB 3 k.data.toList)) ∧ Below W.heap.size W wq from is_calls W 3 k (by omega) hk (hm.below h hpos)))
  rw [h1] at HI1
  clear h1
  have HI2 := Lib.hid (fun (W : World) (h : Below w.heap.size w W) => (show Calls Tryz.prog 27 #[.int .i64 1, .string room] W fun e wq => e = .returned (.bool (isB 1 room.data.toList)) ∧ Below W.heap.size W wq from is_calls W 1 room (by omega) hr (hm.below h hpos)))
  rw [h2] at HI2
  clear h2
  have HEL := Lib.hid (ents_length l)
  clear ht hm
  go_enter Tryz.func24, Tryz.ntmps24
  go_wp2_with (at_lookup; refine lookupS_ok _ rfl _ _ 78 rfl 9 49 Tryz.underlying9 Tryz.underlying78 _ (zeroEn _) b (ents l) rfl HT.out.mp k rfl hkm _ ok HV.out HOK.out ?_)
  have HB0 := Lib.hid (show Below w.heap.size w (w.alloc (.cells #[.string (x).a, .string (x).r, .string (x).b] 49)) from (Below.refl _ _).alloc (Nat.le_refl _) _)
  with_reducible refine (HI1.out _ HB0.out).mono ?_
  rintro e w1 ⟨rfl, hb1⟩
  have HB1 := Lib.hid (HB0.out.trans (hb1.mono HB0.out.size))
  clear hb1 HI1
  go_wp2_with fail
  with_reducible refine (HI2.out _ HB1.out).mono ?_
  rintro e w2 ⟨rfl, hb2⟩
  have HB2 := Lib.hid (HB1.out.trans (hb2.mono HB1.out.size))
  clear hb2 HI2
  go_wp2_with fail
  refine (in_code w2 sRoom 7).mono ?_
  rintro e wz ⟨v, rfl, hv, hbz⟩
  have HVV := Lib.hid hv
  have HBZ := Lib.hid (HB2.out.trans (hbz.mono HB2.out.size))
  clear hv hbz
  go_wp2_with fail
  go_ret
  exact ⟨v, rfl, HVV.out.mono (fun i _ h => Nat.le_trans HB2.out.size h), HT.out.below HBZ.out, HBZ.out⟩
set_option maxRecDepth 100000 in
set_option maxHeartbeats 1000000 in
theorem add_user (w : World) (g b : Nat) (server : ByteArray) (most : Int) (l : List En) (k room by_ : ByteArray) (ht : Tab w g b server most l) (hk : k.size < 4294967281) (hr : room.size < 4294967281) (hb : by_.size < 4294967281) (hm : Mx w) (h1 : isB 3 k.data.toList = true) (h2 : isB 1 room.data.toList = true) (h3 : isB 2 by_.data.toList = false) :
    Calls Tryz.prog 24 #[.pointer (some ⟨g, 0, none⟩), .string k, .string room, .string by_] w fun e w' => ∃ v, e = .returned v ∧ ErrV w' (fun i => w.heap.size ≤ i) v (some ([sUser], 7)) ∧ Tab w' g b server most l ∧ Below w.heap.size w w' := by
  have HT := Lib.hid ht
  have HM := Lib.hid hm
  have hpos := hm.pos
  have hkm : k.size ≤ maxLen := by unfold maxLen; omega
  have hgl := blk_lt ht.blk
  have k2 := cell_at (j := 2) ht.blk rfl
  have HNE := Lib.hid ht.ne
  obtain ⟨x, ok, hv, hok⟩ : ∃ (x : En) (ok : Bool), (getS (ents l) k).getD (.agg enZ.cells) = .agg x.cells ∧ (getS (ents l) k).isSome = ok := by
    rw [ents_get]
    cases getE l k with
    | none => exact ⟨enZ, _, rfl, rfl⟩
    | some x => exact ⟨x, _, rfl, rfl⟩
  have HV := Lib.hid hv
  have HOK := Lib.hid hok
  clear hv hok
  have HI1 := Lib.hid (fun (W : World) (h : Below w.heap.size w W) => (show Calls Tryz.prog 27 #[.int .i64 3, .string k] W fun e wq => e = .returned (.bool (isB 3 k.data.toList)) ∧ Below W.heap.size W wq from is_calls W 3 k (by omega) hk (hm.below h hpos)))
  rw [h1] at HI1
  clear h1
  have HI2 := Lib.hid (fun (W : World) (h : Below w.heap.size w W) => (show Calls Tryz.prog 27 #[.int .i64 1, .string room] W fun e wq => e = .returned (.bool (isB 1 room.data.toList)) ∧ Below W.heap.size W wq from is_calls W 1 room (by omega) hr (hm.below h hpos)))
  rw [h2] at HI2
  clear h2
  have HI3 := Lib.hid (fun (W : World) (h : Below w.heap.size w W) => (show Calls Tryz.prog 27 #[.int .i64 2, .string by_] W fun e wq => e = .returned (.bool (isB 2 by_.data.toList)) ∧ Below W.heap.size W wq from is_calls W 2 by_ (by omega) hb (hm.below h hpos)))
  rw [h3] at HI3
  clear h3
  have HEL := Lib.hid (ents_length l)
  clear ht hm
  go_enter Tryz.func24, Tryz.ntmps24
  go_wp2_with (at_lookup; refine lookupS_ok _ rfl _ _ 78 rfl 9 49 Tryz.underlying9 Tryz.underlying78 _ (zeroEn _) b (ents l) rfl HT.out.mp k rfl hkm _ ok HV.out HOK.out ?_)
  have HB0 := Lib.hid (show Below w.heap.size w (w.alloc (.cells #[.string (x).a, .string (x).r, .string (x).b] 49)) from (Below.refl _ _).alloc (Nat.le_refl _) _)
  with_reducible refine (HI1.out _ HB0.out).mono ?_
  rintro e w1 ⟨rfl, hb1⟩
  have HB1 := Lib.hid (HB0.out.trans (hb1.mono HB0.out.size))
  clear hb1 HI1
  go_wp2_with fail
  with_reducible refine (HI2.out _ HB1.out).mono ?_
  rintro e w2 ⟨rfl, hb2⟩
  have HB2 := Lib.hid (HB1.out.trans (hb2.mono HB1.out.size))
  clear hb2 HI2
  go_wp2_with fail
  with_reducible refine (HI3.out _ HB2.out).mono ?_
  rintro e w3 ⟨rfl, hb3⟩
  have HB3 := Lib.hid (HB2.out.trans (hb3.mono HB2.out.size))
  clear hb3 HI3
  go_wp2_with fail
  refine (in_code w3 sUser 7).mono ?_
  rintro e wz ⟨v, rfl, hv, hbz⟩
  have HVV := Lib.hid hv
  have HBZ := Lib.hid (HB3.out.trans (hbz.mono HB3.out.size))
  clear hv hbz
  go_wp2_with fail
  go_ret
  exact ⟨v, rfl, HVV.out.mono (fun i _ h => Nat.le_trans HB3.out.size h), HT.out.below HBZ.out, HBZ.out⟩
set_option maxRecDepth 100000 in
set_option maxHeartbeats 1000000 in
theorem add_server (w : World) (g b : Nat) (server : ByteArray) (most : Int) (l : List En) (k room by_ : ByteArray) (ht : Tab w g b server most l) (hk : k.size < 4294967281) (hr : room.size < 4294967281) (hb : by_.size < 4294967281) (hm : Mx w) (h1 : isB 3 k.data.toList = true) (h2 : isB 1 room.data.toList = true) (h3 : isB 2 by_.data.toList = true) (h4 : ((ofL (ofB k.data.toList)).toList == server.toList) = false) :
    Calls Tryz.prog 24 #[.pointer (some ⟨g, 0, none⟩), .string k, .string room, .string by_] w fun e w' => ∃ v, e = .returned v ∧ ErrV w' (fun i => w.heap.size ≤ i) v (some ([sAlias], 22)) ∧ Tab w' g b server most l ∧ Below w.heap.size w w' := by
  have HT := Lib.hid ht
  have HM := Lib.hid hm
  have hpos := hm.pos
  have hkm : k.size ≤ maxLen := by unfold maxLen; omega
  have hgl := blk_lt ht.blk
  have k2 := cell_at (j := 2) ht.blk rfl
  have HNE := Lib.hid ht.ne
  obtain ⟨x, ok, hv, hok⟩ : ∃ (x : En) (ok : Bool), (getS (ents l) k).getD (.agg enZ.cells) = .agg x.cells ∧ (getS (ents l) k).isSome = ok := by
    rw [ents_get]
    cases getE l k with
    | none => exact ⟨enZ, _, rfl, rfl⟩
    | some x => exact ⟨x, _, rfl, rfl⟩
  have HV := Lib.hid hv
  have HOK := Lib.hid hok
  clear hv hok
  have HI1 := Lib.hid (fun (W : World) (h : Below w.heap.size w W) => (show Calls Tryz.prog 27 #[.int .i64 3, .string k] W fun e wq => e = .returned (.bool (isB 3 k.data.toList)) ∧ Below W.heap.size W wq from is_calls W 3 k (by omega) hk (hm.below h hpos)))
  rw [h1] at HI1
  clear h1
  have HI2 := Lib.hid (fun (W : World) (h : Below w.heap.size w W) => (show Calls Tryz.prog 27 #[.int .i64 1, .string room] W fun e wq => e = .returned (.bool (isB 1 room.data.toList)) ∧ Below W.heap.size W wq from is_calls W 1 room (by omega) hr (hm.below h hpos)))
  rw [h2] at HI2
  clear h2
  have HI3 := Lib.hid (fun (W : World) (h : Below w.heap.size w W) => (show Calls Tryz.prog 27 #[.int .i64 2, .string by_] W fun e wq => e = .returned (.bool (isB 2 by_.data.toList)) ∧ Below W.heap.size W wq from is_calls W 2 by_ (by omega) hb (hm.below h hpos)))
  rw [h3] at HI3
  clear h3
  have HOF := Lib.hid (fun (W : World) (h : Below w.heap.size w W) => of_calls W k hk (hm.below h hpos))
  generalize ofL (ofB k.data.toList) = host at *
  have HEL := Lib.hid (ents_length l)
  clear ht hm
  go_enter Tryz.func24, Tryz.ntmps24
  go_wp2_with (at_lookup; refine lookupS_ok _ rfl _ _ 78 rfl 9 49 Tryz.underlying9 Tryz.underlying78 _ (zeroEn _) b (ents l) rfl HT.out.mp k rfl hkm _ ok HV.out HOK.out ?_)
  have HB0 := Lib.hid (show Below w.heap.size w (w.alloc (.cells #[.string (x).a, .string (x).r, .string (x).b] 49)) from (Below.refl _ _).alloc (Nat.le_refl _) _)
  with_reducible refine (HI1.out _ HB0.out).mono ?_
  rintro e w1 ⟨rfl, hb1⟩
  have HB1 := Lib.hid (HB0.out.trans (hb1.mono HB0.out.size))
  clear hb1 HI1
  go_wp2_with fail
  with_reducible refine (HI2.out _ HB1.out).mono ?_
  rintro e w2 ⟨rfl, hb2⟩
  have HB2 := Lib.hid (HB1.out.trans (hb2.mono HB1.out.size))
  clear hb2 HI2
  go_wp2_with fail
  with_reducible refine (HI3.out _ HB2.out).mono ?_
  rintro e w3 ⟨rfl, hb3⟩
  have HB3 := Lib.hid (HB2.out.trans (hb3.mono HB2.out.size))
  clear hb3 HI3
  go_wp2_with fail
  have hgw := Nat.lt_of_lt_of_le hgl HB3.out.size
  have fp0 : ∀ p : BelW w3, p.world.cell? ⟨g, 0, none⟩ = some (.string server) := fun p => (p.h.cell (p := ⟨g, 0, none⟩) hgw).trans (cell_at (HT.out.below HB3.out).blk rfl)
  refine wp_region_quiet_bel (by kernel_rfl) (by kernel_rfl) ?_
  repeat (quiet_step (with_reducible exact Calls.bel_of (HOF.out _ (HB3.out.trans ((BelW.h _).mono HB3.out.size)))))
  refine wpQuiet_nil ?_
  intro _ hw'
  obtain ⟨p, rfl⟩ := hw'
  have HP := Lib.hid (HB3.out.trans (p.h.mono HB3.out.size))
  obtain ⟨w4, hw4⟩ : ∃ w4, w4 = p.world := ⟨_, rfl⟩
  rw [← hw4] at HP
  rw [← hw4]
  clear fp0 HOF hw4
  have HT4 := Lib.hid (HT.out.below HP.out)
  have k2 := cell_at (j := 2) HT4.out.blk rfl
  have k1 := cell_at (j := 1) HT4.out.blk rfl
  have hg4 := blk_lt HT4.out.blk
  go_wp2_with fail
  refine (in_code w4 sAlias 22).mono ?_
  rintro e wz ⟨v, rfl, hv, hbz⟩
  have HVV := Lib.hid hv
  have HBZ := Lib.hid (HP.out.trans (hbz.mono HP.out.size))
  clear hv hbz
  go_wp2_with fail
  go_ret
  exact ⟨v, rfl, HVV.out.mono (fun i _ h => Nat.le_trans HP.out.size h), HT.out.below HBZ.out, HBZ.out⟩
set_option maxRecDepth 100000 in
set_option maxHeartbeats 1000000 in
theorem add_there (w : World) (g b : Nat) (server : ByteArray) (most : Int) (l : List En) (k room by_ : ByteArray) (ht : Tab w g b server most l) (hk : k.size < 4294967281) (hr : room.size < 4294967281) (hb : by_.size < 4294967281) (hm : Mx w) (h1 : isB 3 k.data.toList = true) (h2 : isB 1 room.data.toList = true) (h3 : isB 2 by_.data.toList = true) (h4 : ((ofL (ofB k.data.toList)).toList == server.toList) = true) (x : En) (h5 : getE l k = some x) :
    Calls Tryz.prog 24 #[.pointer (some ⟨g, 0, none⟩), .string k, .string room, .string by_] w fun e w' => e = .returned (.iface 67 (.int .i64 15)) ∧ Tab w' g b server most l ∧ Below w.heap.size w w' := by
  have HT := Lib.hid ht
  have HM := Lib.hid hm
  have hpos := hm.pos
  have hkm : k.size ≤ maxLen := by unfold maxLen; omega
  have hgl := blk_lt ht.blk
  have k2 := cell_at (j := 2) ht.blk rfl
  have HNE := Lib.hid ht.ne
  have HV := Lib.hid (show (getS (ents l) k).getD (.agg enZ.cells) = .agg (x).cells by rw [ents_get, h5]; rfl)
  have HOK := Lib.hid (show (getS (ents l) k).isSome = true by rw [ents_get, h5]; rfl)
  have HI1 := Lib.hid (fun (W : World) (h : Below w.heap.size w W) => (show Calls Tryz.prog 27 #[.int .i64 3, .string k] W fun e wq => e = .returned (.bool (isB 3 k.data.toList)) ∧ Below W.heap.size W wq from is_calls W 3 k (by omega) hk (hm.below h hpos)))
  rw [h1] at HI1
  clear h1
  have HI2 := Lib.hid (fun (W : World) (h : Below w.heap.size w W) => (show Calls Tryz.prog 27 #[.int .i64 1, .string room] W fun e wq => e = .returned (.bool (isB 1 room.data.toList)) ∧ Below W.heap.size W wq from is_calls W 1 room (by omega) hr (hm.below h hpos)))
  rw [h2] at HI2
  clear h2
  have HI3 := Lib.hid (fun (W : World) (h : Below w.heap.size w W) => (show Calls Tryz.prog 27 #[.int .i64 2, .string by_] W fun e wq => e = .returned (.bool (isB 2 by_.data.toList)) ∧ Below W.heap.size W wq from is_calls W 2 by_ (by omega) hb (hm.below h hpos)))
  rw [h3] at HI3
  clear h3
  have HOF := Lib.hid (fun (W : World) (h : Below w.heap.size w W) => of_calls W k hk (hm.below h hpos))
  generalize ofL (ofB k.data.toList) = host at *
  have H5 := Lib.hid h5
  clear h5
  have HEL := Lib.hid (ents_length l)
  clear ht hm
  go_enter Tryz.func24, Tryz.ntmps24
  go_wp2_with (at_lookup; refine lookupS_ok _ rfl _ _ 78 rfl 9 49 Tryz.underlying9 Tryz.underlying78 _ (zeroEn _) b (ents l) rfl HT.out.mp k rfl hkm _ true HV.out HOK.out ?_)
  have HB0 := Lib.hid (show Below w.heap.size w (w.alloc (.cells #[.string (x).a, .string (x).r, .string (x).b] 49)) from (Below.refl _ _).alloc (Nat.le_refl _) _)
  with_reducible refine (HI1.out _ HB0.out).mono ?_
  rintro e w1 ⟨rfl, hb1⟩
  have HB1 := Lib.hid (HB0.out.trans (hb1.mono HB0.out.size))
  clear hb1 HI1
  go_wp2_with fail
  with_reducible refine (HI2.out _ HB1.out).mono ?_
  rintro e w2 ⟨rfl, hb2⟩
  have HB2 := Lib.hid (HB1.out.trans (hb2.mono HB1.out.size))
  clear hb2 HI2
  go_wp2_with fail
  with_reducible refine (HI3.out _ HB2.out).mono ?_
  rintro e w3 ⟨rfl, hb3⟩
  have HB3 := Lib.hid (HB2.out.trans (hb3.mono HB2.out.size))
  clear hb3 HI3
  go_wp2_with fail
  have hgw := Nat.lt_of_lt_of_le hgl HB3.out.size
  have fp0 : ∀ p : BelW w3, p.world.cell? ⟨g, 0, none⟩ = some (.string server) := fun p => (p.h.cell (p := ⟨g, 0, none⟩) hgw).trans (cell_at (HT.out.below HB3.out).blk rfl)
  refine wp_region_quiet_bel (by kernel_rfl) (by kernel_rfl) ?_
  repeat (quiet_step (with_reducible exact Calls.bel_of (HOF.out _ (HB3.out.trans ((BelW.h _).mono HB3.out.size)))))
  refine wpQuiet_nil ?_
  intro _ hw'
  obtain ⟨p, rfl⟩ := hw'
  have HP := Lib.hid (HB3.out.trans (p.h.mono HB3.out.size))
  obtain ⟨w4, hw4⟩ : ∃ w4, w4 = p.world := ⟨_, rfl⟩
  rw [← hw4] at HP
  rw [← hw4]
  clear fp0 HOF hw4
  have HT4 := Lib.hid (HT.out.below HP.out)
  have k2 := cell_at (j := 2) HT4.out.blk rfl
  have k1 := cell_at (j := 1) HT4.out.blk rfl
  have hg4 := blk_lt HT4.out.blk
  go_wp2_with fail
  go_ret
  exact ⟨rfl, HT4.out, HP.out⟩
set_option maxRecDepth 100000 in
set_option maxHeartbeats 1000000 in
theorem add_full (w : World) (g b : Nat) (server : ByteArray) (most : Int) (l : List En) (k room by_ : ByteArray) (ht : Tab w g b server most l) (hk : k.size < 4294967281) (hr : room.size < 4294967281) (hb : by_.size < 4294967281) (hm : Mx w) (h1 : isB 3 k.data.toList = true) (h2 : isB 1 room.data.toList = true) (h3 : isB 2 by_.data.toList = true) (h4 : ((ofL (ofB k.data.toList)).toList == server.toList) = true) (h5 : getE l k = none) (h6 : most ≤ l.length) :
    Calls Tryz.prog 24 #[.pointer (some ⟨g, 0, none⟩), .string k, .string room, .string by_] w fun e w' => e = .returned (.iface 67 (.int .i64 14)) ∧ Tab w' g b server most l ∧ Below w.heap.size w w' := by
  have HT := Lib.hid ht
  have HM := Lib.hid hm
  have hpos := hm.pos
  have hkm : k.size ≤ maxLen := by unfold maxLen; omega
  have hgl := blk_lt ht.blk
  have k2 := cell_at (j := 2) ht.blk rfl
  have HNE := Lib.hid ht.ne
  have HV := Lib.hid (show (getS (ents l) k).getD (.agg enZ.cells) = .agg (enZ).cells by rw [ents_get, h5]; rfl)
  have HOK := Lib.hid (show (getS (ents l) k).isSome = false by rw [ents_get, h5]; rfl)
  have HI1 := Lib.hid (fun (W : World) (h : Below w.heap.size w W) => (show Calls Tryz.prog 27 #[.int .i64 3, .string k] W fun e wq => e = .returned (.bool (isB 3 k.data.toList)) ∧ Below W.heap.size W wq from is_calls W 3 k (by omega) hk (hm.below h hpos)))
  rw [h1] at HI1
  clear h1
  have HI2 := Lib.hid (fun (W : World) (h : Below w.heap.size w W) => (show Calls Tryz.prog 27 #[.int .i64 1, .string room] W fun e wq => e = .returned (.bool (isB 1 room.data.toList)) ∧ Below W.heap.size W wq from is_calls W 1 room (by omega) hr (hm.below h hpos)))
  rw [h2] at HI2
  clear h2
  have HI3 := Lib.hid (fun (W : World) (h : Below w.heap.size w W) => (show Calls Tryz.prog 27 #[.int .i64 2, .string by_] W fun e wq => e = .returned (.bool (isB 2 by_.data.toList)) ∧ Below W.heap.size W wq from is_calls W 2 by_ (by omega) hb (hm.below h hpos)))
  rw [h3] at HI3
  clear h3
  have HOF := Lib.hid (fun (W : World) (h : Below w.heap.size w W) => of_calls W k hk (hm.below h hpos))
  generalize ofL (ofB k.data.toList) = host at *
  have H5 := Lib.hid h5
  clear h5
  have g6 : decide (most ≤ (l.length : Int)) = true := by simp; omega
  have HEL := Lib.hid (ents_length l)
  clear ht hm
  go_enter Tryz.func24, Tryz.ntmps24
  go_wp2_with (at_lookup; refine lookupS_ok _ rfl _ _ 78 rfl 9 49 Tryz.underlying9 Tryz.underlying78 _ (zeroEn _) b (ents l) rfl HT.out.mp k rfl hkm _ false HV.out HOK.out ?_)
  have HB0 := Lib.hid (show Below w.heap.size w (w.alloc (.cells #[.string (enZ).a, .string (enZ).r, .string (enZ).b] 49)) from (Below.refl _ _).alloc (Nat.le_refl _) _)
  with_reducible refine (HI1.out _ HB0.out).mono ?_
  rintro e w1 ⟨rfl, hb1⟩
  have HB1 := Lib.hid (HB0.out.trans (hb1.mono HB0.out.size))
  clear hb1 HI1
  go_wp2_with fail
  with_reducible refine (HI2.out _ HB1.out).mono ?_
  rintro e w2 ⟨rfl, hb2⟩
  have HB2 := Lib.hid (HB1.out.trans (hb2.mono HB1.out.size))
  clear hb2 HI2
  go_wp2_with fail
  with_reducible refine (HI3.out _ HB2.out).mono ?_
  rintro e w3 ⟨rfl, hb3⟩
  have HB3 := Lib.hid (HB2.out.trans (hb3.mono HB2.out.size))
  clear hb3 HI3
  go_wp2_with fail
  have hgw := Nat.lt_of_lt_of_le hgl HB3.out.size
  have fp0 : ∀ p : BelW w3, p.world.cell? ⟨g, 0, none⟩ = some (.string server) := fun p => (p.h.cell (p := ⟨g, 0, none⟩) hgw).trans (cell_at (HT.out.below HB3.out).blk rfl)
  refine wp_region_quiet_bel (by kernel_rfl) (by kernel_rfl) ?_
  repeat (quiet_step (with_reducible exact Calls.bel_of (HOF.out _ (HB3.out.trans ((BelW.h _).mono HB3.out.size)))))
  refine wpQuiet_nil ?_
  intro _ hw'
  obtain ⟨p, rfl⟩ := hw'
  have HP := Lib.hid (HB3.out.trans (p.h.mono HB3.out.size))
  obtain ⟨w4, hw4⟩ : ∃ w4, w4 = p.world := ⟨_, rfl⟩
  rw [← hw4] at HP
  rw [← hw4]
  clear fp0 HOF hw4
  have HT4 := Lib.hid (HT.out.below HP.out)
  have k2 := cell_at (j := 2) HT4.out.blk rfl
  have k1 := cell_at (j := 1) HT4.out.blk rfl
  have hg4 := blk_lt HT4.out.blk
  go_wp2_with fail
  have hb4 := HT4.out.mp.lt
  have fq1 : ∀ p : BelW w4, p.world.cell? ⟨g, 1, none⟩ = some (.int .i64 most) := fun p => (p.h.cell (p := ⟨g, 1, none⟩) hg4).trans (cell_at HT4.out.blk rfl)
  have fq2 : ∀ p : BelW w4, p.world.cell? ⟨g, 2, none⟩ = some (.map (some b)) := fun p => (p.h.cell (p := ⟨g, 2, none⟩) hg4).trans (cell_at HT4.out.blk rfl)
  have fql : ∀ p : BelW w4, (Builtin.len_ #[78] 3 #[.map (some b)]).run Tryz.prog p.world = .ok (.int .i64 l.length) p.world := fun p => by
    have := World.ownsMap.len (H := Value) (HT4.out.mp.below p.h hb4) Tryz.underlying78 3
    rw [MD_size, HEL.out] at this
    exact this
  refine wp_region_quiet_bel (by kernel_rfl) (by kernel_rfl) ?_
  repeat (quiet_step (fail))
  refine wpQuiet_nil ?_
  intro _ hw'
  obtain ⟨p, rfl⟩ := hw'
  have HP2 := Lib.hid (HP.out.trans (p.h.mono HP.out.size))
  obtain ⟨w5, hw5⟩ : ∃ w5, w5 = p.world := ⟨_, rfl⟩
  rw [← hw5] at HP2
  rw [← hw5]
  clear fq1 fq2 fql hw5
  have HT5 := Lib.hid (HT.out.below HP2.out)
  have k2 := cell_at (j := 2) HT5.out.blk rfl
  have hg5 := blk_lt HT5.out.blk
  go_wp2_with fail
  go_ret
  exact ⟨rfl, HT5.out, HP2.out⟩
set_option maxRecDepth 100000 in
set_option maxHeartbeats 1000000 in
theorem add_ok (w : World) (g b : Nat) (server : ByteArray) (most : Int) (l : List En) (k room by_ : ByteArray) (ht : Tab w g b server most l) (hk : k.size < 4294967281) (hr : room.size < 4294967281) (hb : by_.size < 4294967281) (hm : Mx w) (h1 : isB 3 k.data.toList = true) (h2 : isB 1 room.data.toList = true) (h3 : isB 2 by_.data.toList = true) (h4 : ((ofL (ofB k.data.toList)).toList == server.toList) = true) (h5 : getE l k = none) (h6 : (l.length : Int) < most) (h7 : l.length < maxLen) :
    Calls Tryz.prog 24 #[.pointer (some ⟨g, 0, none⟩), .string k, .string room, .string by_] w fun e w' => e = .returned .nilIface ∧ Tab w' g b server most (insE ⟨k, room, by_⟩ l) ∧ Fr (fun i => i = b) w w' := by
  have HT := Lib.hid ht
  have HM := Lib.hid hm
  have hpos := hm.pos
  have hkm : k.size ≤ maxLen := by unfold maxLen; omega
  have hgl := blk_lt ht.blk
  have k2 := cell_at (j := 2) ht.blk rfl
  have HNE := Lib.hid ht.ne
  have HV := Lib.hid (show (getS (ents l) k).getD (.agg enZ.cells) = .agg (enZ).cells by rw [ents_get, h5]; rfl)
  have HOK := Lib.hid (show (getS (ents l) k).isSome = false by rw [ents_get, h5]; rfl)
  have HI1 := Lib.hid (fun (W : World) (h : Below w.heap.size w W) => (show Calls Tryz.prog 27 #[.int .i64 3, .string k] W fun e wq => e = .returned (.bool (isB 3 k.data.toList)) ∧ Below W.heap.size W wq from is_calls W 3 k (by omega) hk (hm.below h hpos)))
  rw [h1] at HI1
  clear h1
  have HI2 := Lib.hid (fun (W : World) (h : Below w.heap.size w W) => (show Calls Tryz.prog 27 #[.int .i64 1, .string room] W fun e wq => e = .returned (.bool (isB 1 room.data.toList)) ∧ Below W.heap.size W wq from is_calls W 1 room (by omega) hr (hm.below h hpos)))
  rw [h2] at HI2
  clear h2
  have HI3 := Lib.hid (fun (W : World) (h : Below w.heap.size w W) => (show Calls Tryz.prog 27 #[.int .i64 2, .string by_] W fun e wq => e = .returned (.bool (isB 2 by_.data.toList)) ∧ Below W.heap.size W wq from is_calls W 2 by_ (by omega) hb (hm.below h hpos)))
  rw [h3] at HI3
  clear h3
  have HOF := Lib.hid (fun (W : World) (h : Below w.heap.size w W) => of_calls W k hk (hm.below h hpos))
  generalize ofL (ofB k.data.toList) = host at *
  have H5 := Lib.hid h5
  clear h5
  have g6 : decide (most ≤ (l.length : Int)) = false := by simp; omega
  have H7 := Lib.hid h7
  clear h7
  have HEL := Lib.hid (ents_length l)
  clear ht hm
  go_enter Tryz.func24, Tryz.ntmps24
  go_wp2_with (at_lookup; refine lookupS_ok _ rfl _ _ 78 rfl 9 49 Tryz.underlying9 Tryz.underlying78 _ (zeroEn _) b (ents l) rfl HT.out.mp k rfl hkm _ false HV.out HOK.out ?_)
  have HB0 := Lib.hid (show Below w.heap.size w (w.alloc (.cells #[.string (enZ).a, .string (enZ).r, .string (enZ).b] 49)) from (Below.refl _ _).alloc (Nat.le_refl _) _)
  with_reducible refine (HI1.out _ HB0.out).mono ?_
  rintro e w1 ⟨rfl, hb1⟩
  have HB1 := Lib.hid (HB0.out.trans (hb1.mono HB0.out.size))
  clear hb1 HI1
  go_wp2_with fail
  with_reducible refine (HI2.out _ HB1.out).mono ?_
  rintro e w2 ⟨rfl, hb2⟩
  have HB2 := Lib.hid (HB1.out.trans (hb2.mono HB1.out.size))
  clear hb2 HI2
  go_wp2_with fail
  with_reducible refine (HI3.out _ HB2.out).mono ?_
  rintro e w3 ⟨rfl, hb3⟩
  have HB3 := Lib.hid (HB2.out.trans (hb3.mono HB2.out.size))
  clear hb3 HI3
  go_wp2_with fail
  have hgw := Nat.lt_of_lt_of_le hgl HB3.out.size
  have fp0 : ∀ p : BelW w3, p.world.cell? ⟨g, 0, none⟩ = some (.string server) := fun p => (p.h.cell (p := ⟨g, 0, none⟩) hgw).trans (cell_at (HT.out.below HB3.out).blk rfl)
  refine wp_region_quiet_bel (by kernel_rfl) (by kernel_rfl) ?_
  repeat (quiet_step (with_reducible exact Calls.bel_of (HOF.out _ (HB3.out.trans ((BelW.h _).mono HB3.out.size)))))
  refine wpQuiet_nil ?_
  intro _ hw'
  obtain ⟨p, rfl⟩ := hw'
  have HP := Lib.hid (HB3.out.trans (p.h.mono HB3.out.size))
  obtain ⟨w4, hw4⟩ : ∃ w4, w4 = p.world := ⟨_, rfl⟩
  rw [← hw4] at HP
  rw [← hw4]
  clear fp0 HOF hw4
  have HT4 := Lib.hid (HT.out.below HP.out)
  have k2 := cell_at (j := 2) HT4.out.blk rfl
  have k1 := cell_at (j := 1) HT4.out.blk rfl
  have hg4 := blk_lt HT4.out.blk
  go_wp2_with fail
  have hb4 := HT4.out.mp.lt
  have fq1 : ∀ p : BelW w4, p.world.cell? ⟨g, 1, none⟩ = some (.int .i64 most) := fun p => (p.h.cell (p := ⟨g, 1, none⟩) hg4).trans (cell_at HT4.out.blk rfl)
  have fq2 : ∀ p : BelW w4, p.world.cell? ⟨g, 2, none⟩ = some (.map (some b)) := fun p => (p.h.cell (p := ⟨g, 2, none⟩) hg4).trans (cell_at HT4.out.blk rfl)
  have fql : ∀ p : BelW w4, (Builtin.len_ #[78] 3 #[.map (some b)]).run Tryz.prog p.world = .ok (.int .i64 l.length) p.world := fun p => by
    have := World.ownsMap.len (H := Value) (HT4.out.mp.below p.h hb4) Tryz.underlying78 3
    rw [MD_size, HEL.out] at this
    exact this
  refine wp_region_quiet_bel (by kernel_rfl) (by kernel_rfl) ?_
  repeat (quiet_step (fail))
  refine wpQuiet_nil ?_
  intro _ hw'
  obtain ⟨p, rfl⟩ := hw'
  have HP2 := Lib.hid (HP.out.trans (p.h.mono HP.out.size))
  obtain ⟨w5, hw5⟩ : ∃ w5, w5 = p.world := ⟨_, rfl⟩
  rw [← hw5] at HP2
  rw [← hw5]
  clear fq1 fq2 fql hw5
  have HT5 := Lib.hid (HT.out.below HP2.out)
  have k2 := cell_at (j := 2) HT5.out.blk rfl
  have hg5 := blk_lt HT5.out.blk
  go_wp2_with (at_mapUpdate; refine updateS _ rfl _ _ _ 78 rfl 9 49 Tryz.underlying9 Tryz.underlying78 b (ents l) rfl ?cm ?cn k rfl hkm _ rfl ?_)
  case cm => exact HT5.out.mp
  case cn => rw [HEL.out]; exact H7.out
  intro w6 hm6 hturn
  have HFR := Lib.hid (Fr.of_turned (S := fun i => i = b) (P := Tryz.prog) (kt := 9) HT5.out.mp hturn rfl)
  have HM6 := Lib.hid hm6
  clear hm6 hturn
  go_wp2_with fail
  go_ret
  refine ⟨rfl, ⟨?_, ?_⟩, (Fr.of_below HP2.out).trans HFR.out⟩
  · exact (HFR.out.block g hg5 HNE.out).trans HT5.out.blk
  · rw [← ents_put ⟨k, room, by_⟩ rfl H5.out]; exact HM6.out
end Go.Proofs.YtgnoaeldmpbjmaaGreatDoor
