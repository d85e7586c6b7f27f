/- power.Change: why a user may not make a change. -/
import Derived.Test.YtiehdfokcnphdaaGreatDoorCh
import Derived.Test.YtiehdfokcnphdaaGreatDoorPn
import Derived.Deep.QuietTactic
import Derived.BigQuiet
import Derived.Laws.Pointers
set_option linter.unusedVariables false
set_option linter.unusedSimpArgs false
namespace Go.Proofs.YtiehdfokcnphdaaGreatDoor
open Go.RowKit Go.Shelf Go.Sort

def numAt (x : Lv) : Nat → Int
  | 0 => x.ban | 1 => x.kick | 2 => x.redact | 3 => x.invite | 4 => x.state | 5 => x.event | 6 => x.user | _ => 0
theorem num_cell (x : Lv) {j : Nat} (hj : j < 7) : x.cells[j]? = some (.int .i64 (numAt x j)) := by
  match j, hj with
  | 0, _ => rfl
  | 1, _ => rfl
  | 2, _ => rfl
  | 3, _ => rfl
  | 4, _ => rfl
  | 5, _ => rfl
  | 6, _ => rfl
/-- What a part's error is. -/
def PtE (by_ : ByteArray) (p : Int) (x y : Lv) (ex ux ey uy : List Nm) (pt : Pt) (er : Er) : Prop :=
  match pt.num, pt.lst with
  | some j, _ => er = if numN (numAt x j) (numAt y j) p then some ([pt.key], 22) else none
  | none, some j => ∃ ys : List Nm, ys.Perm ((if j = 8 then ux else ex) ++ (if j = 8 then uy else ey)) ∧ ys.Pairwise (fun a b => ltOf cmpN b a = false) ∧ er = (listE by_ p (decide (j = 8)) (if j = 8 then ux else ex) (if j = 8 then uy else ey) ys).map fun q => (pt.key :: q.1, q.2)
  | none, none => False
/-- What is wrong first with a change. -/
def ChE (by_ : ByteArray) (p : Int) (x y : Lv) (ex ux ey uy : List Nm) (er : Er) : Prop :=
  (er = none ∧ ∀ pt ∈ pts, PtE by_ p x y ex ux ey uy pt none) ∨ ∃ (k : Nat) (pt : Pt) (e : Er), pts[k]? = some pt ∧ (∀ (i : Nat) (q : Pt), i < k → pts[i]? = some q → PtE by_ p x y ex ux ey uy q none) ∧ PtE by_ p x y ex ux ey uy pt e ∧ e ≠ none ∧ er = e
def usersB : ByteArray := ⟨#[117, 115, 101, 114, 115]⟩
theorem users_list : usersB.toList = [117, 115, 101, 114, 115] := by kernel_rfl
theorem pts_form : ∀ pt ∈ pts, (∃ j, pt.num = some j ∧ pt.lst = none ∧ j < 7) ∨ (pt.num = none ∧ pt.lst = some 7 ∧ (pt.key.toList == usersB.toList) = false) ∨ (pt.num = none ∧ pt.lst = some 8 ∧ (pt.key.toList == usersB.toList) = true) := by
  intro pt h
  unfold pts at h
  simp only [List.mem_cons, List.not_mem_nil, or_false] at h
  rcases h with rfl | rfl | rfl | rfl | rfl | rfl | rfl | rfl | rfl
  · exact .inl ⟨0, rfl, rfl, by omega⟩
  · exact .inr (.inl ⟨rfl, rfl, by decide +kernel⟩)
  · exact .inl ⟨5, rfl, rfl, by omega⟩
  · exact .inl ⟨3, rfl, rfl, by omega⟩
  · exact .inl ⟨1, rfl, rfl, by omega⟩
  · exact .inl ⟨2, rfl, rfl, by omega⟩
  · exact .inl ⟨4, rfl, rfl, by omega⟩
  · exact .inr (.inr ⟨rfl, rfl, by decide +kernel⟩)
  · exact .inl ⟨6, rfl, rfl, by omega⟩
set_option maxRecDepth 100000 in
set_option maxHeartbeats 8000000 in
theorem change_calls (w : World) (x y : Lv) (by_ : ByteArray) (P : Nat → Prop) (ex ux ey uy : List Nm) (h1 : RowOf w P 91 2 x.events (ncells ex)) (h2 : RowOf w P 91 2 x.users (ncells ux)) (h3 : RowOf w P 91 2 y.events (ncells ey)) (h4 : RowOf w P 91 2 y.users (ncells uy))
    (hke : ex.length + ey.length ≤ 1000000) (hku : ux.length + uy.length ≤ 1000000) :
    Calls Tryz.prog 7 #[.agg x.cells, .agg y.cells, .string by_] w fun e w' => ∃ (v : Value) (er : Er), e = .returned v ∧ ChE by_ ((findN ux by_).getD x.user) x y ex ux ey uy er ∧ ErrV w' (fun g => w.heap.size ≤ g) v er ∧ Below w.heap.size w w' := by
  obtain ⟨pp, hpp⟩ : ∃ pp, pp = (findN ux by_).getD x.user := ⟨_, rfl⟩
  rw [← hpp]
  obtain ⟨w2, hw2⟩ : ∃ w2 : World, w2 = (w.alloc (.cells x.cells 33)).alloc (.cells y.cells 33) := ⟨_, rfl⟩
  have hb2 : Below w.heap.size w w2 := by rw [hw2]; exact ((Below.refl _ _).alloc (Nat.le_refl _) _).alloc (by simp) _
  have hx2 : w2.heap[w.heap.size]? = some (.cells x.cells 33 (0, 0)) := by rw [hw2]; exact (heap_old_at _ _ _ (by simp)).trans (heap_new_at _ _ _ rfl)
  have hy2 : w2.heap[w.heap.size + 1]? = some (.cells y.cells 33 (0, 0)) := by rw [hw2]; exact heap_new_at _ _ _ (by simp)
  have HU := Lib.hid (show Calls Tryz.prog _ #[.agg x.cells, .string by_] w2 fun e w' => e = .returned (.int .i64 pp) ∧ Below w2.heap.size w2 w' from by rw [hpp]; exact user_calls w2 P x ux by_ (h2.same hb2.size (fun g hg _ => hb2.block g hg)))
  have HR := Lib.hid (fun (W : World) (hW : Below w.heap.size w W) => (⟨h1.same hW.size (fun g hg _ => hW.block g hg), h2.same hW.size (fun g hg _ => hW.block g hg), h3.same hW.size (fun g hg _ => hW.block g hg), h4.same hW.size (fun g hg _ => hW.block g hg)⟩ : RowOf W P 91 2 x.events (ncells ex) ∧ RowOf W P 91 2 x.users (ncells ux) ∧ RowOf W P 91 2 y.events (ncells ey) ∧ RowOf W P 91 2 y.users (ncells uy)))
  have HKE := Lib.hid hke
  have HKU := Lib.hid hku
  have HB2 := Lib.hid hb2
  have HX2 := Lib.hid hx2
  have HY2 := Lib.hid hy2
  have HW2 := Lib.hid hw2
  clear h1 h2 h3 h4 hke hku hpp hb2 hx2 hy2 hw2
  go_enter Tryz.func7, Tryz.ntmps7
  go_upto_region 1 with fail
  rw [← HW2.out]
  go_wp2_with (refine wpList_load_at rfl _ _ rfl _ rfl (Lv.cells x) _ (Holds.of_block HX2.out) Tryz.underlying33 rfl (show _ = some 9 from by kernel_rfl) ?_)
  refine HU.out.mono ?_
  rintro e w3 ⟨rfl, hb3⟩
  have HB3 := Lib.hid (HB2.out.trans (hb3.mono HB2.out.size))
  have HB23 := Lib.hid hb3
  clear hb3 HU
  go_wp2_with fail
  refine (parts_calls w3 (w.heap.size + 1)).mono ?_
  rintro e w4 ⟨rfl, hrt, hb4⟩
  have HRT := Lib.hid hrt
  have HB4 := Lib.hid (HB3.out.trans (hb4.mono HB3.out.size))
  have HB24 := Lib.hid (HB23.out.trans (hb4.mono HB23.out.size))
  clear hrt hb4
  go_wp2_with fail
  refine (parts_calls w4 w.heap.size).mono ?_
  rintro e w5 ⟨rfl, hrf, hb5⟩
  have HRF := Lib.hid hrf
  have HRT5 := Lib.hid (HRT.out.same (hb5.block _ HRT.out.lt))
  have HB5 := Lib.hid (HB4.out.trans (hb5.mono HB4.out.size))
  have HB25 := Lib.hid (HB24.out.trans (hb5.mono HB24.out.size))
  clear hrf hb5 HRT HB3 HB4 HB23 HB24
  go_wp2_with fail
  go_loopw [19] (fun i wr => ∃ k : Nat, k ≤ 9 ∧ i = .int .i64 k ∧ (∀ (i : Nat) (q : Pt), i < k → pts[i]? = some q → PtE by_ pp x y ex ux ey uy q none) ∧ Below w5.heap.size w5 wr) (fun i _ => 9 - (intOf i).toNat)
  case atStart => exact ⟨0, by omega, rfl, fun i q h => absurd h (by omega), Below.refl _ _⟩
  case round =>
    obtain ⟨k, hk, rfl, hpre, hb⟩ := hrel
    have HPRE := Lib.hid hpre
    have HB := Lib.hid (HB5.out.trans (hb.mono HB5.out.size))
    by_cases hlt : k < 9
    · have hy : pts[k]? = some (pts[k]'(by unfold pts; simpa using hlt)) := List.getElem?_eq_getElem _
      generalize pts[k]'(by unfold pts; simpa using hlt) = pt at hy
      have hform := pts_form pt (List.mem_of_getElem? hy)
      have HK := Lib.hid hy
      have HNX := Lib.hid (fun (h : PtE by_ pp x y ex ux ey uy pt none) (i : Nat) (q : Pt) (hi : i < k + 1) (hq : pts[i]? = some q) => show PtE by_ pp x y ex ux ey uy q none from by
        by_cases hik : i = k
        · subst hik
          rw [HK.out] at hq
          injection hq with hq
          rw [← hq]
          exact h
        · exact HPRE.out i q (by omega) hq)
      have hrf : (pcells w.heap.size)[k]? = some [.string pt.key, ptrV w.heap.size pt.num, ptrV w.heap.size pt.lst] := by simp [pcells, hy]
      have hrt : (pcells (w.heap.size + 1))[k]? = some [.string pt.key, ptrV (w.heap.size + 1) pt.num, ptrV (w.heap.size + 1) pt.lst] := by simp [pcells, hy]
      have hwf := HRF.out.same (hb.block _ HRF.out.lt)
      have hwt := HRT5.out.same (hb.block _ HRT5.out.lt)
      have f0 : wr.cell? ⟨w4.heap.size, k * 3, none⟩ = some (.string pt.key) := hwf.cell (d := 0) hrf rfl
      have f1 : wr.cell? ⟨w4.heap.size, k * 3 + 1, none⟩ = some (ptrV w.heap.size pt.num) := hwf.cell (d := 1) hrf rfl
      have f2 : wr.cell? ⟨w4.heap.size, k * 3 + 2, none⟩ = some (ptrV w.heap.size pt.lst) := hwf.cell (d := 2) hrf rfl
      have g0 : wr.cell? ⟨w3.heap.size, k * 3, none⟩ = some (.string pt.key) := hwt.cell (d := 0) hrt rfl
      have g1 : wr.cell? ⟨w3.heap.size, k * 3 + 1, none⟩ = some (ptrV (w.heap.size + 1) pt.num) := hwt.cell (d := 1) hrt rfl
      have g2 : wr.cell? ⟨w3.heap.size, k * 3 + 2, none⟩ = some (ptrV (w.heap.size + 1) pt.lst) := hwt.cell (d := 2) hrt rfl
      have hlw3 : w3.heap.size < wr.heap.size := hwt.lt
      have hlw4 : w4.heap.size < wr.heap.size := hwf.lt
      have hb25 := HB25.out.trans (hb.mono HB25.out.size)
      have hxw := (hb25.block _ (blk_lt HX2.out)).trans HX2.out
      have hyw := (hb25.block _ (blk_lt HY2.out)).trans HY2.out
      have hlx := blk_lt hxw
      have hly := blk_lt hyw
      obtain ⟨wa, hwa⟩ : ∃ wa : World, wa = (wr.alloc (.cells #[.string pt.key, ptrV w.heap.size pt.num, ptrV w.heap.size pt.lst] 61)).alloc (.cells #[.string pt.key, ptrV (w.heap.size + 1) pt.num, ptrV (w.heap.size + 1) pt.lst] 61) := ⟨_, rfl⟩
      have hba : Below wr.heap.size wr wa := by rw [hwa]; exact ((Below.refl _ _).alloc (Nat.le_refl _) _).alloc (by simp) _
      have hA : wa.heap[wr.heap.size]? = some (.cells #[.string pt.key, ptrV w.heap.size pt.num, ptrV w.heap.size pt.lst] 61 (0, 0)) := by rw [hwa]; exact (heap_old_at _ _ _ (by simp)).trans (heap_new_at _ _ _ rfl)
      have hBk : wa.heap[wr.heap.size + 1]? = some (.cells #[.string pt.key, ptrV (w.heap.size + 1) pt.num, ptrV (w.heap.size + 1) pt.lst] 61 (0, 0)) := by rw [hwa]; exact heap_new_at _ _ _ (by simp)
      have HWA := Lib.hid hwa
      have HBA := Lib.hid (HB.out.trans (hba.mono HB.out.size))
      have hb5a := hb.trans (hba.mono hb.size)
      have hl10 := blk_lt hA
      have hl11 := blk_lt hBk
      have hxa := (hba.block _ hlx).trans hxw
      have hya := (hba.block _ hly).trans hyw
      have hlf := blk_lt hxa
      have hlt2 := blk_lt hya
      have HHA := Lib.hid hA
      have HHB := Lib.hid hBk
      have HXA := Lib.hid hxa
      have HYA := Lib.hid hya
      clear hy hpre hb hrf hrt hwf hwt hb25 hxw hyw hlx hly hwa hba hA hBk hxa hya
      go_upto_region 7 with fail
      rw [← HWA.out]
      clear f0 f1 f2 g0 g1 g2
      have a0 : wa.cell? ⟨wr.heap.size, 0, none⟩ = some (.string pt.key) := cell_at (j := 0) HHA.out rfl
      have a1 : wa.cell? ⟨wr.heap.size, 1, none⟩ = some (ptrV w.heap.size pt.num) := cell_at (j := 1) HHA.out rfl
      have a2 : wa.cell? ⟨wr.heap.size, 2, none⟩ = some (ptrV w.heap.size pt.lst) := cell_at (j := 2) HHA.out rfl
      have b0 : wa.cell? ⟨wr.heap.size + 1, 0, none⟩ = some (.string pt.key) := cell_at (j := 0) HHB.out rfl
      have b1 : wa.cell? ⟨wr.heap.size + 1, 1, none⟩ = some (ptrV (w.heap.size + 1) pt.num) := cell_at (j := 1) HHB.out rfl
      have b2 : wa.cell? ⟨wr.heap.size + 1, 2, none⟩ = some (ptrV (w.heap.size + 1) pt.lst) := cell_at (j := 2) HHB.out rfl
      rcases hform with ⟨j, hnum, hlst, hj⟩ | hform
      · -- a number
        replace a1 : wa.cell? ⟨wr.heap.size, 1, none⟩ = some (.pointer (some ⟨w.heap.size, j, none⟩)) := by have := a1; rw [hnum] at this; exact this
        replace a2 : wa.cell? ⟨wr.heap.size, 2, none⟩ = some (.pointer none) := by have := a2; rw [hlst] at this; exact this
        replace b1 : wa.cell? ⟨wr.heap.size + 1, 1, none⟩ = some (.pointer (some ⟨w.heap.size + 1, j, none⟩)) := by have := b1; rw [hnum] at this; exact this
        have fj := cell_at (j := j) HXA.out (num_cell x hj)
        have tj := cell_at (j := j) HYA.out (num_cell y hj)
        have HPT := Lib.hid (show ∀ er, er = (if numN (numAt x j) (numAt y j) pp then some ([pt.key], 22) else none) → PtE by_ pp x y ex ux ey uy pt er from fun er h => by unfold PtE; rw [hnum]; exact h)
        generalize numAt x j = av at fj HPT
        generalize numAt y j = bv at tj HPT
        clear hnum hlst HHA HHB HXA HYA
        have HBW5 := Lib.hid (hb5a)
        by_cases hab : av = bv
        · have hne : (av == bv) = true := by simp [hab]
          have hnb : (av != bv) = false := by simp [hab]
          have HOK := Lib.hid (HPT.out none (by unfold numN; simp [hab]))
          subst hab
          go_upto_region 11 with fail
          go_quiet (fail)
          go_wp2_with fail
          exact ⟨⟨k + 1, by omega, by go_num, HNX.out HOK.out, below_drewN' HBW5.out _⟩, by simp [intOf]; omega⟩
        · have hne : (av == bv) = false := by simp [hab]
          have hnb : (av != bv) = true := by simp [hab]
          cases hmx : decide (max av bv > pp) with
          | false =>
            have HOK := Lib.hid (HPT.out none (by unfold numN; simp only [hmx, Bool.and_false]; rfl))
            go_upto_region 11 with fail
            go_quiet (fail)
            go_wp2_with fail
            exact ⟨⟨k + 1, by omega, by go_num, HNX.out HOK.out, below_drewN' HBW5.out _⟩, by simp [intOf]; omega⟩
          | true =>
            have HER := Lib.hid (HPT.out (some ([pt.key], 22)) (by unfold numN; simp only [hmx, decide_eq_false hab]; rfl))
            go_upto_region 11 with fail
            go_quiet (fail)
            go_wp2_with fail
            refine (pin_calls _ (fun _ => False) pt.key _ [] 22 (.code 22)).mono ?_
            rintro e w3' ⟨v', rfl, hf, hb⟩
            have HF := Lib.hid hf
            have HB3 := Lib.hid ((below_drewN' HBA.out nq).trans (hb.mono (by have := HBA.out.size; simpa using this)))
            have hsa := HBA.out.size
            clear hf hb
            go_wp2_with fail
            go_ret
            exact ⟨_, _, rfl, .inr ⟨k, pt, _, HK.out, HPRE.out, HER.out, by simp, rfl⟩, HF.out.mono (fun g _ h => by rcases h with h | h; exact h.elim; (simp at h ⊢; omega)), HB3.out⟩
      · -- a list
        rcases hform with hform | hform
        · obtain ⟨hnum, hlst, hkey⟩ := hform
          replace a2 : wa.cell? ⟨wr.heap.size, 2, none⟩ = some (.pointer (some ⟨w.heap.size, 7, none⟩)) := by have := a2; rw [hlst] at this; exact this
          replace b2 : wa.cell? ⟨wr.heap.size + 1, 2, none⟩ = some (.pointer (some ⟨w.heap.size + 1, 7, none⟩)) := by have := b2; rw [hlst] at this; exact this
          have fj : wa.cell? ⟨w.heap.size, 7, none⟩ = some (.slice x.events.a x.events.n x.events.c) := cell_at (j := 7) HXA.out rfl
          have tj : wa.cell? ⟨w.heap.size + 1, 7, none⟩ = some (.slice y.events.a y.events.n y.events.c) := cell_at (j := 7) HYA.out rfl
          have hku : (pt.key.toList == [117, 115, 101, 114, 115]) = false := by rw [← users_list]; exact hkey
          have HPE := Lib.hid (fun (ys : List Nm) (hp : ys.Perm (ex ++ ey)) (hs : ys.Pairwise (fun a b => ltOf cmpN b a = false)) => show PtE by_ pp x y ex ux ey uy pt ((listE by_ pp false ex ey ys).map fun q => (pt.key :: q.1, q.2)) from by unfold PtE; rw [hnum, hlst]; exact ⟨ys, hp, hs, rfl⟩)
          have HLC := Lib.hid (fun (W : World) (hW : Below wa.heap.size wa W) => list_calls W by_ pp false x.events y.events ex ey P (HR.out W (HBA.out.trans (hW.mono HBA.out.size))).1 (HR.out W (HBA.out.trans (hW.mono HBA.out.size))).2.2.1 HKE.out)
          have HBW5 := Lib.hid (hb5a)
          clear hnum hkey HHA HHB HXA HYA
          go_upto_region 8 with fail
          refine wt_start (S := fun W => Below wa.heap.size wa W) 15 (by kernel_rfl) ⟨by kernel_rfl, by kernel_rfl, by kernel_rfl, by decide⟩ ?_
          intro HTK
          have hS0 : Below wa.heap.size wa wa.drew := (Below.refl _ _).drew
          refine wt_take (i := 0) (v := ?_) HTK.out rfl (by decide) (by kernel_rfl) (by kernel_rfl) (fun _ _ _ h => h) (by exact hS0) (Or.inl ⟨by rfl, ?_⟩) ?_
          rotate_left
          · intro W hSw
            try dsimp only at hSw
            go_simp
            try (with_reducible rfl)
          try simp only [List.getElem_toArray, List.getElem_cons_zero, List.getElem_cons_succ, Act.put, List.setIfInBounds_toArray, List.set_cons_zero, List.set_cons_succ]
          refine wt_take (i := 1) (v := ?_) HTK.out rfl (by decide) (by kernel_rfl) (by kernel_rfl) (fun _ _ _ h => h) (by exact hS0) (Or.inl ⟨by rfl, ?_⟩) ?_
          rotate_left
          · intro W hSw
            try dsimp only at hSw
            go_simp
            try (with_reducible rfl)
          try simp only [List.getElem_toArray, List.getElem_cons_zero, List.getElem_cons_succ, Act.put, List.setIfInBounds_toArray, List.set_cons_zero, List.set_cons_succ]
          refine wt_take (i := 2) (v := ?_) HTK.out rfl (by decide) (by kernel_rfl) (by kernel_rfl) (fun _ _ _ h => h) (by exact hS0) (Or.inl ⟨by rfl, ?_⟩) ?_
          rotate_left
          · intro W hSw
            try dsimp only at hSw
            go_simp
            try (with_reducible rfl)
          try simp only [List.getElem_toArray, List.getElem_cons_zero, List.getElem_cons_succ, Act.put, List.setIfInBounds_toArray, List.set_cons_zero, List.set_cons_succ]
          refine wt_take (i := 3) (v := ?_) HTK.out rfl (by decide) (by kernel_rfl) (by kernel_rfl) (fun _ _ _ h => h) (by exact hS0) (Or.inl ⟨by rfl, ?_⟩) ?_
          rotate_left
          · intro W hSw
            try dsimp only at hSw
            have q0 := (hSw.cell (p := ⟨wr.heap.size, 0, none⟩) (by exact hl10)).trans a0
            go_simp
            try (with_reducible rfl)
          try simp only [List.getElem_toArray, List.getElem_cons_zero, List.getElem_cons_succ, Act.put, List.setIfInBounds_toArray, List.set_cons_zero, List.set_cons_succ]
          refine wt_take (i := 4) (v := ?_) HTK.out rfl (by decide) (by kernel_rfl) (by kernel_rfl) (fun _ _ _ h => h) (by exact hS0) (Or.inl ⟨by rfl, ?_⟩) ?_
          rotate_left
          · intro W hSw
            try dsimp only at hSw
            go_simp
            try (with_reducible rfl)
          try simp only [List.getElem_toArray, List.getElem_cons_zero, List.getElem_cons_succ, Act.put, List.setIfInBounds_toArray, List.set_cons_zero, List.set_cons_succ]
          refine wt_take (i := 5) (v := ?_) HTK.out rfl (by decide) (by kernel_rfl) (by kernel_rfl) (fun _ _ _ h => h) (by exact hS0) (Or.inl ⟨by rfl, ?_⟩) ?_
          rotate_left
          · intro W hSw
            try dsimp only at hSw
            go_simp
            try (with_reducible rfl)
          try simp only [List.getElem_toArray, List.getElem_cons_zero, List.getElem_cons_succ, Act.put, List.setIfInBounds_toArray, List.set_cons_zero, List.set_cons_succ]
          refine wt_take (i := 6) (v := ?_) HTK.out rfl (by decide) (by kernel_rfl) (by kernel_rfl) (fun _ _ _ h => h) (by exact hS0) (Or.inl ⟨by rfl, ?_⟩) ?_
          rotate_left
          · intro W hSw
            try dsimp only at hSw
            go_simp
            try (with_reducible rfl)
          try simp only [List.getElem_toArray, List.getElem_cons_zero, List.getElem_cons_succ, Act.put, List.setIfInBounds_toArray, List.set_cons_zero, List.set_cons_succ]
          refine wt_take (i := 7) (v := ?_) HTK.out rfl (by decide) (by kernel_rfl) (by kernel_rfl) (fun _ _ _ h => h) (by exact hS0) (Or.inl ⟨by rfl, ?_⟩) ?_
          rotate_left
          · intro W hSw
            try dsimp only at hSw
            have q0 := (hSw.cell (p := ⟨wr.heap.size, 2, none⟩) (by exact hl10)).trans a2
            go_simp
            try (with_reducible rfl)
          try simp only [List.getElem_toArray, List.getElem_cons_zero, List.getElem_cons_succ, Act.put, List.setIfInBounds_toArray, List.set_cons_zero, List.set_cons_succ]
          refine wt_take (i := 8) (v := ?_) HTK.out rfl (by decide) (by kernel_rfl) (by kernel_rfl) (fun _ _ _ h => h) (by exact hS0) (Or.inl ⟨by rfl, ?_⟩) ?_
          rotate_left
          · intro W hSw
            try dsimp only at hSw
            go_simp
            try (with_reducible rfl)
          try simp only [List.getElem_toArray, List.getElem_cons_zero, List.getElem_cons_succ, Act.put, List.setIfInBounds_toArray, List.set_cons_zero, List.set_cons_succ]
          refine wt_take (i := 9) (v := ?_) HTK.out rfl (by decide) (by kernel_rfl) (by kernel_rfl) (fun _ _ _ h => h) (by exact hS0) (Or.inl ⟨by rfl, ?_⟩) ?_
          rotate_left
          · intro W hSw
            try dsimp only at hSw
            have q0 := (hSw.cell (p := ⟨w.heap.size, 7, none⟩) (by exact hlf)).trans fj
            go_simp
            try (with_reducible rfl)
          try simp only [List.getElem_toArray, List.getElem_cons_zero, List.getElem_cons_succ, Act.put, List.setIfInBounds_toArray, List.set_cons_zero, List.set_cons_succ]
          refine wt_take (i := 10) (v := ?_) HTK.out rfl (by decide) (by kernel_rfl) (by kernel_rfl) (fun _ _ _ h => h) (by exact hS0) (Or.inl ⟨by rfl, ?_⟩) ?_
          rotate_left
          · intro W hSw
            try dsimp only at hSw
            go_simp
            try (with_reducible rfl)
          try simp only [List.getElem_toArray, List.getElem_cons_zero, List.getElem_cons_succ, Act.put, List.setIfInBounds_toArray, List.set_cons_zero, List.set_cons_succ]
          refine wt_take (i := 11) (v := ?_) HTK.out rfl (by decide) (by kernel_rfl) (by kernel_rfl) (fun _ _ _ h => h) (by exact hS0) (Or.inl ⟨by rfl, ?_⟩) ?_
          rotate_left
          · intro W hSw
            try dsimp only at hSw
            have q0 := (hSw.cell (p := ⟨wr.heap.size + 1, 2, none⟩) (by exact hl11)).trans b2
            go_simp
            try (with_reducible rfl)
          try simp only [List.getElem_toArray, List.getElem_cons_zero, List.getElem_cons_succ, Act.put, List.setIfInBounds_toArray, List.set_cons_zero, List.set_cons_succ]
          refine wt_take (i := 12) (v := ?_) HTK.out rfl (by decide) (by kernel_rfl) (by kernel_rfl) (fun _ _ _ h => h) (by exact hS0) (Or.inl ⟨by rfl, ?_⟩) ?_
          rotate_left
          · intro W hSw
            try dsimp only at hSw
            go_simp
            try (with_reducible rfl)
          try simp only [List.getElem_toArray, List.getElem_cons_zero, List.getElem_cons_succ, Act.put, List.setIfInBounds_toArray, List.set_cons_zero, List.set_cons_succ]
          refine wt_take (i := 13) (v := ?_) HTK.out rfl (by decide) (by kernel_rfl) (by kernel_rfl) (fun _ _ _ h => h) (by exact hS0) (Or.inl ⟨by rfl, ?_⟩) ?_
          rotate_left
          · intro W hSw
            try dsimp only at hSw
            have q0 := (hSw.cell (p := ⟨w.heap.size + 1, 7, none⟩) (by exact hlt2)).trans tj
            go_simp
            try (with_reducible rfl)
          try simp only [List.getElem_toArray, List.getElem_cons_zero, List.getElem_cons_succ, Act.put, List.setIfInBounds_toArray, List.set_cons_zero, List.set_cons_succ]
          refine wt_ready (rs := [14]) (by kernel_rfl) (by simp) ?_
          refine AllT.cons rfl (by decide) (fun K hK => ?_) ?_
          · go_simp
            go_at_call 17
            refine (HLC.out _ hS0).mono ?_
            rintro e w2 ⟨v, ys, rfl, hp, hso, herr, hb⟩
            have hS1 : Below wa.heap.size wa w2 := hS0.trans (hb.mono hS0.size)
            have HERR := Lib.hid (show PtE by_ pp x y ex ux ey uy pt ((listE by_ pp false ex ey ys).map fun q => (pt.key :: q.1, q.2)) from HPE.out ys hp hso)
            have HEV := Lib.hid herr
            clear hp hso herr hb
            refine hK.out _ _ (by exact hS1) ?_
            clear hK K
            try simp only [List.getElem_toArray, List.getElem_cons_zero, List.getElem_cons_succ, Act.put, List.setIfInBounds_toArray, List.set_cons_zero, List.set_cons_succ]
            refine wt_last (k := 15) (by kernel_rfl) (by kernel_rfl) (by decide) rfl (fun K hK => ?_)
            go_simp
            refine hK.out _ _ ?_
            clear hK K
            try simp only [List.getElem_toArray, List.getElem_cons_zero, List.getElem_cons_succ, Act.put, List.setIfInBounds_toArray, List.set_cons_zero, List.set_cons_succ]
            have HBF := Lib.hid (HBA.out.trans (hS1.mono HBA.out.size))
            have k0 := (hS1.cell (p := ⟨wr.heap.size, 0, none⟩) (by exact hl10)).trans a0
            have hl10' : wr.heap.size < w2.heap.size := Nat.lt_of_lt_of_le hl10 hS1.size
            clear a0 a1 a2 b0 b1 b2 fj tj
            rcases ErrV.nil HEV.out with ⟨rfl, hnone⟩ | ⟨⟨ti, ui, rfl⟩, hsome⟩
            · have HOK := Lib.hid (show PtE by_ pp x y ex ux ey uy pt none by have := HERR.out; rw [hnone] at this; exact this)
              clear hnone
              go_wp2_with fail
              exact ⟨⟨k + 1, by omega, by go_num, HNX.out HOK.out, HBW5.out.trans (hS1.mono HBW5.out.size)⟩, by simp [intOf]; omega⟩
            · obtain ⟨er, her⟩ : ∃ er, er = listE by_ pp false ex ey ys := ⟨_, rfl⟩
              rw [← her] at HERR HEV hsome
              cases er with
              | none => exact absurd rfl hsome
              | some q =>
                obtain ⟨pa, co⟩ := q
                have HFL := Lib.hid (show Flt w2 _ (.iface ti ui) pa co from HEV.out)
                clear hsome her
                go_wp2_with fail
                refine (pin_calls w2 _ pt.key _ pa co HFL.out).mono ?_
                rintro e w3 ⟨v', rfl, hf, hb⟩
                have HF := Lib.hid hf
                have HB3 := Lib.hid (HBF.out.trans (hb.mono HBF.out.size))
                have hsz := HBF.out.size
                have hsa := HBA.out.size
                clear hf hb
                go_wp2_with fail
                go_ret
                exact ⟨_, _, rfl, .inr ⟨k, pt, _, HK.out, HPRE.out, HERR.out, by simp, rfl⟩, HF.out.mono (fun g _ h => h.elim (fun h => Nat.le_trans hsa h) (fun h => Nat.le_trans hsz h)), HB3.out⟩
          exact AllT.nil
        · obtain ⟨hnum, hlst, hkey⟩ := hform
          replace a2 : wa.cell? ⟨wr.heap.size, 2, none⟩ = some (.pointer (some ⟨w.heap.size, 8, none⟩)) := by have := a2; rw [hlst] at this; exact this
          replace b2 : wa.cell? ⟨wr.heap.size + 1, 2, none⟩ = some (.pointer (some ⟨w.heap.size + 1, 8, none⟩)) := by have := b2; rw [hlst] at this; exact this
          have fj : wa.cell? ⟨w.heap.size, 8, none⟩ = some (.slice x.users.a x.users.n x.users.c) := cell_at (j := 8) HXA.out rfl
          have tj : wa.cell? ⟨w.heap.size + 1, 8, none⟩ = some (.slice y.users.a y.users.n y.users.c) := cell_at (j := 8) HYA.out rfl
          have hku : (pt.key.toList == [117, 115, 101, 114, 115]) = true := by rw [← users_list]; exact hkey
          have HPE := Lib.hid (fun (ys : List Nm) (hp : ys.Perm (ux ++ uy)) (hs : ys.Pairwise (fun a b => ltOf cmpN b a = false)) => show PtE by_ pp x y ex ux ey uy pt ((listE by_ pp true ux uy ys).map fun q => (pt.key :: q.1, q.2)) from by unfold PtE; rw [hnum, hlst]; exact ⟨ys, hp, hs, rfl⟩)
          have HLC := Lib.hid (fun (W : World) (hW : Below wa.heap.size wa W) => list_calls W by_ pp true x.users y.users ux uy P (HR.out W (HBA.out.trans (hW.mono HBA.out.size))).2.1 (HR.out W (HBA.out.trans (hW.mono HBA.out.size))).2.2.2 HKU.out)
          have HBW5 := Lib.hid (hb5a)
          clear hnum hkey HHA HHB HXA HYA
          go_upto_region 8 with fail
          refine wt_start (S := fun W => Below wa.heap.size wa W) 15 (by kernel_rfl) ⟨by kernel_rfl, by kernel_rfl, by kernel_rfl, by decide⟩ ?_
          intro HTK
          have hS0 : Below wa.heap.size wa wa.drew := (Below.refl _ _).drew
          refine wt_take (i := 0) (v := ?_) HTK.out rfl (by decide) (by kernel_rfl) (by kernel_rfl) (fun _ _ _ h => h) (by exact hS0) (Or.inl ⟨by rfl, ?_⟩) ?_
          rotate_left
          · intro W hSw
            try dsimp only at hSw
            go_simp
            try (with_reducible rfl)
          try simp only [List.getElem_toArray, List.getElem_cons_zero, List.getElem_cons_succ, Act.put, List.setIfInBounds_toArray, List.set_cons_zero, List.set_cons_succ]
          refine wt_take (i := 1) (v := ?_) HTK.out rfl (by decide) (by kernel_rfl) (by kernel_rfl) (fun _ _ _ h => h) (by exact hS0) (Or.inl ⟨by rfl, ?_⟩) ?_
          rotate_left
          · intro W hSw
            try dsimp only at hSw
            go_simp
            try (with_reducible rfl)
          try simp only [List.getElem_toArray, List.getElem_cons_zero, List.getElem_cons_succ, Act.put, List.setIfInBounds_toArray, List.set_cons_zero, List.set_cons_succ]
          refine wt_take (i := 2) (v := ?_) HTK.out rfl (by decide) (by kernel_rfl) (by kernel_rfl) (fun _ _ _ h => h) (by exact hS0) (Or.inl ⟨by rfl, ?_⟩) ?_
          rotate_left
          · intro W hSw
            try dsimp only at hSw
            go_simp
            try (with_reducible rfl)
          try simp only [List.getElem_toArray, List.getElem_cons_zero, List.getElem_cons_succ, Act.put, List.setIfInBounds_toArray, List.set_cons_zero, List.set_cons_succ]
          refine wt_take (i := 3) (v := ?_) HTK.out rfl (by decide) (by kernel_rfl) (by kernel_rfl) (fun _ _ _ h => h) (by exact hS0) (Or.inl ⟨by rfl, ?_⟩) ?_
          rotate_left
          · intro W hSw
            try dsimp only at hSw
            have q0 := (hSw.cell (p := ⟨wr.heap.size, 0, none⟩) (by exact hl10)).trans a0
            go_simp
            try (with_reducible rfl)
          try simp only [List.getElem_toArray, List.getElem_cons_zero, List.getElem_cons_succ, Act.put, List.setIfInBounds_toArray, List.set_cons_zero, List.set_cons_succ]
          refine wt_take (i := 4) (v := ?_) HTK.out rfl (by decide) (by kernel_rfl) (by kernel_rfl) (fun _ _ _ h => h) (by exact hS0) (Or.inl ⟨by rfl, ?_⟩) ?_
          rotate_left
          · intro W hSw
            try dsimp only at hSw
            go_simp
            try (with_reducible rfl)
          try simp only [List.getElem_toArray, List.getElem_cons_zero, List.getElem_cons_succ, Act.put, List.setIfInBounds_toArray, List.set_cons_zero, List.set_cons_succ]
          refine wt_take (i := 5) (v := ?_) HTK.out rfl (by decide) (by kernel_rfl) (by kernel_rfl) (fun _ _ _ h => h) (by exact hS0) (Or.inl ⟨by rfl, ?_⟩) ?_
          rotate_left
          · intro W hSw
            try dsimp only at hSw
            go_simp
            try (with_reducible rfl)
          try simp only [List.getElem_toArray, List.getElem_cons_zero, List.getElem_cons_succ, Act.put, List.setIfInBounds_toArray, List.set_cons_zero, List.set_cons_succ]
          refine wt_take (i := 6) (v := ?_) HTK.out rfl (by decide) (by kernel_rfl) (by kernel_rfl) (fun _ _ _ h => h) (by exact hS0) (Or.inl ⟨by rfl, ?_⟩) ?_
          rotate_left
          · intro W hSw
            try dsimp only at hSw
            go_simp
            try (with_reducible rfl)
          try simp only [List.getElem_toArray, List.getElem_cons_zero, List.getElem_cons_succ, Act.put, List.setIfInBounds_toArray, List.set_cons_zero, List.set_cons_succ]
          refine wt_take (i := 7) (v := ?_) HTK.out rfl (by decide) (by kernel_rfl) (by kernel_rfl) (fun _ _ _ h => h) (by exact hS0) (Or.inl ⟨by rfl, ?_⟩) ?_
          rotate_left
          · intro W hSw
            try dsimp only at hSw
            have q0 := (hSw.cell (p := ⟨wr.heap.size, 2, none⟩) (by exact hl10)).trans a2
            go_simp
            try (with_reducible rfl)
          try simp only [List.getElem_toArray, List.getElem_cons_zero, List.getElem_cons_succ, Act.put, List.setIfInBounds_toArray, List.set_cons_zero, List.set_cons_succ]
          refine wt_take (i := 8) (v := ?_) HTK.out rfl (by decide) (by kernel_rfl) (by kernel_rfl) (fun _ _ _ h => h) (by exact hS0) (Or.inl ⟨by rfl, ?_⟩) ?_
          rotate_left
          · intro W hSw
            try dsimp only at hSw
            go_simp
            try (with_reducible rfl)
          try simp only [List.getElem_toArray, List.getElem_cons_zero, List.getElem_cons_succ, Act.put, List.setIfInBounds_toArray, List.set_cons_zero, List.set_cons_succ]
          refine wt_take (i := 9) (v := ?_) HTK.out rfl (by decide) (by kernel_rfl) (by kernel_rfl) (fun _ _ _ h => h) (by exact hS0) (Or.inl ⟨by rfl, ?_⟩) ?_
          rotate_left
          · intro W hSw
            try dsimp only at hSw
            have q0 := (hSw.cell (p := ⟨w.heap.size, 8, none⟩) (by exact hlf)).trans fj
            go_simp
            try (with_reducible rfl)
          try simp only [List.getElem_toArray, List.getElem_cons_zero, List.getElem_cons_succ, Act.put, List.setIfInBounds_toArray, List.set_cons_zero, List.set_cons_succ]
          refine wt_take (i := 10) (v := ?_) HTK.out rfl (by decide) (by kernel_rfl) (by kernel_rfl) (fun _ _ _ h => h) (by exact hS0) (Or.inl ⟨by rfl, ?_⟩) ?_
          rotate_left
          · intro W hSw
            try dsimp only at hSw
            go_simp
            try (with_reducible rfl)
          try simp only [List.getElem_toArray, List.getElem_cons_zero, List.getElem_cons_succ, Act.put, List.setIfInBounds_toArray, List.set_cons_zero, List.set_cons_succ]
          refine wt_take (i := 11) (v := ?_) HTK.out rfl (by decide) (by kernel_rfl) (by kernel_rfl) (fun _ _ _ h => h) (by exact hS0) (Or.inl ⟨by rfl, ?_⟩) ?_
          rotate_left
          · intro W hSw
            try dsimp only at hSw
            have q0 := (hSw.cell (p := ⟨wr.heap.size + 1, 2, none⟩) (by exact hl11)).trans b2
            go_simp
            try (with_reducible rfl)
          try simp only [List.getElem_toArray, List.getElem_cons_zero, List.getElem_cons_succ, Act.put, List.setIfInBounds_toArray, List.set_cons_zero, List.set_cons_succ]
          refine wt_take (i := 12) (v := ?_) HTK.out rfl (by decide) (by kernel_rfl) (by kernel_rfl) (fun _ _ _ h => h) (by exact hS0) (Or.inl ⟨by rfl, ?_⟩) ?_
          rotate_left
          · intro W hSw
            try dsimp only at hSw
            go_simp
            try (with_reducible rfl)
          try simp only [List.getElem_toArray, List.getElem_cons_zero, List.getElem_cons_succ, Act.put, List.setIfInBounds_toArray, List.set_cons_zero, List.set_cons_succ]
          refine wt_take (i := 13) (v := ?_) HTK.out rfl (by decide) (by kernel_rfl) (by kernel_rfl) (fun _ _ _ h => h) (by exact hS0) (Or.inl ⟨by rfl, ?_⟩) ?_
          rotate_left
          · intro W hSw
            try dsimp only at hSw
            have q0 := (hSw.cell (p := ⟨w.heap.size + 1, 8, none⟩) (by exact hlt2)).trans tj
            go_simp
            try (with_reducible rfl)
          try simp only [List.getElem_toArray, List.getElem_cons_zero, List.getElem_cons_succ, Act.put, List.setIfInBounds_toArray, List.set_cons_zero, List.set_cons_succ]
          refine wt_ready (rs := [14]) (by kernel_rfl) (by simp) ?_
          refine AllT.cons rfl (by decide) (fun K hK => ?_) ?_
          · go_simp
            go_at_call 17
            refine (HLC.out _ hS0).mono ?_
            rintro e w2 ⟨v, ys, rfl, hp, hso, herr, hb⟩
            have hS1 : Below wa.heap.size wa w2 := hS0.trans (hb.mono hS0.size)
            have HERR := Lib.hid (show PtE by_ pp x y ex ux ey uy pt ((listE by_ pp true ux uy ys).map fun q => (pt.key :: q.1, q.2)) from HPE.out ys hp hso)
            have HEV := Lib.hid herr
            clear hp hso herr hb
            refine hK.out _ _ (by exact hS1) ?_
            clear hK K
            try simp only [List.getElem_toArray, List.getElem_cons_zero, List.getElem_cons_succ, Act.put, List.setIfInBounds_toArray, List.set_cons_zero, List.set_cons_succ]
            refine wt_last (k := 15) (by kernel_rfl) (by kernel_rfl) (by decide) rfl (fun K hK => ?_)
            go_simp
            refine hK.out _ _ ?_
            clear hK K
            try simp only [List.getElem_toArray, List.getElem_cons_zero, List.getElem_cons_succ, Act.put, List.setIfInBounds_toArray, List.set_cons_zero, List.set_cons_succ]
            have HBF := Lib.hid (HBA.out.trans (hS1.mono HBA.out.size))
            have k0 := (hS1.cell (p := ⟨wr.heap.size, 0, none⟩) (by exact hl10)).trans a0
            have hl10' : wr.heap.size < w2.heap.size := Nat.lt_of_lt_of_le hl10 hS1.size
            clear a0 a1 a2 b0 b1 b2 fj tj
            rcases ErrV.nil HEV.out with ⟨rfl, hnone⟩ | ⟨⟨ti, ui, rfl⟩, hsome⟩
            · have HOK := Lib.hid (show PtE by_ pp x y ex ux ey uy pt none by have := HERR.out; rw [hnone] at this; exact this)
              clear hnone
              go_wp2_with fail
              exact ⟨⟨k + 1, by omega, by go_num, HNX.out HOK.out, HBW5.out.trans (hS1.mono HBW5.out.size)⟩, by simp [intOf]; omega⟩
            · obtain ⟨er, her⟩ : ∃ er, er = listE by_ pp true ux uy ys := ⟨_, rfl⟩
              rw [← her] at HERR HEV hsome
              cases er with
              | none => exact absurd rfl hsome
              | some q =>
                obtain ⟨pa, co⟩ := q
                have HFL := Lib.hid (show Flt w2 _ (.iface ti ui) pa co from HEV.out)
                clear hsome her
                go_wp2_with fail
                refine (pin_calls w2 _ pt.key _ pa co HFL.out).mono ?_
                rintro e w3 ⟨v', rfl, hf, hb⟩
                have HF := Lib.hid hf
                have HB3 := Lib.hid (HBF.out.trans (hb.mono HBF.out.size))
                have hsz := HBF.out.size
                have hsa := HBA.out.size
                clear hf hb
                go_wp2_with fail
                go_ret
                exact ⟨_, _, rfl, .inr ⟨k, pt, _, HK.out, HPRE.out, HERR.out, by simp, rfl⟩, HF.out.mono (fun g _ h => h.elim (fun h => Nat.le_trans hsa h) (fun h => Nat.le_trans hsz h)), HB3.out⟩
          exact AllT.nil
    · obtain rfl : k = 9 := by omega
      have HBF := Lib.hid HB.out
      clear hpre hb
      go_wp2_with fail
      go_ret
      exact ⟨_, none, rfl, .inl ⟨rfl, fun pt hpt => by
        obtain ⟨i, hi⟩ := List.mem_iff_getElem?.1 hpt
        exact HPRE.out i pt (by have := (List.getElem?_eq_some_iff.1 hi).1; unfold pts at this; simpa using this) hi⟩, rfl, HBF.out⟩
end Go.Proofs.YtiehdfokcnphdaaGreatDoor
