/- power.change: whether a name's change is denied; the first of a list that is. -/
import Derived.Test.YtiehdfokcnphdaaGreatDoorSr
import Derived.Test.YtiehdfokcnphdaaGreatDoorEq
import Derived.Test.YtiehdfokcnphdaaGreatDoorLw
import Derived.Test.YtiehdfokcnphdaaGreatDoorWt
import Derived.Test.YtiehdfokcnphdaaGreatDoorLd
import Derived.Laws.Cover1
set_option linter.unusedVariables false
set_option linter.unusedSimpArgs false
namespace Go.Proofs.YtiehdfokcnphdaaGreatDoor
open Go.RowKit Go.Shelf Go.Sort

/-- A fault about an error. -/
theorem pin_calls (w : World) (P : Nat → Prop) (f : ByteArray) (v : Value) (p : List ByteArray) (c : Int) (h : Flt w P v p c) :
    Calls Tryz.prog 18 #[.string f, v] w fun e w' => ∃ v', e = .returned v' ∧ Flt w' (fun g => P g ∨ w.heap.size ≤ g) v' (f :: p) c ∧ Below w.heap.size w w' := by
  have HF := Lib.hid h
  obtain ⟨t, u, rfl⟩ : ∃ t u, v = .iface t u := by cases h <;> exact ⟨_, _, rfl⟩
  clear h
  go_enter Tryz.func18, Tryz.ntmps18
  go_wp2_with fail
  go_ret
  refine ⟨_, rfl, .fault w.heap.size f _ p c (heap_new _ _) (.inr (Nat.le_refl _)) ((HF.out.same (fun g hg _ => heap_old_at _ _ _ hg)).mono (fun g _ hg => .inl hg)), (Below.refl _ _).alloc (Nat.le_refl _) _⟩
abbrev chCells (b : ByteArray) (p : Int) (u : Bool) : Array Value := #[.string b, .int .i64 p, .bool u]
set_option maxRecDepth 100000 in
set_option maxHeartbeats 4000000 in
theorem denied_calls (w : World) (b : ByteArray) (p : Int) (u : Bool) (name : ByteArray) (s1 s2 : Sl) (l1 l2 : List Nm) (P : Nat → Prop) (h1 : RowOf w P 91 2 s1 (ncells l1)) (h2 : RowOf w P 91 2 s2 (ncells l2)) :
    Calls Tryz.prog 41 #[.agg (chCells b p u), .string name, .slice s1.a s1.n s1.c, .slice s2.a s2.n s2.c] w fun e w' => e = .returned (.bool (deniedN b p u l1 l2 name)) ∧ Below w.heap.size w w' := by
  have hb0 : Below w.heap.size w (w.alloc (.cells (chCells b p u) 63)) := (Below.refl _ _).alloc (Nat.le_refl _) _
  have HF1 := Lib.hid (find_calls (w.alloc (.cells (chCells b p u) 63)) P s1 l1 name (h1.same hb0.size (fun g hg _ => hb0.block g hg)))
  have HF2 := Lib.hid (fun (W : World) (hW : Below w.heap.size w W) => find_calls W P s2 l2 name (h2.same hW.size (fun g hg _ => hW.block g hg)))
  have HB0 := Lib.hid hb0
  obtain ⟨o1, ho1⟩ : ∃ o1, o1 = findN l1 name := ⟨_, rfl⟩
  obtain ⟨o2, ho2⟩ : ∃ o2, o2 = findN l2 name := ⟨_, rfl⟩
  obtain ⟨dn, hdn⟩ : ∃ dn, dn = deniedN b p u l1 l2 name := ⟨_, rfl⟩
  have hd : dn = deniedO b p u name o1 o2 := by rw [hdn, ho1, ho2]; rfl
  rw [← hdn]
  rw [← ho1] at HF1
  rw [← ho2] at HF2
  have HD := Lib.hid hd
  clear h1 h2 hb0 ho1 ho2 hdn hd
  go_enter Tryz.func41, Tryz.ntmps41
  go_wp2_with fail
  refine HF1.out.mono ?_
  rintro e w1 ⟨rfl, hb⟩
  have HB1 := Lib.hid (HB0.out.trans (hb.mono HB0.out.size))
  have c0 := (hb.cell (p := ⟨w.heap.size, 0, none⟩) (by simp)).trans (cell_at (j := 0) (heap_new_at w (.cells (chCells b p u) 63) _ rfl) rfl)
  have c1 := (hb.cell (p := ⟨w.heap.size, 1, none⟩) (by simp)).trans (cell_at (j := 1) (heap_new_at w (.cells (chCells b p u) 63) _ rfl) rfl)
  have c2 := (hb.cell (p := ⟨w.heap.size, 2, none⟩) (by simp)).trans (cell_at (j := 2) (heap_new_at w (.cells (chCells b p u) 63) _ rfl) rfl)
  have hl1 : w.heap.size < w1.heap.size := by have := hb.size; simp at this; omega
  have HFF := Lib.hid (HF2.out w1 HB1.out)
  clear hb HF1 HF2
  cases o1 with
  | none =>
    simp only [optV]
    go_wp2_with fail
    refine HFF.out.mono ?_
    rintro e w2 ⟨rfl, hb⟩
    have HB2 := Lib.hid (HB1.out.trans (hb.mono HB1.out.size))
    have d0 := (hb.cell (p := ⟨w.heap.size, 0, none⟩) (by exact hl1)).trans c0
    have d1 := (hb.cell (p := ⟨w.heap.size, 1, none⟩) (by exact hl1)).trans c1
    have d2 := (hb.cell (p := ⟨w.heap.size, 2, none⟩) (by exact hl1)).trans c2
    have hl2 : w.heap.size < w2.heap.size := Nat.lt_of_lt_of_le hl1 hb.size
    clear hb c0 c1 c2
    cases o2 with
    | none =>
      simp only [optV]
      go_wp2_with fail
      go_ret
      exact ⟨by rw [HD.out]; rfl, HB2.out⟩
    | some i =>
      simp only [optV]
      cases hi : decide (i > p) with
      | true =>
        go_wp2_with fail
        all_goals
          go_ret
          exact ⟨by rw [HD.out]; unfold deniedO; simp_all, HB2.out⟩
      | false =>
        go_wp2_with fail
        all_goals
          go_ret
          exact ⟨by rw [HD.out]; unfold deniedO; simp_all, HB2.out⟩
  | some i1 =>
    simp only [optV]
    go_wp2_with fail
    refine HFF.out.mono ?_
    rintro e w2 ⟨rfl, hb⟩
    have HB2 := Lib.hid (HB1.out.trans (hb.mono HB1.out.size))
    have d0 := (hb.cell (p := ⟨w.heap.size, 0, none⟩) (by exact hl1)).trans c0
    have d1 := (hb.cell (p := ⟨w.heap.size, 1, none⟩) (by exact hl1)).trans c1
    have d2 := (hb.cell (p := ⟨w.heap.size, 2, none⟩) (by exact hl1)).trans c2
    have hl2 : w.heap.size < w2.heap.size := Nat.lt_of_lt_of_le hl1 hb.size
    clear hb c0 c1 c2
    cases o2 with
    | none =>
      simp only [optV]
      cases u with
      | false =>
        go_wp2_with fail
        all_goals
          go_ret
          exact ⟨by rw [HD.out]; unfold deniedO; simp_all, HB2.out⟩
      | true =>
        cases hn : (name.toList == b.toList) with
        | true =>
          go_wp2_with fail
          all_goals
            go_ret
            exact ⟨by rw [HD.out]; unfold deniedO; simp_all, HB2.out⟩
        | false =>
          go_wp2_with fail
          all_goals
            go_ret
            exact ⟨by rw [HD.out]; unfold deniedO; simp_all, HB2.out⟩
    | some i2 =>
      simp only [optV]
      by_cases he : i1 = i2
      · subst he
        go_wp2_with fail
        all_goals
          go_ret
          exact ⟨by rw [HD.out]; unfold deniedO; simp_all, HB2.out⟩
      · have he2 : (i1 == i2) = false := by simp [he]
        cases u with
        | false =>
          go_wp2_with fail
          all_goals
            go_ret
            exact ⟨by rw [HD.out]; unfold deniedO; simp_all, HB2.out⟩
        | true =>
          cases hn : (name.toList == b.toList) with
          | true =>
            go_wp2_with fail
            all_goals
              go_ret
              exact ⟨by rw [HD.out]; unfold deniedO; simp_all, HB2.out⟩
          | false =>
            go_wp2_with fail
            all_goals
              go_ret
              refine ⟨?_, HB2.out⟩
              rw [HD.out]
              unfold deniedO
              simp_all
              try (rw [show (i1 == p) = false by simpa using ‹¬i1 = p›]; simp)
theorem enter_list2 : ∀ args W, Sem.run Tryz.prog (callFunc 40 args) W = .ok (.enter 40 args) W := fun _ _ => by kernel_rfl
set_option maxRecDepth 100000 in
theorem list2_calls (W : World) (g1 g2 g3 : Nat) (b : ByteArray) (p : Int) (u : Bool) (s1 s2 : Sl) (l1 l2 : List Nm) (P : Nat → Prop) (x : Nm) (k1 : W.heap[g1]? = some (.cells (chCells b p u) 63 (0, 0))) (k2 : W.heap[g2]? = some (.cells #[.slice s1.a s1.n s1.c] 31 (0, 0))) (k3 : W.heap[g3]? = some (.cells #[.slice s2.a s2.n s2.c] 31 (0, 0)))
    (h1 : RowOf W P 91 2 s1 (ncells l1)) (h2 : RowOf W P 91 2 s2 (ncells l2)) : Calls Tryz.prog 40 #[.agg x.cells, .pointer (some ⟨g1, 0, none⟩), .pointer (some ⟨g2, 0, none⟩), .pointer (some ⟨g3, 0, none⟩)] W fun e w' => e = .returned (.bool (deniedN b p u l1 l2 x.name)) ∧ Below W.heap.size W w' := by
  have hb0 : Below W.heap.size W (W.alloc (.cells x.cells 91)) := (Below.refl _ _).alloc (Nat.le_refl _) _
  have HD := Lib.hid (denied_calls (W.alloc (.cells x.cells 91)) b p u x.name s1 s2 l1 l2 P (h1.same hb0.size (fun g hg _ => hb0.block g hg)) (h2.same hb0.size (fun g hg _ => hb0.block g hg)))
  have HB0 := Lib.hid hb0
  have c0 := cell_at (j := 0) k1 rfl
  have c1 := cell_at (j := 1) k1 rfl
  have c2 := cell_at (j := 2) k1 rfl
  have d0 := cell_at (j := 0) k2 rfl
  have e0 := cell_at (j := 0) k3 rfl
  have hg1 := blk_lt k1
  have hg2 := blk_lt k2
  have hg3 := blk_lt k3
  clear h1 h2 hb0 k1 k2 k3
  go_enter Tryz.func40, Tryz.ntmps40
  go_wp2_with fail
  refine HD.out.mono ?_
  rintro e w1 ⟨rfl, hb⟩
  have HB1 := Lib.hid (HB0.out.trans (hb.mono HB0.out.size))
  clear hb HD c0 c1 c2 d0 e0
  go_wp2_with fail
  go_ret
  exact ⟨rfl, HB1.out⟩
/-- Why a list may not be changed: the first that is denied, of both, in order. -/
def listE (b : ByteArray) (p : Int) (u : Bool) (l1 l2 ys : List Nm) : Er := (ys.find? fun k => deniedN b p u l1 l2 k.name).map fun k => ([k.name], 22)
set_option maxRecDepth 100000 in
set_option maxHeartbeats 4000000 in
theorem list_calls (w : World) (b : ByteArray) (p : Int) (u : Bool) (s1 s2 : Sl) (l1 l2 : List Nm) (P : Nat → Prop) (h1 : RowOf w P 91 2 s1 (ncells l1)) (h2 : RowOf w P 91 2 s2 (ncells l2)) (hk : l1.length + l2.length ≤ 1000000) :
    Calls Tryz.prog 17 #[.agg (chCells b p u), .slice s1.a s1.n s1.c, .slice s2.a s2.n s2.c] w fun e w' => ∃ (v : Value) (ys : List Nm), e = .returned v ∧ ys.Perm (l1 ++ l2) ∧ ys.Pairwise (fun a b => ltOf cmpN b a = false) ∧ ErrV w' (fun g => w.heap.size ≤ g) v (listE b p u l1 l2 ys) ∧ Below w.heap.size w w' := by
  obtain ⟨w3, hw3⟩ : ∃ w3 : World, w3 = ((w.alloc (.cells (chCells b p u) 63)).alloc (.cells #[.slice s1.a s1.n s1.c] 31)).alloc (.cells #[.slice s2.a s2.n s2.c] 31) := ⟨_, rfl⟩
  have hb3 : Below w.heap.size w w3 := by rw [hw3]; exact (((Below.refl _ _).alloc (Nat.le_refl _) _).alloc (by simp) _).alloc (by simp; omega) _
  have k1 : w3.heap[w.heap.size]? = some (.cells (chCells b p u) 63 (0, 0)) := by rw [hw3]; exact (heap_old_at _ _ _ (by simp; omega)).trans ((heap_old_at _ _ _ (by simp)).trans (heap_new_at _ _ _ rfl))
  have k2 : w3.heap[w.heap.size + 1]? = some (.cells #[.slice s1.a s1.n s1.c] 31 (0, 0)) := by rw [hw3]; exact (heap_old_at _ _ _ (by simp)).trans (heap_new_at _ _ _ (by simp))
  have k3 : w3.heap[w.heap.size + 2]? = some (.cells #[.slice s2.a s2.n s2.c] 31 (0, 0)) := by rw [hw3]; exact heap_new_at _ _ _ (by simp)
  have d0 := cell_at (j := 0) k2 rfl
  have e0 := cell_at (j := 0) k3 rfl
  have hl3 : w.heap.size + 2 < w3.heap.size := blk_lt k3
  have HR1 := Lib.hid (fun (W : World) (hW : Below w.heap.size w W) => h1.same hW.size (fun g hg _ => hW.block g hg))
  have HR2 := Lib.hid (fun (W : World) (hW : Below w.heap.size w W) => h2.same hW.size (fun g hg _ => hW.block g hg))
  have HK1 := Lib.hid k1
  have HK2 := Lib.hid k2
  have HK3 := Lib.hid k3
  have HB3 := Lib.hid hb3
  have HW3 := Lib.hid hw3
  have HK := Lib.hid hk
  clear h1 h2 k1 k2 k3 hb3 hw3 hk
  go_enter Tryz.func17, Tryz.ntmps17
  go_upto_region 1 with fail
  rw [← HW3.out]
  go_wp2_with fail
  obtain ⟨w4, hw4⟩ : ∃ w4 : World, w4 = w3.alloc (.cells #[.slice s1.a s1.n s1.c, .slice s2.a s2.n s2.c] 31) := ⟨_, rfl⟩
  have hb4 : Below w3.heap.size w3 w4 := by rw [hw4]; exact (Below.refl _ _).alloc (Nat.le_refl _) _
  have hg4 : w4.heap[w3.heap.size]? = some (.cells #[.slice s1.a s1.n s1.c, .slice s2.a s2.n s2.c] 31 (0, 0)) := by rw [hw4]; exact heap_new_at _ _ _ rfl
  rw [← hw4]
  have HB4 := Lib.hid (HB3.out.trans (hb4.mono HB3.out.size))
  have HB34 := Lib.hid hb4
  refine (nconcat_calls w4 w3.heap.size s1 s2 l1 l2 P hg4 (HR1.out w4 HB4.out) (HR2.out w4 HB4.out) HK.out).mono ?_
  rintro e w5 ⟨⟨A, n, c⟩, rfl, hr, hb⟩
  obtain ⟨ll, hll⟩ : ∃ ll, ll = l1 ++ l2 := ⟨_, rfl⟩
  rw [← hll] at hr
  have HLL := Lib.hid hll
  have HKL := Lib.hid (show ll.length ≤ 1000000 by rw [hll]; have := HK.out; simpa using this)
  clear hll
  have hn : n = ll.length := by have := hr.1; simpa using this
  subst hn
  have HR := Lib.hid hr
  have HB35 := Lib.hid (HB34.out.trans (hb.mono HB34.out.size))
  clear hb4 hg4 hw4 hr hb HB34 HB4
  simp only [Sl.val]
  go_wp2_with fail
  refine (nvalues_calls w5 A _ c).mono ?_
  rintro e w6 ⟨rfl, hw6⟩
  have hb6 : Below w5.heap.size w5 w6 := by rw [hw6]; exact (Below.refl _ _).alloc (Nat.le_refl _) _
  have hm6 : w6.cell? ⟨w5.heap.size, 0, none⟩ = some (.slice A ll.length c) := by rw [hw6]; exact cell_at (j := 0) (heap_new_at _ _ _ rfl) rfl
  have hl6 : w5.heap.size < w6.heap.size := by rw [hw6]; simp
  have HS := Lib.hid (nsorted_calls w6 w5.heap.size c A ll hl6 hm6 ((HR.out.mono (fun g hg _ => (show g < w6.heap.size by omega))).same hb6.size (fun g hg _ => hb6.block g (by have := hg; exact this))) HKL.out)
  have HB36 := Lib.hid (HB35.out.trans (hb6.mono HB35.out.size))
  clear hw6 hb6 hm6 HR HB35
  go_wp2_with fail
  refine HS.out.mono ?_
  rintro e w7 ⟨s7, ys, rfl, hp, hso, hr7, hb⟩
  have HB37 := Lib.hid (HB36.out.trans (hb.mono HB36.out.size))
  have HP := Lib.hid (show ys.Perm (l1 ++ l2) by rw [← HLL.out]; exact hp)
  have HSO := Lib.hid hso
  have hb3 := HB3.out
  have HB7 := Lib.hid (HB3.out.trans (HB37.out.mono HB3.out.size))
  have HIX := Lib.hid (index_nm w7 _ s7 ys 40 #[] #[.pointer (some ⟨w.heap.size, 0, none⟩), .pointer (some ⟨w.heap.size + 1, 0, none⟩), .pointer (some ⟨w.heap.size + 2, 0, none⟩)] (fun k => deniedN b p u l1 l2 k.name) hr7 enter_list2 (fun W k _ hW => by
    have h3W := HB37.out.trans (hW.mono HB37.out.size)
    have := list2_calls W w.heap.size (w.heap.size + 1) (w.heap.size + 2) b p u s1 s2 l1 l2 P k ((h3W.block _ (by omega)).trans HK1.out) ((h3W.block _ (by omega)).trans HK2.out) ((h3W.block _ (by omega)).trans HK3.out) (HR1.out W (HB7.out.trans (hW.mono HB7.out.size))) (HR2.out W (HB7.out.trans (hW.mono HB7.out.size)))
    simpa using this))
  have HR7 := Lib.hid hr7
  clear hp hso hr7 hb hb3 HS HB36
  simp only [Sl.val]
  go_wp2_with fail
  refine HIX.out.mono ?_
  rintro e w8 ⟨rfl, hb⟩
  have HB8 := Lib.hid (HB7.out.trans (hb.mono HB7.out.size))
  have HR8 := Lib.hid (HR7.out.same hb.size (fun g hg _ => hb.block g hg))
  clear hb HIX
  rcases idxOf_cases (fun k : Nm => deniedN b p u l1 l2 k.name) ys with ⟨hi, hno⟩ | ⟨m, q, hi, hq, hml, hqd, hno⟩
  · rw [hi]
    have hle : listE b p u l1 l2 ys = none := by unfold listE; rw [List.find?_eq_none.2 (fun k hk => by rw [hno k hk]; simp)]; rfl
    have HLE := Lib.hid hle
    clear hi hno hle
    go_wp2_with fail
    go_ret
    exact ⟨_, ys, rfl, HP.out, HSO.out, by rw [HLE.out]; exact (rfl : (Value.nilIface) = .nilIface), HB8.out⟩
  · rw [hi]
    have hfi : ys.find? (fun k => deniedN b p u l1 l2 k.name) = some q := by
      rw [List.find?_eq_some_iff_getElem]
      refine ⟨hqd, m, hml, (List.getElem?_eq_some_iff.1 hq).2, fun j hj => ?_⟩
      rw [hno _ (List.mem_iff_getElem?.2 ⟨j, by rw [List.getElem?_take_of_lt hj]; exact List.getElem?_eq_getElem (by omega)⟩)]; rfl
    have hle : listE b p u l1 l2 ys = some ([q.name], 22) := by unfold listE; rw [hfi]; rfl
    have HLE := Lib.hid hle
    have hn7 : s7.n = ys.length := by have := HR8.out.1; simpa using this
    have hyk : ys.length ≤ 1000000 := by have := HR8.out.2.1; simpa using this
    obtain ⟨r, ha⟩ : ∃ r, s7.a = some ⟨r, 0, none⟩ := by
      rcases HR8.out.2.2 with ⟨_, hnil⟩ | ⟨r, h1, _⟩
      · have := congrArg List.length hnil; simp at this; subst this; simp at hml
      · exact ⟨r, h1⟩
    obtain ⟨_, hrl, hrw⟩ := HR8.out.at ha
    have hyc : (ncells ys)[m]? = some q.cells.toList := by simp [hq]
    have c0 : w8.cell? ⟨r, m * 2, none⟩ = some (.string q.name) := hrw.cell (d := 0) hyc rfl
    rw [ha]
    clear hi hq hqd hno hfi hle hrw hyc ha
    go_wp2_with fail
    refine (pin_calls w8 (fun _ => False) q.name _ [] 22 (.code 22)).mono ?_
    rintro e w9 ⟨v', rfl, hf, hb⟩
    have HF := Lib.hid hf
    have HB9 := Lib.hid (HB8.out.trans (hb.mono HB8.out.size))
    have hs8 := HB8.out.size
    clear hf hb
    go_wp2_with fail
    go_ret
    exact ⟨_, ys, rfl, HP.out, HSO.out, by rw [HLE.out]; exact HF.out.mono (fun g _ h => by rcases h with h | h; exact h.elim; omega), HB9.out⟩
end Go.Proofs.YtiehdfokcnphdaaGreatDoor
