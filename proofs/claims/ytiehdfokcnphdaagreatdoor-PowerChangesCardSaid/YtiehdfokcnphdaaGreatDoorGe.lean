/- value.Get: a map's value of a key, copied. -/
import Derived.Test.YtiehdfokcnphdaaGreatDoorCo
namespace Go.Proofs.YtiehdfokcnphdaaGreatDoor
open Go.RowKit

/-- slices.IndexFunc, of rows of Mb. -/
theorem index_mb (w : World) (P : Nat → Prop) (s : Sl) (l : List Mb) (f : Nat) (first captured : Array Value) (p : Mb → Bool) (h : RowOf w P 48 7 s (mcells l))
    (hcf : ∀ args W, Sem.run Tryz.prog (callFunc f args) W = .ok (.enter f args) W)
    (hp : ∀ W k, k ∈ l → Below w.heap.size w W → Calls Tryz.prog f (first.push (.agg k.cells) ++ captured) W fun (e : Ending) w' => e = .returned (.bool (p k)) ∧ Below W.heap.size W w') :
    Calls Tryz.prog 51 #[.slice s.a s.n s.c, .func (.func f) first captured] w fun e w' => e = .returned (.int .i64 (idxOf p l)) ∧ Below w.heap.size w w' := by
  have hn : s.n = l.length := by have := h.1; simpa using this
  have hm : l.length ≤ 1000000 := by have := h.2.1; simpa using this
  have HP := Lib.hid hp
  have HR := Lib.hid h
  obtain ⟨A, n, c⟩ := s
  dsimp only at hn
  subst hn
  clear hp h
  go_enter Tryz.func51, Tryz.ntmps51
  go_wp2_with fail
  go_loopw [4, 8] (fun z i wr => ∃ k : Nat, k ≤ l.length ∧ i = .int .i64 k ∧ z = .int .i64 0 ∧ (∀ j q, j < k → l[j]? = some q → p q = false) ∧ Below w.heap.size w wr) (fun _ i _ => l.length - (intOf i).toNat)
  case atStart => exact ⟨0, by omega, rfl, rfl, by omega, Below.refl _ _⟩
  case round =>
    obtain ⟨k, hk, rfl, rfl, hno, hb⟩ := hrel
    have HNO := Lib.hid hno
    have HB := Lib.hid hb
    clear hno
    by_cases hlt : k < l.length
    · have hy : l[k]? = some l[k] := List.getElem?_eq_getElem hlt
      have hC := HP.out wr l[k] (by simp) hb
      generalize l[k] = y at hy hC
      have hyc : (mcells l)[k]? = some y.cells.toList := by simp [hy]
      have hrow := HR.out.same hb.size (fun g hg _ => hb.block g hg)
      obtain ⟨r, ha⟩ : ∃ r, A = some ⟨r, 0, none⟩ := by
        rcases hrow.2.2 with ⟨hs, hn⟩ | ⟨r, h1, _⟩
        · have := congrArg List.length hn; simp at this; subst this; simp at hlt
        · exact ⟨r, h1⟩
      obtain ⟨_, hrl, hrw⟩ := hrow.at ha
      have c0 : wr.cell? ⟨r, k * 7, none⟩ = some (.string y.key) := hrw.cell (d := 0) hyc rfl
      have c1 : wr.cell? ⟨r, k * 7 + 1, none⟩ = some (.int .i64 y.v.kind) := hrw.cell (d := 1) hyc rfl
      have c2 : wr.cell? ⟨r, k * 7 + 2, none⟩ = some (.bool y.v.yes) := hrw.cell (d := 2) hyc rfl
      have c3 : wr.cell? ⟨r, k * 7 + 3, none⟩ = some (.int .i64 y.v.int) := hrw.cell (d := 3) hyc rfl
      have c4 : wr.cell? ⟨r, k * 7 + 4, none⟩ = some (.string y.v.text) := hrw.cell (d := 4) hyc rfl
      have c5 : wr.cell? ⟨r, k * 7 + 5, none⟩ = some (.slice y.v.list.a y.v.list.n y.v.list.c) := hrw.cell (d := 5) hyc rfl
      have c6 : wr.cell? ⟨r, k * 7 + 6, none⟩ = some (.slice y.v.map.a y.v.map.n y.v.map.c) := hrw.cell (d := 6) hyc rfl
      have HC := Lib.hid hC
      have HY := Lib.hid hy
      subst ha
      clear hy hyc hrow hrw hb hC
      go_wp2_with fail
      refine HC.out.mono ?_
      rintro e w1 ⟨rfl, hb1⟩
      have HB2 := Lib.hid (HB.out.trans (hb1.mono HB.out.size))
      clear hb1 HC
      by_cases hpk : p y = true
      · have HPK := Lib.hid hpk
        simp only [HPK.out]
        clear hpk
        go_wp2_with fail
        go_ret
        exact ⟨ret_int (idxOf_some p l k y HY.out HPK.out HNO.out).symm, HB2.out⟩
      · have hpk' : p y = false := by simpa using hpk
        have HPK := Lib.hid hpk'
        simp only [HPK.out]
        clear hpk hpk'
        go_wp2_with fail
        refine ⟨⟨k + 1, by omega, by go_num, rfl, ?_, HB2.out⟩, by simp [intOf]; omega⟩
        intro j q' hj hq'
        by_cases hjk : j = k
        · subst hjk
          have := HY.out
          rw [this] at hq'
          cases hq'
          exact HPK.out
        · exact HNO.out j q' (by omega) hq'
    · have hkl : k = l.length := by omega
      subst hkl
      clear hb
      go_wp2_with fail
      go_ret
      exact ⟨ret_int (idxOf_none p l (fun j q hj => HNO.out j q (by have := (List.getElem?_eq_some_iff.1 hj).1; omega) hj)).symm, HB.out⟩

section
variable {P : Program}
theorem results_row_tmp {fn : Func} {p u : Tmp} {ty : TypeId} (h : fn.results = #[.cell p ty, .tmp u]) (tmps : Array Value) (w : World) (g : Nat) (t : TypeId) (cs : Array Value) (fr : Nat × Nat) (d : TypeDesc)
    (hp : tmps.getD p undef = .pointer (some ⟨g, 0, none⟩)) (hg : w.heap[g]? = some (.cells cs t fr))
    (hu : P.underlying ty = some d) (hd : (match d with | .struct _ | .array _ _ => true | _ => false) = true) (hi : (P.info? ty).map (·.size) = some cs.size) :
    (results fn tmps).run P w = .ok (.tuple #[.agg cs, tmps.getD u undef]) w := by
  have hp' : tmps[p]?.getD undef = .pointer (some ⟨g, 0, none⟩) := by simpa using hp
  simp [results, h, hp', asAddr, run_loadVar_row w g t ty cs fr d hg hu hd hi]
end
theorem six_heap {w : World} {g E : Nat} {cs : Array Value} {a b c d e f : Value} (h : w.heap[g]? = some (.cells cs E (0, 0))) (hs : cs.size = 6) :
    ((((((w.setCell ⟨g, 0, none⟩ a).setCell ⟨g, 1, none⟩ b).setCell ⟨g, 2, none⟩ c).setCell ⟨g, 3, none⟩ d).setCell ⟨g, 4, none⟩ e).setCell ⟨g, 5, none⟩ f).heap[g]? = some (.cells #[a, b, c, d, e, f] E (0, 0)) := by
  rw [setCell_heap_at (setCell_heap_at (setCell_heap_at (setCell_heap_at (setCell_heap_at (setCell_heap_at h)))))]
  obtain ⟨l⟩ := cs
  match l, hs with
  | [_, _, _, _, _, _], _ => rfl
def keyB (key : ByteArray) (m : Mb) : Bool := m.key.toList == key.toList
theorem enter_get1 : ∀ args W, Sem.run Tryz.prog (callFunc 52 args) W = .ok (.enter 52 args) W := fun _ _ => by kernel_rfl
theorem get1_calls (w : World) (d : Nat) (key : ByteArray) (m : Mb) (hd : d < w.heap.size) (hc : w.cell? ⟨d, 0, none⟩ = some (.string key)) :
    Calls Tryz.prog 52 #[.agg m.cells, .pointer (some ⟨d, 0, none⟩)] w fun e w' => e = .returned (.bool (keyB key m)) ∧ Below w.heap.size w w' := by
  go_enter Tryz.func52, Tryz.ntmps52
  go_wp2_with fail
  go_ret
  exact ⟨rfl, Below.alloc (Below.refl _ _) (Nat.le_refl _) _⟩

/-- What a map's value of a key is. -/
def V.get : V → ByteArray → Option V
  | .mk k _ _ _ _ M, key => if k = 5 then (M.find? fun kv => kv.1.toList == key.toList).map (·.2) else none
def nilV : V := .mk 0 false 0 ⟨#[]⟩ [] []

/-- The first member of a key, and its value. -/
theorem find_of_idx {w : World} {P : Nat → Prop} {ms : List Mb} {M : List (ByteArray × V)} {key : ByteArray} (len : ms.length = M.length) (keyM : ∀ (i : Nat) (m : Mb) (kv : ByteArray × V), ms[i]? = some m → M[i]? = some kv → m.key = kv.1)
    (elM : ∀ (i : Nat) (m : Mb) (kv : ByteArray × V), ms[i]? = some m → M[i]? = some kv → RepV w P m.v kv.2) :
    (idxOf (keyB key) ms = -1 ∧ M.find? (fun kv => kv.1.toList == key.toList) = none) ∨
    ∃ (j : Nat) (m : Mb) (v : V), idxOf (keyB key) ms = j ∧ j < ms.length ∧ ms[j]? = some m ∧ (M.find? (fun kv => kv.1.toList == key.toList)).map (·.2) = some v ∧ RepV w P m.v v := by
  rcases idxOf_cases (keyB key) ms with ⟨h1, h2⟩ | ⟨j, m, h1, h2, h3, h4, h5⟩
  · left
    refine ⟨h1, ?_⟩
    rw [List.find?_eq_none]
    intro kv hkv
    obtain ⟨i, hi⟩ := List.mem_iff_getElem?.1 hkv
    have hil := (List.getElem?_eq_some_iff.1 hi).1
    have hm : ms[i]? = some (ms[i]'(by omega)) := List.getElem?_eq_getElem (by omega)
    have := h2 _ (List.mem_of_getElem? hm)
    unfold keyB at this
    rw [keyM i _ kv hm hi] at this
    simp [this]
  · right
    have hM : M[j]? = some (M[j]'(by omega)) := List.getElem?_eq_getElem (by omega)
    refine ⟨j, m, (M[j]'(by omega)).2, h1, h3, h2, ?_, elM j m _ h2 hM⟩
    have hf : M.find? (fun kv => kv.1.toList == key.toList) = some (M[j]'(by omega)) := by
      rw [List.find?_eq_some_iff_getElem]
      refine ⟨?_, j, by omega, rfl, ?_⟩
      · have := h4; unfold keyB at this; rw [keyM j m _ h2 hM] at this; exact this
      · intro i hi
        have hm : ms[i]? = some (ms[i]'(by omega)) := List.getElem?_eq_getElem (by omega)
        have := h5 (ms[i]'(by omega)) (by rw [List.mem_iff_getElem?]; exact ⟨i, by rw [List.getElem?_take]; simp [hi, hm]⟩)
        unfold keyB at this
        rw [keyM i _ (M[i]'(by omega)) hm (List.getElem?_eq_getElem (by omega))] at this
        simp [this]
    rw [hf]
    rfl

set_option maxRecDepth 100000 in
theorem get_calls (w : World) (P : Nat → Prop) (x : V6) (v : V) (key : ByteArray) (h : RepV w P x v) :
    Calls Tryz.prog 31 #[.agg x.cells, .string key] w fun e w' => ∃ x' : V6, e = .returned (.tuple #[.agg x'.cells, .bool (v.get key).isSome]) ∧ RepV w' (fun g => w.heap.size ≤ g) x' ((v.get key).getD nilV) ∧ Below w.heap.size w w' := by
  cases h with
  | mk x L M xs ms hL hM lenL lenM elL keyM elM =>
  obtain ⟨W2, hW2⟩ : ∃ W2, W2 = ((w.alloc (.cells x.cells 44)).alloc (.cells #[.string key] 9)).alloc (.cells #[.int .i64 0, .bool false, .int .i64 0, .string ⟨#[]⟩, .slice none 0 0, .slice none 0 0] 44) := ⟨_, rfl⟩
  have hb2 : Below w.heap.size w W2 := by rw [hW2]; exact (((Below.refl _ _).alloc (Nat.le_refl _) _).alloc (by simp) _).alloc (by simp; omega) _
  have hk2 : W2.cell? ⟨w.heap.size + 1, 0, none⟩ = some (.string key) := by rw [hW2]; exact (cell_old _ _ _ (by simp)).trans (cell_new _ _ _ _ _ _ (by simp))
  have hs2 : W2.heap.size = w.heap.size + 3 := by rw [hW2]; simp
  have HI := Lib.hid (index_mb W2 P x.map ms 52 #[] #[.pointer (some ⟨w.heap.size + 1, 0, none⟩)] (keyB key) (hM.same hb2.size (fun g hg _ => hb2.block g hg)) enter_get1 (fun W k _ hb => by
    have := get1_calls W (w.heap.size + 1) key k (by have := hb.size; omega) ((hb.cell (p := ⟨w.heap.size + 1, 0, none⟩) (by show w.heap.size + 1 < _; omega)).trans hk2)
    simpa using this))
  have hx2 : W2.heap[w.heap.size]? = some (.cells x.cells 44 (0, 0)) := by rw [hW2]; exact (Below.heap_alloc _ _ _ (by simp; omega)).trans ((Below.heap_alloc _ _ _ (by simp)).trans (heap_new _ _))
  have hr2 : W2.heap[w.heap.size + 2]? = some (.cells #[.int .i64 0, .bool false, .int .i64 0, .string ⟨#[]⟩, .slice none 0 0, .slice none 0 0] 44 (0, 0)) := by
    rw [hW2]
    have := heap_new ((w.alloc (.cells x.cells 44)).alloc (.cells #[.string key] 9)) (.cells #[.int .i64 0, .bool false, .int .i64 0, .string ⟨#[]⟩, .slice none 0 0, .slice none 0 0] 44 (0, 0))
    rw [show ((w.alloc (.cells x.cells 44)).alloc (.cells #[.string key] 9)).heap.size = w.heap.size + 2 by simp] at this
    exact this
  have HW2 := Lib.hid hW2
  have HM := Lib.hid hM
  have HB2 := Lib.hid hb2
  have HX2 := Lib.hid hx2
  have HR2 := Lib.hid hr2
  have HF := Lib.hid (find_of_idx (key := key) lenM keyM elM)
  have HG := Lib.hid (show (V.mk x.kind x.yes x.int x.text L M).get key = if x.kind = 5 then (M.find? fun kv => kv.1.toList == key.toList).map (·.2) else none from rfl)
  clear hW2 hM hb2 hx2 hr2 hk2 lenL lenM elL keyM elM hL
  go_enter Tryz.func31, Tryz.ntmps31
  go_wp2_with fail
  rw [← HW2.out]
  refine HI.out.mono ?_
  rintro e w3 ⟨rfl, hb3⟩
  have hx3 := (hb3.block w.heap.size (by omega)).trans HX2.out
  have hr3 := (hb3.block (w.heap.size + 2) (by omega)).trans HR2.out
  have hs3 := hb3.size
  have HB3 := Lib.hid (HB2.out.trans (hb3.mono HB2.out.size))
  have hrl := (Array.getElem?_eq_some_iff.1 hr3).1
  have k0 : w3.cell? ⟨w.heap.size, 0, none⟩ = some (.int .i64 x.kind) := by simp [World.cell?, hx3]
  have k5 : w3.cell? ⟨w.heap.size, 5, none⟩ = some (.slice x.map.a x.map.n x.map.c) := by simp [World.cell?, hx3]
  have z0 : w3.cell? ⟨w.heap.size + 2, 0, none⟩ = some (.int .i64 0) := by simp [World.cell?, hr3]
  have z1 : w3.cell? ⟨w.heap.size + 2, 1, none⟩ = some (.bool false) := by simp [World.cell?, hr3]
  have z2 : w3.cell? ⟨w.heap.size + 2, 2, none⟩ = some (.int .i64 0) := by simp [World.cell?, hr3]
  have z3 : w3.cell? ⟨w.heap.size + 2, 3, none⟩ = some (.string ⟨#[]⟩) := by simp [World.cell?, hr3]
  have z4 : w3.cell? ⟨w.heap.size + 2, 4, none⟩ = some (.slice none 0 0) := by simp [World.cell?, hr3]
  have z5 : w3.cell? ⟨w.heap.size + 2, 5, none⟩ = some (.slice none 0 0) := by simp [World.cell?, hr3]
  have hfz : ∀ o, w3.frozen? ⟨w.heap.size + 2, o, none⟩ = false := fun o => by simp [World.frozen?, hr3]
  have HR3 := Lib.hid hr3
  clear HI HX2 HR2 HW2 hb3 hx3 hr3
  have hcase : ((x.kind = 5 ∧ ∃ (j : Nat) (m : Mb) (v : V), idxOf (keyB key) ms = j ∧ j < ms.length ∧ ms[j]? = some m ∧ (M.find? (fun kv => kv.1.toList == key.toList)).map (·.2) = some v ∧ RepV w P m.v v)) ∨
      ((x.kind = 5 ∧ idxOf (keyB key) ms = -1) ∧ (V.mk x.kind x.yes x.int x.text L M).get key = none) ∨ (x.kind ≠ 5 ∧ (V.mk x.kind x.yes x.int x.text L M).get key = none) := by
    by_cases h5 : x.kind = 5
    · rcases HF.out with ⟨h1, h2⟩ | h
      · right; left; refine ⟨⟨h5, h1⟩, ?_⟩; rw [HG.out, if_pos h5, h2]; rfl
      · exact .inl ⟨h5, h⟩
    · right; right; exact ⟨h5, by rw [HG.out, if_neg h5]⟩
  rcases hcase with ⟨h5, j, m, v, hj, hjl, hmj, hfv, hrep⟩ | ⟨⟨h5, hj⟩, hg⟩ | ⟨h5, hg⟩
  · have HGN := Lib.hid (show (V.mk x.kind x.yes x.int x.text L M).get key = some v by rw [HG.out, if_pos h5, hfv])
    have hyc : (mcells ms)[j]? = some m.cells.toList := by simp [hmj]
    have hrow := HM.out.same (w' := w3) HB3.out.size (fun g hg _ => HB3.out.block g hg)
    have hn : x.map.n = ms.length := by have := hrow.1; simpa using this
    have hm6 : ms.length ≤ 1000000 := by have := hrow.2.1; simpa using this
    obtain ⟨r, ha⟩ : ∃ r, x.map.a = some ⟨r, 0, none⟩ := by
      rcases hrow.2.2 with ⟨hs, hn⟩ | ⟨r, h1, _⟩
      · have := congrArg List.length hn; simp at this; subst this; simp at hjl
      · exact ⟨r, h1⟩
    obtain ⟨_, hrl2, hrw⟩ := hrow.at ha
    have c1 : w3.cell? ⟨r, j * 7 + 1, none⟩ = some (.int .i64 m.v.kind) := hrw.cell (d := 1) hyc rfl
    have c2 : w3.cell? ⟨r, j * 7 + 2, none⟩ = some (.bool m.v.yes) := hrw.cell (d := 2) hyc rfl
    have c3 : w3.cell? ⟨r, j * 7 + 3, none⟩ = some (.int .i64 m.v.int) := hrw.cell (d := 3) hyc rfl
    have c4 : w3.cell? ⟨r, j * 7 + 4, none⟩ = some (.string m.v.text) := hrw.cell (d := 4) hyc rfl
    have c5 : w3.cell? ⟨r, j * 7 + 5, none⟩ = some (.slice m.v.list.a m.v.list.n m.v.list.c) := hrw.cell (d := 5) hyc rfl
    have c6 : w3.cell? ⟨r, j * 7 + 6, none⟩ = some (.slice m.v.map.a m.v.map.n m.v.map.c) := hrw.cell (d := 6) hyc rfl
    have HCO := Lib.hid (copy_calls w3 P m.v v (hrep.same HB3.out.size (fun g hg _ => HB3.out.block g hg)))
    rw [hj]
    rw [ha, hn] at k5 ⊢
    clear hyc hrow hrw hfv hrep hmj HF HG hj HM
    go_wp2_with fail
    refine HCO.out.mono ?_
    rintro e w4 ⟨x', rfl, hrep', hb4, _⟩
    have hr4 := (hb4.block (w.heap.size + 2) (by omega)).trans HR3.out
    have z0 : w4.cell? ⟨w.heap.size + 2, 0, none⟩ = some (.int .i64 0) := by simp [World.cell?, hr4]
    have z1 : w4.cell? ⟨w.heap.size + 2, 1, none⟩ = some (.bool false) := by simp [World.cell?, hr4]
    have z2 : w4.cell? ⟨w.heap.size + 2, 2, none⟩ = some (.int .i64 0) := by simp [World.cell?, hr4]
    have z3 : w4.cell? ⟨w.heap.size + 2, 3, none⟩ = some (.string ⟨#[]⟩) := by simp [World.cell?, hr4]
    have z4 : w4.cell? ⟨w.heap.size + 2, 4, none⟩ = some (.slice none 0 0) := by simp [World.cell?, hr4]
    have z5 : w4.cell? ⟨w.heap.size + 2, 5, none⟩ = some (.slice none 0 0) := by simp [World.cell?, hr4]
    have hfz : ∀ o, w4.frozen? ⟨w.heap.size + 2, o, none⟩ = false := fun o => by simp [World.frozen?, hr4]
    have HREP := Lib.hid hrep'
    have HB4 := Lib.hid (HB3.out.trans (hb4.mono HB3.out.size))
    have HR4 := Lib.hid hr4
    clear hrep' hb4 hr4 HCO c1 c2 c3 c4 c5 c6
    go_wp2_with fail
    refine bodyPost_ret (results_row_tmp rfl _ _ (w.heap.size + 2) 44 _ (0, 0) _ rfl (six_heap HR4.out rfl) Tryz.underlying44 rfl (by kernel_rfl)) rfl ?_
    refine ⟨x', by rw [HGN.out]; rfl, ?_, ?_⟩
    · rw [HGN.out]
      exact ((HREP.out.mono (fun g _ hg => by show w.heap.size + 3 ≤ g; omega)).stored (w.heap.size + 2) 0 x'.cells.toList (by omega)).mono (fun g _ hg => by omega)
    · exact HB4.out.grown (setCells_grown (w.heap.size + 2) x'.cells.toList 0 w4) HB4.out.size (fun j hj => by injection hj with hj; omega)
  · have HGN := Lib.hid hg
    rw [hj]
    clear hg hj
    go_wp2_with fail
    refine bodyPost_ret (results_row_tmp rfl _ _ (w.heap.size + 2) 44 _ (0, 0) _ rfl (six_heap HR3.out rfl) Tryz.underlying44 rfl (by kernel_rfl)) rfl ?_
    refine ⟨⟨0, false, 0, ⟨#[]⟩, ⟨none, 0, 0⟩, ⟨none, 0, 0⟩⟩, by rw [HGN.out]; rfl, by rw [HGN.out]; exact RepV.leaf _ _ _ _ _ _, ?_⟩
    exact HB3.out.grown (setCells_grown (w.heap.size + 2) [.int .i64 0, .bool false, .int .i64 0, .string ⟨#[]⟩, .slice none 0 0, .slice none 0 0] 0 w3) HB3.out.size (fun j hj => by injection hj with hj; omega)
  · have HGN := Lib.hid hg
    clear hg
    go_wp2_with fail
    refine bodyPost_ret (results_row_tmp rfl _ _ (w.heap.size + 2) 44 _ (0, 0) _ rfl (six_heap HR3.out rfl) Tryz.underlying44 rfl (by kernel_rfl)) rfl ?_
    refine ⟨⟨0, false, 0, ⟨#[]⟩, ⟨none, 0, 0⟩, ⟨none, 0, 0⟩⟩, by rw [HGN.out]; rfl, by rw [HGN.out]; exact RepV.leaf _ _ _ _ _ _, ?_⟩
    exact HB3.out.grown (setCells_grown (w.heap.size + 2) [.int .i64 0, .bool false, .int .i64 0, .string ⟨#[]⟩, .slice none 0 0, .slice none 0 0] 0 w3) HB3.out.size (fun j hj => by injection hj with hj; omega)
end Go.Proofs.YtiehdfokcnphdaaGreatDoor
