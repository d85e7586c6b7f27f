/- slices.Insert of one summary: where there is no room; all ways in one. -/
import Derived.Test.YtmhhoaaoofopfaaIc
set_option linter.unusedVariables false
set_option linter.unusedSimpArgs false
namespace Go.Proofs.Ytmhhoaaoofopfaa
open Go.RowKit

abbrev smS : TypeId := 37
abbrev smE : TypeId := 35
set_option maxRecDepth 100000 in
set_option maxHeartbeats 4000000 in
theorem insert_grow (w : World) (n i gv g cap : Nat) (cur : Array Value) (flat : List Value) (x : Sm) (hcell : w.heap[g]? = some (.cells cur 35 (0, 0))) (hcs : cur.size = cap * 10) (htk : cur.toList.take (n * 10) = flat) (hfl : flat.length = n * 10) (h1 : ∀ u ∈ flat, u.oneCell' = true)
    (hi : i < n) (hnc : n ≤ cap) (hroom : cap < n + 1) (hn : n ≤ 1000000) (hx : w.heap[gv]? = some (.cells x.cells 35 (0, 0))) :
    Calls Try.prog 21 #[.slice (some ⟨g, 0, none⟩) n cap, .int .i64 i, .slice (some ⟨gv, 0, none⟩) 1 1] w fun e w' => ∃ (G : Nat) (ROW : Array Value),
      e = .returned (.slice (some ⟨w.heap.size, 0, none⟩) (n + 1) G) ∧ n + 1 ≤ G ∧ G ≤ maxLen ∧ ROW.size = G * 10 ∧ (∀ j, j < i * 10 → ROW[j]? = flat[j]?) ∧
      w' = (((w.alloc (.cells ROW 35)).drew.setCells w.heap.size (i * 10) x.cells.toList).drew).setCells w.heap.size ((i + 1) * 10) (flat.drop (i * 10)) := by
  have mixed : Try.prog.follows .mixedOrders = true := by kernel_rfl
  obtain ⟨xs, hxs⟩ : ∃ xs, xs = x.cells.toList := ⟨_, rfl⟩
  have hxl : xs.length = 10 := by rw [hxs]; rfl
  have hx1 : ∀ v ∈ xs, v.oneCell' = true := fun v hv => by rw [hxs] at hv; exact Array.all_eq_true_iff_forall_mem.1 (allSm x) v (Array.mem_toList_iff.1 hv)
  have hxc : ∀ j v, xs[j]? = some v → w.cell? ⟨gv, j, none⟩ = some v := fun j v hj => by rw [hxs] at hj; exact cell_at hx (by simpa using hj)
  rw [← hxs]
  obtain ⟨i0, hi0, hz0, hzs, hzb⟩ := info_parts infoSm
  have hz2 : ¬ ((i : Int) = (n : Int)) := by omega
  have hz3 : (cap : Int) < (n : Int) + 1 := by omega
  have hsz : (Try.prog.info? 35).map (·.size) = some 10 := by kernel_rfl
  have hbw : g < w.heap.size := blk_lt hcell
  have hvw : gv < w.heap.size := blk_lt hx
  clear hx hxs
  have hkk : (n : Int) + 1 - (i : Int) = ((n + 1 - i : Nat) : Int) := by omega
  have hik : i + (n + 1 - i) = n + 1 := by omega
  have hcell9 : ∀ j v, flat[j]? = some v → w.cell? ⟨g, j, none⟩ = some v := fun j v hj => by
    rw [← htk, List.getElem?_take] at hj
    split at hj
    · exact cell_at hcell (by simpa using hj)
    · cases hj
  have hold : (Builtin.firstCells i0.size i (.slice (some ⟨g, 0, none⟩) i cap)).run Try.prog w.drew = .ok (flat.take (i * 10)).toArray w.drew := by
    rw [hzs]
    exact run_firstCells_some w.drew 10 i ⟨g, 0, none⟩ i cap (flat.take (i * 10)) (by rw [List.length_take]; omega) (fun j v hj => by
      have e : (⟨g, 0, none⟩ : Addr).add j = ⟨g, j, none⟩ := by unfold Addr.add; split <;> simp_all
      rw [e]
      rw [List.getElem?_take] at hj
      split at hj
      · exact hcell9 j v hj
      · cases hj)
  obtain ⟨G, hG⟩ : ∃ G, G = grownCap w (n + 1) cap 35 := ⟨_, rfl⟩
  have hGn : n + 1 ≤ G := by rw [hG]; exact grownCap_ge w _ _ _
  have hG63 : G ≤ maxLen := by rw [hG]; exact grownCap_le_maxLen w (n + 1) cap 35 (by unfold maxLen; omega)
  obtain ⟨ROW, hROW⟩ : ∃ ROW : Array Value, ROW = (flat.take (i * 10)).toArray ++ Builtin.zeroCells (Value.agg zSm.cells).cells (n + 1 - i) ++ Builtin.zeroCells (Value.agg zSm.cells).cells (G - (n + 1)) := ⟨_, rfl⟩
  have hrz : ∀ ty, (Builtin.append_ #[37, 3] ty #[.slice (some ⟨g, 0, none⟩) i cap, .int .i64 ((n : Int) + 1 - (i : Int))]).run Try.prog w =
      .ok (.slice (some ⟨w.heap.size, 0, none⟩) (n + 1) G) (w.drew.alloc (.cells ROW 35)) := fun ty => by
    have h := Lib.run_append_grow_zeros w 37 3 ty 35 i0 _ .i64 .i64 Try.underlying37 Try.underlying3 hi0 hz0 (some ⟨g, 0, none⟩) i cap (flat.take (i * 10)) hold (n + 1 - i) (by omega) (by omega) (by omega) (by omega) (by rw [hzb]; omega) (by rw [hzb, hik]; exact growslice_fits (by omega) (by omega))
    rw [hik, ← hG, ← hROW] at h
    rw [hkk]
    exact h
  have hzl : ∀ k, (Builtin.zeroCells (Value.agg zSm.cells).cells k).size = k * 10 := fun k => by simp [Builtin.zeroCells, Value.cells, Nat.mul_comm]
  have htl : (flat.take (i * 10)).length = i * 10 := by rw [List.length_take]; omega
  have hRl : ROW.size = G * 10 := by
    rw [hROW, Array.size_append, Array.size_append, hzl, hzl, List.size_toArray, htl]
    omega
  have hR1 : ∀ j, j < i * 10 → ROW[j]? = flat[j]? := fun j hj => by
    rw [hROW, Array.append_assoc, Array.getElem?_append_left (by rw [List.size_toArray, htl]; exact hj), List.getElem?_toArray, List.getElem?_take, if_pos hj]
  clear hROW
  obtain ⟨W1, hW1⟩ : ∃ W1, W1 = w.drew.alloc (.cells ROW 35) := ⟨_, rfl⟩
  rw [← hW1] at hrz
  have hN : ∀ j, j < (n + 1) * 10 → (W1.cell? ⟨w.heap.size, j, none⟩).isSome = true := fun j hj => by
    rw [hW1, World.cell?_alloc_at (w := w.drew) ROW _ w.heap.size j rfl, Array.getElem?_eq_getElem (by omega)]; rfl
  have hNf : ∀ j, W1.frozen? ⟨w.heap.size, j, none⟩ = false := fun j => by rw [hW1]; exact World.frozen?_alloc_at (w := w.drew) ROW _ w.heap.size j rfl
  have hOb : ∀ j v, w.cell? ⟨g, j, none⟩ = some v → W1.cell? ⟨g, j, none⟩ = some v := fun j v h => by rw [hW1, World.cell?_alloc_past (w := w.drew) _ g j hbw]; exact h
  have hOv : ∀ j v, w.cell? ⟨gv, j, none⟩ = some v → W1.cell? ⟨gv, j, none⟩ = some v := fun j v h => by rw [hW1, World.cell?_alloc_past (w := w.drew) _ gv j hvw]; exact h
  have hcpA : ∀ (W : World), (∀ x, W.cell? x = W1.cell? x) → (∀ x, W.frozen? x = W1.frozen? x) → ∀ ty dc, (Builtin.copy_ #[37, 37] ty #[.slice (some ⟨w.heap.size, i * 10, none⟩) (n + 1 - i) dc, .slice (some ⟨gv, 0, none⟩) 1 1]).run Try.prog W = .ok (goInt 1) (W.setCells w.heap.size (i * 10) xs) := fun W hWc hWf ty dc =>
    run_copy_rows W _ _ ty 35 w.heap.size (i * 10) (n + 1 - i) dc 10 1 ⟨gv, 0, none⟩ 1 1 xs Try.underlying37 hsz (by simp only [Nat.min_def]; split <;> omega) (by rw [hxl])
      (fun j v hj => by
        have e : (⟨gv, 0, none⟩ : Addr).add j = ⟨gv, j, none⟩ := by unfold Addr.add; split <;> simp_all
        rw [e, hWc]; exact hOv _ v (hxc j v hj))
      (fun j hj => by rw [hWc]; exact hN _ (by rw [hxl] at hj; omega)) (fun j hj => by rw [hWf]; exact hNf _) hx1
  have hGi : ¬ (G = i) := by omega
  have hGim : ¬ (G = i + 1) := by omega
  have hci : ¬ (cap = i) := by omega
  have hbN : g ≠ w.heap.size := by omega
  have hdl : (flat.drop (i * 10)).length = (n - i) * 10 := by rw [List.length_drop, hfl]; omega
  have hcpB : ∀ (W : World), (∀ y, W.cell? y = (W1.setCells w.heap.size (i * 10) xs).cell? y) → (∀ y, W.frozen? y = (W1.setCells w.heap.size (i * 10) xs).frozen? y) → ∀ ty dc sc, (Builtin.copy_ #[37, 37] ty #[.slice (some ⟨w.heap.size, (i + 1) * 10, none⟩) (n - i) dc, .slice (some ⟨g, i * 10, none⟩) (n - i) sc]).run Try.prog W = .ok (goInt ((n - i : Nat) : Int)) (W.setCells w.heap.size ((i + 1) * 10) (flat.drop (i * 10))) := fun W hWc hWf ty dc sc =>
    run_copy_rows W _ _ ty 35 w.heap.size ((i + 1) * 10) (n - i) dc 10 (n - i) ⟨g, i * 10, none⟩ (n - i) sc (flat.drop (i * 10)) Try.underlying37 hsz (by simp only [Nat.min_def]; split <;> omega) hdl
      (fun j v hj => by
        have e : (⟨g, i * 10, none⟩ : Addr).add j = ⟨g, i * 10 + j, none⟩ := by unfold Addr.add; split <;> simp_all
        rw [e, hWc, World.cell?_setCells_out _ _ _ _ _ (fun h _ => absurd h hbN)]
        exact hOb _ v (hcell9 (i * 10 + j) v (by rwa [List.getElem?_drop] at hj)))
      (fun j hj => by rw [hWc]; exact isSome_setCells _ _ _ _ (fun t ht => hN _ (by rw [hxl] at ht; omega)) _ (hN _ (by rw [hdl] at hj; omega)))
      (fun j hj => by rw [hWf, World.frozen?_setCells]; exact hNf _) (fun v hv => h1 v (List.mem_of_mem_drop hv))
  subst hW1
  have hE1 : ∀ y, ((w.alloc (.cells ROW 35)).drew).cell? y = (w.drew.alloc (.cells ROW 35)).cell? y := fun y => rfl
  have hE2 : ∀ y, ((w.alloc (.cells ROW 35)).drew).frozen? y = (w.drew.alloc (.cells ROW 35)).frozen? y := fun y => rfl
  have hF1 : ∀ y, (((w.alloc (.cells ROW 35)).drew.setCells w.heap.size (i * 10) xs).drew).cell? y = ((w.drew.alloc (.cells ROW 35)).setCells w.heap.size (i * 10) xs).cell? y := fun y => rfl
  have hF2 : ∀ y, (((w.alloc (.cells ROW 35)).drew.setCells w.heap.size (i * 10) xs).drew).frozen? y = ((w.drew.alloc (.cells ROW 35)).setCells w.heap.size (i * 10) xs).frozen? y := fun y => rfl
  have hw1 : IntKind.i64.wrap ((i : Int) + 1) = (i : Int) + 1 := by rw [IntKind.wrap_i64]; omega
  have hb1 : (0 : Int) ≤ (i : Int) + 1 := by omega
  have hin : i ≤ n := by omega
  have htn : ((i : Int) + 1).toNat = i + 1 := by omega
  have hb3 : (i : Int) ≤ (n : Int) := by omega
  have hG64 : G ≤ 9223372036854775807 := by unfold maxLen at hG63; exact hG63
  clear hkk hik hold hG
  go_enter Try.func21, Try.ntmps21
  go_wp2_with (first
    | (at_builtin; refine Lib.wpList_append_run _ rfl _ _ _ _ rfl _ _ rfl rfl _ _ (hrz _) ?_)
    | (at_builtin; refine wpList_copy_runI _ rfl _ _ 37 37 rfl _ _ rfl rfl (hcpA _ hE1 hE2 _ _) ?_)
    | (at_builtin; refine wpList_copy_runI _ rfl _ _ 37 37 rfl _ _ rfl rfl (hcpB _ (fun _ => rfl) (fun _ => rfl) _ _ _) ?_))
  go_region_law_o (refine step_copy_runI rfl _ _ 37 37 rfl (.slice (some ⟨w.heap.size, (i + 1) * 10, none⟩) (n - i) (G - (i + 1))) (.slice (some ⟨g, i * 10, none⟩) (n - i) (cap - i)) (by simp [Act.eval, Act.put]) (by simp [Act.eval, Act.put]) (hcpB _ hF1 hF2 3 (G - (i + 1)) (cap - i)) ?_)
  go_wp2
  go_ret
  exact ⟨G, ROW, rfl, hGn, hG63, hRl, hR1, rfl⟩
/-- One is put in at a place: all that stood behind it stands one behind. -/
theorem insert_calls (w : World) (base n i gv : Nat) (v : Value) (flat : List Value) (x : Sm) (hown : w.ownsRow base 35 10 v n flat) (hi : i ≤ n) (hn : n ≤ 1000000) (hbase : base ≤ w.heap.size) (hx : w.heap[gv]? = some (.cells x.cells 35 (0, 0))) (hne : v.ownBlock ≠ some gv) (h1 : ∀ u ∈ flat, u.oneCell' = true) :
    Calls Try.prog 21 #[v, .int .i64 i, .slice (some ⟨gv, 0, none⟩) 1 1] w fun e w' => ∃ v', e = .returned v' ∧ w'.ownsRow base 35 10 v' (n + 1) (flat.take (i * 10) ++ x.cells.toList ++ flat.drop (i * 10)) ∧ w.grownBy w' v.ownBlock ∧ (v'.ownBlock = v.ownBlock ∨ v'.ownBlock = some w.heap.size) := by
  have hfl := hown.1
  by_cases hin : i = n
  · subst hin
    have h2 : flat.take (i * 10) = flat := List.take_of_length_le (by omega)
    have h3 : flat.drop (i * 10) = [] := List.drop_eq_nil_iff.2 (by omega)
    rw [h2, h3, List.append_nil]
    exact insert_end w base i gv v flat x hown hn hbase hx
  · rcases hown.2 with ⟨rfl, rfl⟩ | ⟨g, cap, cur, rfl, hg0, hcell, hnc, hcm, hcs, htk⟩
    · omega
    · have hd : w.grownBy w.drew (some g) := grown_of_below (Below.refl _ _).drew _
      by_cases hroom : n + 1 ≤ cap
      · have hC := insert_shift w base n i gv g cap cur flat x hcell hcs htk hfl h1 (by omega) hroom (by unfold maxLen at hcm; omega) hn hx (fun e => hne (by rw [e]; rfl))
        have hxl : x.cells.toList.length = 10 := rfl
        revert hC hxl
        generalize x.cells.toList = xs
        intro hC hxl
        refine hC.mono ?_
        rintro e w' ⟨rfl, rfl⟩
        obtain ⟨cur', h2, h3, h4⟩ := sets_shift (w := w.drew) (xs := xs) hcell hcs hroom hi htk hfl hxl
        refine ⟨_, rfl, ⟨?_, .inr ⟨g, cap, cur', rfl, hg0, h2, hroom, hcm, h3, h4⟩⟩, grown_trans hd (grown_trans (setCells_grown g _ _ _) (setCells_grown g _ _ _)), .inl rfl⟩
        rw [← h4, List.length_take, Array.length_toList, h3]
        omega
      · have hC := insert_grow w n i gv g cap cur flat x hcell hcs htk hfl h1 (by omega) hnc (by omega) hn hx
        have hxl : x.cells.toList.length = 10 := rfl
        revert hC hxl
        generalize x.cells.toList = xs
        intro hC hxl
        refine hC.mono ?_
        rintro e w' ⟨G, ROW, rfl, hG1, hG2, hG3, hG4, rfl⟩
        obtain ⟨cur', h2, h3, h4⟩ := sets_new (w := (w.alloc (.cells ROW 35)).drew) (w' := ((w.alloc (.cells ROW 35)).drew.setCells w.heap.size (i * 10) xs).drew) (xs := xs) (heap_new w _) hG3 hG1 hi hG4 hfl hxl rfl
        have hb : Below w.heap.size w ((((w.alloc (.cells ROW 35)).drew.setCells w.heap.size (i * 10) xs).drew).setCells w.heap.size ((i + 1) * 10) (flat.drop (i * 10))) := by
          have e1 : Below w.heap.size w (w.alloc (.cells ROW 35)).drew := ((Below.refl _ _).alloc (Nat.le_refl _) _).drew
          have e2 := (Fr.of_grown (S := fun k => k = w.heap.size) (setCells_grown w.heap.size xs (i * 10) (w.alloc (.cells ROW 35)).drew) (fun r e => (Option.some.inj e).symm)).to_below e1.size (fun k hk e => by omega)
          have e12 := (e1.trans e2).drew
          exact e12.trans ((Fr.of_grown (S := fun k => k = w.heap.size) (setCells_grown w.heap.size (flat.drop (i * 10)) ((i + 1) * 10) _) (fun r e => (Option.some.inj e).symm)).to_below e12.size (fun k hk e => by omega))
        refine ⟨_, rfl, ⟨?_, .inr ⟨w.heap.size, G, cur', rfl, hbase, h2, hG1, hG2, h3, h4⟩⟩, grown_of_below hb _, .inr rfl⟩
        rw [← h4, List.length_take, Array.length_toList, h3]
        omega
end Go.Proofs.Ytmhhoaaoofopfaa
