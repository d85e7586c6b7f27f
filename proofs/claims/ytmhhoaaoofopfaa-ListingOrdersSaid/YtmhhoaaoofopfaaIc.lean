/- slices.Insert of one summary. -/
import Derived.Test.YtmhhoaaoofopfaaCm
import Derived.Test.YtmhhoaaoofopfaaIs
import Derived.Shelf.Spec.SlicesInsertGrow
import Derived.Test.YtmhhoaaoofopfaaAp
set_option linter.unusedVariables false
set_option linter.unusedSimpArgs false
namespace Go.Proofs.Ytmhhoaaoofopfaa
open Go.RowKit

theorem infoSm : (Try.prog.info? 35).map (fun i => (i.zero, i.size, i.bytes)) = some (some (.agg zSm.cells), 10, 128) := by kernel_rfl
theorem src_sm {w : World} {gv : Nat} {x : Sm} (h : w.heap[gv]? = some (.cells x.cells 35 (0, 0))) : Src w 10 (some ⟨gv, 0, none⟩) 1 1 [x.cells.toList] := by
  refine ⟨rfl, by simp, fun u hu => ?_, .inr ⟨_, rfl, fun j u hj => ?_⟩⟩
  · have hu2 : u ∈ x.cells.toList := by simpa using hu
    exact Array.all_eq_true_iff_forall_mem.1 (allSm x) u (Array.mem_toList_iff.1 hu2)
  · exact World.news_of_block (B := gv) (cs := x.cells) (t := 35) (fr := (0, 0)) h j u (by rw [List.flatten_cons, List.flatten_nil, List.append_nil] at hj; exact hj)
set_option maxRecDepth 100000 in
set_option maxHeartbeats 4000000 in
theorem insert_end (w : World) (base n gv : Nat) (v : Value) (flat : List Value) (x : Sm) (hown : w.ownsRow base 35 10 v n flat) (hn : n ≤ 1000000) (hbase : base ≤ w.heap.size) (hx : w.heap[gv]? = some (.cells x.cells 35 (0, 0))) :
    Calls Try.prog 21 #[v, .int .i64 n, .slice (some ⟨gv, 0, none⟩) 1 1] w fun e w' => ∃ v', e = .returned v' ∧ w'.ownsRow base 35 10 v' (n + 1) (flat ++ x.cells.toList) ∧ w.grownBy w' v.ownBlock ∧ (v'.ownBlock = v.ownBlock ∨ v'.ownBlock = some w.heap.size) := by
  obtain ⟨i0, hi, hz0, hz1, hz2⟩ := info_parts infoSm
  have HI := Lib.hid hi
  have HZ0 := Lib.hid hz0
  have HZ1 := Lib.hid hz1
  have HZ2 := Lib.hid hz2
  have HOWN := Lib.hid hown
  have HX := Lib.hid hx
  clear hi hz0 hz1 hz2 hx
  rcases hown.2 with ⟨rfl, rfl⟩ | ⟨g, cap, cur, rfl, hg0, hcell, hnc, hcm, hcs, htk⟩
  · clear hown
    go_enter Try.func21, Try.ntmps21
    go_wp2_with (at_builtin; refine wpList_append_src _ rfl _ _ 37 rfl base 35 i0 _ 10 128 Try.underlying37 HI.out HZ0.out HZ1.out HZ2.out rfl (by decide) _ 0 flat rfl HOWN.out (some ⟨gv, 0, none⟩) 1 1 [x.cells.toList] rfl ?c1 ?c3 ?c4 ?c5 ?_)
    case c1 => exact src_sm HX.out
    case c3 => unfold maxLen; omega
    case c4 => omega
    case c5 => exact hbase
    intro a4 c4 w4 hown4 hg4 hv4
    have HO4 := Lib.hid hown4
    have HG4 := Lib.hid hg4
    have HV4 := Lib.hid hv4
    clear hown4 hg4 hv4
    go_wp2_with fail
    go_ret
    exact ⟨_, rfl, HO4.out, HG4.out, HV4.out⟩
  · clear hown hcell hcs htk hcm
    by_cases hcn : cap = n
    · go_enter Try.func21, Try.ntmps21
      go_wp2_with (at_builtin; refine wpList_append_src _ rfl _ _ 37 rfl base 35 i0 _ 10 128 Try.underlying37 HI.out HZ0.out HZ1.out HZ2.out rfl (by decide) _ n flat rfl HOWN.out (some ⟨gv, 0, none⟩) 1 1 [x.cells.toList] rfl ?d1 ?d3 ?d4 ?d5 ?_)
      case d1 => exact src_sm HX.out
      case d3 => unfold maxLen; omega
      case d4 => omega
      case d5 => exact hbase
      intro a4 c4 w4 hown4 hg4 hv4
      have HO4 := Lib.hid hown4
      have HG4 := Lib.hid hg4
      have HV4 := Lib.hid hv4
      clear hown4 hg4 hv4
      go_wp2_with fail
      go_ret
      exact ⟨_, rfl, HO4.out, HG4.out, HV4.out⟩
    · go_enter Try.func21, Try.ntmps21
      go_wp2_with (at_builtin; refine wpList_append_src _ rfl _ _ 37 rfl base 35 i0 _ 10 128 Try.underlying37 HI.out HZ0.out HZ1.out HZ2.out rfl (by decide) _ n flat rfl HOWN.out (some ⟨gv, 0, none⟩) 1 1 [x.cells.toList] rfl ?e1 ?e3 ?e4 ?e5 ?_)
      case e1 => exact src_sm HX.out
      case e3 => unfold maxLen; omega
      case e4 => omega
      case e5 => exact hbase
      intro a4 c4 w4 hown4 hg4 hv4
      have HO4 := Lib.hid hown4
      have HG4 := Lib.hid hg4
      have HV4 := Lib.hid hv4
      clear hown4 hg4 hv4
      go_wp2_with fail
      go_ret
      exact ⟨_, rfl, HO4.out, HG4.out, HV4.out⟩
/-- copy, where an element has whatever many cells. -/
theorem run_copy_rows {P : Program} (w : World) (dT sT ty elem : TypeId) (b o dLen dCap sz k : Nat) (a : Addr) (sLen sCap : Nat) (cs : List Value)
    (hu : P.underlying dT = some (.slice elem)) (hs : (P.info? elem).map (·.size) = some sz) (hk : Nat.min sLen dLen = k) (hn : cs.length = k * sz)
    (hsrc : ∀ j v, cs[j]? = some v → w.cell? (a.add j) = some v) (hc : ∀ j, j < cs.length → (w.cell? ⟨b, o + j, none⟩).isSome = true) (hf : ∀ j, j < cs.length → w.frozen? ⟨b, o + j, none⟩ = false) (h1 : ∀ v ∈ cs, v.oneCell' = true) :
    (Builtin.copy_ #[dT, sT] ty #[.slice (some ⟨b, o, none⟩) dLen dCap, .slice (some a) sLen sCap]).run P w = .ok (goInt k) (w.setCells b o cs) := by
  have hl := run_loadCells_list (P := P) w a cs hsrc
  have hst := run_storeCells_cells (P := P) b o cs 0 w (by simpa using hc) (by simpa using hf) h1
  cases hq : P.info? elem with
  | none => simp [hq] at hs
  | some i =>
    have hi : i.size = sz := by simpa [hq] using hs
    simp [Builtin.copy_, run_underlying hu, Builtin.lenOf, Builtin.firstCells, sizeOf, typeInfo, hq, hi, hk, ← hn, hl, hst]
set_option maxRecDepth 100000 in
set_option maxHeartbeats 4000000 in
/-- There is room, and it stands before others: what stands behind is shifted. -/
theorem insert_shift (w : World) (base n i gv g cap : Nat) (cur : Array Value) (flat : List Value) (x : Sm) (hcell : w.heap[g]? = some (.cells cur 35 (0, 0))) (hcs : cur.size = cap * 10) (htk : cur.toList.take (n * 10) = flat) (hfl : flat.length = n * 10) (h1 : ∀ u ∈ flat, u.oneCell' = true)
    (hi : i < n) (hroom : n + 1 ≤ cap) (hc63 : cap ≤ 9223372036854775807) (hn : n ≤ 1000000) (hx : w.heap[gv]? = some (.cells x.cells 35 (0, 0))) (hne : gv ≠ g) :
    Calls Try.prog 21 #[.slice (some ⟨g, 0, none⟩) n cap, .int .i64 i, .slice (some ⟨gv, 0, none⟩) 1 1] w fun e w' =>
      e = .returned (.slice (some ⟨g, 0, none⟩) (n + 1) cap) ∧ w' = (w.drew.setCells g ((i + 1) * 10) (flat.drop (i * 10))).setCells g (i * 10) x.cells.toList := by
  have mixed : Try.prog.follows .mixedOrders = true := by kernel_rfl
  have hz2 : ¬ ((i : Int) = (n : Int)) := by omega
  have hsz : (Try.prog.info? 35).map (·.size) = some 10 := by kernel_rfl
  have hsa : w.shape? gv = some (35, 10) := by unfold World.shape?; rw [hx]; rfl
  have hsb : w.shape? g = some (35, cur.size) := by unfold World.shape?; rw [hcell]
  have hov : ∀ lb cb, (callFunc 34 #[.slice (some ⟨gv, 0, none⟩) 1 1, .slice (some ⟨g, (i + 1) * 10, none⟩) lb cb]).run Try.prog w = .ok (.value (.bool false)) w := fun lb cb => by
    rw [run_callFunc_extern Try.func34 (by kernel_rfl) (by kernel_rfl) (by kernel_rfl) (e := Extern.SlicesOverlaps.overlaps #[37, 37] #[4]) (by kernel_rfl),
      Lib.run_overlaps_apart w 37 4 35 Try.underlying37 10 (fun w => by kernel_rfl) ⟨gv, 0, none⟩ ⟨g, (i + 1) * 10, none⟩ 1 1 lb cb hne _ _ _ _ hsa hsb (by omega) (by simp [World.frozen?, hx]) (by simp [World.frozen?, hx])]
    rfl
  have hdl : (flat.drop (i * 10)).length = (n - i) * 10 := by rw [List.length_drop, hfl]; omega
  have hw1 : IntKind.i64.wrap ((i : Int) + 1) = (i : Int) + 1 := by rw [IntKind.wrap_i64]; omega
  have hb1 : (0 : Int) ≤ (i : Int) + 1 := by omega
  have htn : ((i : Int) + 1).toNat = i + 1 := by omega
  have hb2 : ¬ (cap = i + 1) := by omega
  have hb3 : (i : Int) ≤ (n : Int) + 1 := by omega
  have hb4 : ¬ (cap = i) := by omega
  have hin : i ≤ n := by omega
  have hcell9 : ∀ j v, flat[j]? = some v → w.cell? ⟨g, j, none⟩ = some v := fun j v hj => by
    rw [← htk, List.getElem?_take] at hj
    split at hj
    · exact cell_at hcell (by simpa using hj)
    · cases hj
  have hsp : ∀ j, j < (n + 1) * 10 → (w.cell? ⟨g, j, none⟩).isSome = true := fun j hj => by
    rw [cell_at hcell (Array.getElem?_eq_getElem (by omega))]; rfl
  have hfz : ∀ j, w.frozen? ⟨g, j, none⟩ = false := fun j => frozen_at hcell
  have hcp1 : ∀ ty dc sc, (Builtin.copy_ #[37, 37] ty #[.slice (some ⟨g, (i + 1) * 10, none⟩) (n - i) dc, .slice (some ⟨g, i * 10, none⟩) (n + 1 - i) sc]).run Try.prog w.drew = .ok (goInt ((n - i : Nat) : Int)) (w.drew.setCells g ((i + 1) * 10) (flat.drop (i * 10))) := fun ty dc sc =>
    run_copy_rows w.drew _ _ ty 35 g ((i + 1) * 10) (n - i) dc 10 (n - i) ⟨g, i * 10, none⟩ (n + 1 - i) sc (flat.drop (i * 10)) Try.underlying37 hsz (by simp only [Nat.min_def]; split <;> omega) hdl
      (fun j v hj => by
        have e : (⟨g, i * 10, none⟩ : Addr).add j = ⟨g, i * 10 + j, none⟩ := by unfold Addr.add; split <;> simp_all
        rw [e]; exact hcell9 (i * 10 + j) v (by rwa [List.getElem?_drop] at hj))
      (fun j hj => hsp _ (by rw [hdl] at hj; omega)) (fun j hj => hfz _) (fun v hv => h1 v (List.mem_of_mem_drop hv))
  obtain ⟨W1, hW1⟩ : ∃ W1, W1 = w.drew.setCells g ((i + 1) * 10) (flat.drop (i * 10)) := ⟨_, rfl⟩
  have hsp1 : ∀ k, k < (n + 1) * 10 → (W1.cell? ⟨g, k, none⟩).isSome = true := fun k hk => by
    rw [hW1]
    exact isSome_setCells g _ _ _ (fun j hj => by have h2 := hsp ((i + 1) * 10 + j) (by rw [hdl] at hj; omega); exact h2) _ (hsp k hk)
  have hcp2 : ∀ (W : World), (∀ x, W.cell? x = W1.cell? x) → (∀ x, W.frozen? x = W1.frozen? x) → ∀ ty dc, (Builtin.copy_ #[37, 37] ty #[.slice (some ⟨g, i * 10, none⟩) (n + 1 - i) dc, .slice (some ⟨gv, 0, none⟩) 1 1]).run Try.prog W = .ok (goInt 1) (W.setCells g (i * 10) x.cells.toList) := fun W hWc hWf ty dc =>
    run_copy_rows W _ _ ty 35 g (i * 10) (n + 1 - i) dc 10 1 ⟨gv, 0, none⟩ 1 1 x.cells.toList Try.underlying37 hsz (by simp only [Nat.min_def]; split <;> omega) (by simp)
      (fun j v hj => by
        have e : (⟨gv, 0, none⟩ : Addr).add j = ⟨gv, j, none⟩ := by unfold Addr.add; split <;> simp_all
        rw [e, hWc, hW1, World.cell?_setCells_out g _ _ _ _ (fun h _ => absurd h hne)]
        exact cell_at hx (by simpa using hj))
      (fun j hj => by rw [hWc]; exact hsp1 _ (by simp at hj; omega)) (fun j hj => by rw [hWf, hW1, World.frozen?_setCells]; exact hfz _) (fun v hv => Array.all_eq_true_iff_forall_mem.1 (allSm x) v (Array.mem_toList_iff.1 hv))
  rw [← hW1] at hcp1
  go_enter Try.func21, Try.ntmps21
  go_wp2_with (simp only [hov])
  go_region_law_o (refine step_copy_runI rfl _ _ 37 37 rfl _ _ (by simp [Act.eval, Act.put]) (by simp [Act.eval, Act.put]) (hcp1 _ _ _) ?_)
  go_wp2_with (at_builtin; refine wpList_copy_runI _ rfl _ _ 37 37 rfl _ _ rfl rfl (hcp2 _ (fun _ => rfl) (fun _ => rfl) _ _) ?_)
  go_ret
  first | exact ⟨rfl, rfl⟩ | exact ⟨rfl, by rw [hW1]⟩
end Go.Proofs.Ytmhhoaaoofopfaa
