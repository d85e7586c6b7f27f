/- slices.Values, Collect at names' numbers: a list gathered anew. -/
import Derived.RangeFuncMany
import Derived.RangeFuncBox
import Derived.RangeFuncNested
import Derived.RangeFuncBound
import Derived.RangeFuncCalls
import Derived.RangeFuncLeaves
import Derived.RangeFuncKeeps
import Derived.WalkKit
import Derived.OwnWalkIn
import Derived.TacticsInMore
import Derived.RegionIn
import Derived.LoopNIn
import Derived.LoopIn
import Derived.Shelf.Abstract
import Derived.Shelf.RegionOpen
import Derived.Maps.AppendAt
import Derived.Test.YtiehdfokcnphdaaGreatDoorBx
import Derived.Test.YtiehdfokcnphdaaGreatDoorPy
import Derived.Sort.MapsRangeIn
import Derived.Sort.KeysCollected
set_option linter.unusedVariables false
namespace Go.Proofs.YtiehdfokcnphdaaGreatDoor
open Go.RowKit Go.Maps Go.Sort Go.Shelf
attribute [local go_sem] Oper.semAt_some

set_option maxRecDepth 100000 in
set_option maxHeartbeats 1000000 in
/-- The iterator of slices.Values: each element, in order. -/
theorem nvalues1_in (F : Fence) (n : Nat) (hF : F.fn 57) (hro : F.round = none) (hn : 1 ≤ n) (l Bm n0 cap : Nat) (A : Option Addr) (xs : List Nm) (J Jx : List Nm → World → Prop)
    (hY : ∀ pre x W, J pre W → pre.length < xs.length → YieldAt F (n - 1) Tryz.prog l #[.agg x.cells] W fun e W' =>
      (e = .returned (.bool true) ∧ J (pre ++ [x]) W' ∧ Below n0 W W') ∨ (e = .returned (.bool false) ∧ Jx (pre ++ [x]) W'))
    (W : World) (hJ : AbidesFrom W.heap.size J) (hBm : Bm < n0) (hn0 : n0 ≤ W.heap.size) (hm : W.cell? ⟨Bm, 0, none⟩ = some (.slice A xs.length cap)) (hrw : RowOf W (fun g => g < n0) 91 2 ⟨A, xs.length, cap⟩ (ncells xs)) (hk : xs.length ≤ 1000000) (h0 : J [] W) :
    CallsIn F n Tryz.prog 57 #[.func (.yield l) #[] #[], .pointer (some ⟨Bm, 0, none⟩)] W fun e W' => (∃ v, e = .returned v) ∧
      ((∃ ys, ys = xs ∧ J ys W') ∨ (∃ pre, True ∧ Jx pre W')) := by
  refine callsIn_of_wp Tryz.func57 rfl hF ?_ hro
  simp only [Tryz.ntmps57, List.size_toArray, List.length_cons, List.length_nil, Nat.reduceAdd, Nat.reduceSub, Array.replicate_succ, Array.replicate_zero, List.push_toArray, List.append_toArray, List.nil_append, List.cons_append]
  have HRW := Lib.hid hrw
  have HJ := Lib.hid hJ
  have HY := Lib.hid hY
  have HJ0 := Lib.hid h0
  clear hrw hJ hY h0
  gi_wp2
  gi_loopw [7] (fun i wr => ∃ k : Nat, k ≤ xs.length ∧ i = .int .i64 k ∧ J (xs.take k) wr ∧ Below n0 W wr) (fun i _ => xs.length - (intOf i).toNat)
  case atStart => exact ⟨0, by omega, rfl, HJ0.out, Below.refl _ _⟩
  case round =>
    obtain ⟨k, hk', rfl, hJk, hb⟩ := hrel
    have HB := Lib.hid hb
    have HJK := Lib.hid hJk
    have hsz := hb.size
    by_cases hlt : k < xs.length
    · have hy : xs[k]? = some xs[k] := List.getElem?_eq_getElem hlt
      have hts : xs.take (k + 1) = xs.take k ++ [xs[k]] := by rw [List.take_succ_eq_append_getElem hlt]
      generalize xs[k] = y at hy hts
      have hrow : (ncells xs)[k]? = some y.cells.toList := by simp [hy]
      obtain ⟨r, ha⟩ : ∃ r, A = some ⟨r, 0, none⟩ := by
        rcases HRW.out.2.2 with ⟨_, hnil⟩ | ⟨r, h1, _⟩
        · have := congrArg List.length hnil; simp at this; subst this; simp at hlt
        · exact ⟨r, h1⟩
      obtain ⟨hr, _, hrw0⟩ := HRW.out.at ha
      have hrw := hrw0.same (hb.block r hr)
      have hrl : r < wr.heap.size := by have := hrw.lt; exact this
      subst ha
      have c0 : wr.cell? ⟨r, k * 2, none⟩ = some (.string y.name) := hrw.cell (d := 0) hrow rfl
      have c1 : wr.cell? ⟨r, k * 2 + 1, none⟩ = some (.int .i64 y.level) := hrw.cell (d := 1) hrow rfl
      have HTS := Lib.hid hts
      have hJ2 : J (xs.take k) (wr.alloc (.cells y.cells 91)) := HJ.out _ wr _ none HJK.out (World.grownBy_alloc _ _ _) (fun r e => by cases e)
      obtain ⟨fn, tmps, assign, body, hy2, hR⟩ := HY.out (xs.take k) y (wr.alloc (.cells y.cells 91)) hJ2 (by simp; omega)
      dsimp only [Nm.cells] at hy2 hR
      have HB2 := Lib.hid (HB.out.trans ((Below.refl n0 wr).alloc (by omega : n0 ≤ wr.heap.size) (.cells #[.string y.name, .int .i64 y.level] 91)))
      clear hy hts hrow hrw hrw0 hb hJk
      gi_wp2
      refine hR.mono ?_
      clear hy2 hR
      rintro e W3 (⟨rfl, hJ3, hk3⟩ | ⟨rfl, hJx3⟩)
      · gi_wp2
        go_roundw
        case rel => exact ⟨k + 1, by omega, by go_num, by rw [HTS.out]; exact hJ3, HB2.out.trans hk3⟩
        case measure => simp [intOf]; omega
      · gi_wp2
        refine bodyPost_ret (results_none rfl _ _ _) rfl ?_
        exact ⟨⟨_, rfl⟩, .inr ⟨_, trivial, hJx3⟩⟩
    · obtain rfl : k = xs.length := by omega
      gi_wp2
      go_end0
      exact ⟨⟨_, rfl⟩, .inl ⟨_, rfl, by have := HJK.out; rwa [List.take_length] at this⟩⟩
theorem nvalues_stops (F : Fence) (n : Nat) (hF : F.fn 57) (hro : F.round = none) (hn : 1 ≤ n) (Bm n0 cap : Nat) (A : Option Addr) (xs : List Nm) (w : World) (hBm : Bm < n0) (hn0 : n0 ≤ w.heap.size)
    (hm : w.cell? ⟨Bm, 0, none⟩ = some (.slice A xs.length cap)) (hrw : RowOf w (fun g => g < n0) 91 2 ⟨A, xs.length, cap⟩ (ncells xs)) (hk : xs.length ≤ 1000000) :
    SeqStopsK F n Tryz.prog 57 #[.pointer (some ⟨Bm, 0, none⟩)] (fun x : Nm => #[Value.agg x.cells]) (Below n0) (fun ys => ys = xs) (fun _ => True) xs.length w := fun l J Jx W hW hJ _ hY h0 =>
  nvalues1_in F n hF hro hn l Bm n0 cap A xs J Jx hY W hJ hBm (Nat.le_trans hn0 hW.size) ((hW.cell (p := ⟨Bm, 0, none⟩) (by show Bm < _; omega)).trans hm) (hrw.same hW.size (fun g hg _ => hW.block g hg)) hk h0
theorem cells_new (w : World) (cs : Array Value) (t : TypeId) : ∀ j u, cs.toList[j]? = some u → (w.alloc (.cells cs t)).cell? ((⟨w.heap.size, 0, none⟩ : Addr).add j) = some u := by
  intro j u hj
  exact World.news_of_block (B := w.heap.size) (cs := cs) (t := t) (fr := (0, 0)) (heap_new w _) j u hj
theorem slot_own (B : Nat) (cs : Array Value) (t : TypeId) (W : World) (Y : World) (row : Option Nat) (h : W.heap[B]? = some (.cells cs t (0, 0))) (hg : W.grownBy Y row) (hr : ∀ r, row = some r → ∃ o : Obj, W.heap[r]? = some o ∧ o.isCells = false) : Y.heap[B]? = some (.cells cs t (0, 0)) := by
  refine (hg.block B (blk_lt h) (fun e => ?_)).trans h
  obtain ⟨o, ho, hc⟩ := hr B e.symm
  rw [h] at ho
  cases ho
  cases hc
set_option maxRecDepth 100000 in
set_option maxHeartbeats 2000000 in
/-- All of a list, appended to nothing. -/
theorem nappendSeq_in (F : Fence) (n : Nat) (h1 : F.fn 67) (hF : F.fn 57) (hro : F.round = none) (hn : 3 ≤ n) (Bm cap : Nat) (A : Option Addr) (xs : List Nm) (w : World) (hBm : Bm < w.heap.size)
    (hm : w.cell? ⟨Bm, 0, none⟩ = some (.slice A xs.length cap)) (hrw : RowOf w (fun g => g < w.heap.size) 91 2 ⟨A, xs.length, cap⟩ (ncells xs)) (hN : xs.length ≤ 1000000) :
    CallsIn F n Tryz.prog 67 #[.slice none 0 0, .func (.func 57) #[] #[.pointer (some ⟨Bm, 0, none⟩)]] w fun e W' =>
      ∃ v, e = .returned v ∧ W'.ownsRow w.heap.size 91 2 v xs.length (ncells xs).flatten ∧ Below w.heap.size w W' := by
  have hn1 : 1 ≤ n := by omega
  obtain ⟨i0, hi, hz0, hz1, hz2⟩ := info_parts infoN
  refine callsIn_of_wp_marks Tryz.func67 rfl h1 ?_ hro
  simp only [Tryz.ntmps67, List.size_toArray, List.length_cons, List.length_nil, Nat.reduceAdd, Nat.reduceSub, Array.replicate_succ, Array.replicate_zero, List.push_toArray, List.append_toArray, List.nil_append, List.cons_append]
  gi_wp2
  have bO := Boxed.new w 31 (.slice none 0 0)
  have hB0 : Below w.heap.size w (w.alloc (.cells #[.slice none 0 0] 31)) := (Below.refl _ w).alloc (Nat.le_refl _) _
  have hm0 : (w.alloc (.cells #[.slice none 0 0] 31)).cell? ⟨Bm, 0, none⟩ = some (.slice A xs.length cap) := (hB0.cell (p := ⟨Bm, 0, none⟩) hBm).trans hm
  have hrw0 := hrw.same hB0.size (fun g hg _ => hB0.block g hg)
  refine wpIn_rangeFunc_ownH hro hn1 (gf := 57) (lb := #[.pointer (some ⟨Bm, 0, none⟩)]) rfl hF (enters_of Tryz.func57 (by kernel_rfl) rfl)
    (nvalues_stops F (n - 1) hF hro (by omega) Bm w.heap.size cap A xs _ hBm hB0.size hm0 hrw0 hN) belowK_t (belowK_b hB0.size) (Below.refl _ _) (fun _ => rfl)
    (fun pre W => (∃ v, Boxed W w.heap.size 31 v ∧ W.ownsRow w.heap.size 91 2 v pre.length (ncells pre).flatten ∧ True) ∧ Below w.heap.size w W)
    (fun _ _ _ => False)
    (OwnFrom.and (Own.from (holdsRow_own w.heap.size w.heap.size 31 91 2 (fun pre : List Nm => pre.length) (fun pre => (ncells pre).flatten) (fun _ _ => True)) _) (ownFrom_below (Nat.le_refl _) (by simp)))
    (fun _ _ _ _ _ hs _ _ => hs)
    ⟨⟨_, bO, World.ownsRow_nil _ _ _ _, trivial⟩, hB0⟩
    (fun x a' W => ∃ Bx, w.heap.size < Bx ∧ W.heap[Bx]? = some (.cells x.cells 91 (0, 0)) ∧ a' = { tmps := #[.slice none 0 0, .func (.func 57) #[] #[.pointer (some ⟨Bm, 0, none⟩)], .pointer (some ⟨w.heap.size, 0, none⟩), undef, .slice none 0 0, .pointer (some ⟨Bx, 0, none⟩), .func (.func 57) #[] #[.pointer (some ⟨Bm, 0, none⟩)], .agg x.cells, undef, undef, undef, undef, undef], defers := [] })
    (fun x a' _ X Y row hs hg hr => by obtain ⟨Bx, h1, h2, h3⟩ := hs; exact ⟨Bx, h1, slot_own Bx _ _ X Y row h2 hg (fun r e => (hr r e).2), h3⟩)
    ?assign ?body ?done ?stop
  case assign =>
    rintro l pre x W K ⟨⟨v, hv, hrow, _⟩, hB⟩ hK
    gi_wp2
    exact hK _ _ ((KeepsOthers.alloc _ _).from _) ((Below.refl _ _).alloc hB.size _) ⟨⟨v, hv.alloc _, hrow.alloc _, trivial⟩, hB.alloc hB.size _⟩ ⟨W.heap.size, hv.lt, heap_new _ _, rfl⟩
  case body =>
    rintro l pre x a' W hl ⟨r, hr⟩ ⟨⟨v, hv, hrow, _⟩, hB⟩ ⟨Bx, hBx, bX, rfl⟩ hlt
    have hc := hv.cell
    have x0 := cell_at (j := 0) bX rfl
    have x1 := cell_at (j := 1) bX rfl
    gi_wp2_with (gi_at_builtin; refine wpListIn_append_own _ rfl _ _ 31 rfl w.heap.size 91 i0 (.agg #[.string ⟨#[]⟩, .int .i64 0]) 2 24 Tryz.underlying31 hi hz0 hz1 hz2 rfl (by decide) _ _ _ rfl (hrow.alloc _) ⟨W.heap.size, 0, none⟩ 1 1 [.string x.name, .int .i64 x.level] rfl rfl (cells_new _ #[.string x.name, .int .i64 x.level] _) (by simp [Value.oneCell']) (by unfold maxLen; omega) (by omega) (by have := hB.size; simp; omega) ?_; intro v' w1 hown' hgrow _; obtain ⟨g', cap', rfl⟩ := ownsRow_succ hown'; obtain ⟨hv1, hv2, hr2, hk2, hb2⟩ := hv.appended (by decide) hrow hB.size (Nat.le_refl _) hown' hgrow; have hc1 := hv1.cell; have hf1 := hv1.frozen)
    exact ⟨hk2.from _, hb2, ⟨_, hv2, by rw [ncells_snoc]; simpa using hr2, trivial⟩, hB.trans hb2⟩
  case done =>
    rintro D ys W hD hys ⟨⟨v, hv, hrow, _⟩, hB⟩ hK
    subst hys
    have hc := hv.cell
    gi_wp2
    refine ⟨by simp, .inl ⟨_, _, rfl, run_takeDeferred hK, ?_⟩⟩
    exact ⟨_, results_tmp rfl _ _ _, v, rfl, ownsRow_putObj hrow _ hK rfl, hB.trans (belowK_b (w := w) (Nat.le_refl _) W D _ _ (by simp at hD; omega) hK rfl rfl)⟩
  case stop =>
    rintro D c pre W _ _ h _
    exact h.elim
/-- slices.Values. -/
abbrev seqN (Bm : Nat) : Value := .func (.func 57) #[] #[.pointer (some ⟨Bm, 0, none⟩)]
theorem nvalues_calls (w : World) (a : Option Addr) (n c : Nat) : Calls Tryz.prog 35 #[.slice a n c] w fun e w' => e = .returned (seqN w.heap.size) ∧ w' = w.alloc (.cells #[.slice a n c] 31) := by
  go_enter Tryz.func35, Tryz.ntmps35
  go_wp2_with fail
  go_ret
  exact ⟨rfl, rfl⟩
/-- slices.Collect. -/
theorem ncollect_calls (w : World) (Bm cap : Nat) (A : Option Addr) (xs : List Nm) (hBm : Bm < w.heap.size) (hm : w.cell? ⟨Bm, 0, none⟩ = some (.slice A xs.length cap)) (hrw : RowOf w (fun g => g < w.heap.size) 91 2 ⟨A, xs.length, cap⟩ (ncells xs)) (hN : xs.length ≤ 1000000) :
    Calls Tryz.prog 55 #[seqN Bm] w fun e w' => ∃ s : Sl, e = .returned s.val ∧ RowOf w' (fun g => w.heap.size ≤ g) 91 2 s (ncells xs) ∧ Below w.heap.size w w' := by
  have HA := Lib.hid (callsIn_wide.1 (nappendSeq_in Fence.wide 6 trivial trivial rfl (by omega) Bm cap A xs w hBm hm hrw hN))
  have HN := Lib.hid hN
  clear hm hrw hN
  go_enter Tryz.func55, Tryz.ntmps55
  go_wp2_with fail
  refine HA.out.mono ?_
  rintro e w1 ⟨v, rfl, hrow, hb⟩
  obtain ⟨s, rfl, hr⟩ := RowOf.of_own (l := ncells xs) hrow (ncells_len xs) (by decide) (by simpa using HN.out)
  have HR := Lib.hid hr
  have HB := Lib.hid hb
  clear hrow hr hb HA
  go_wp2_with fail
  go_ret
  exact ⟨s, rfl, HR.out, HB.out⟩
end Go.Proofs.YtiehdfokcnphdaaGreatDoor
