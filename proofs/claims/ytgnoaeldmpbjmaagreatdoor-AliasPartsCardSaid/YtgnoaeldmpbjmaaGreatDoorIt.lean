/- A table's entries, gathered: maps.Values, slices.Collect. -/
import Derived.RangeFuncMany
import Derived.RangeFuncBox
import Derived.RangeFuncNested
import Derived.RangeFuncBound
import Derived.RangeFuncCalls
import Derived.RangeFuncLeaves
import Derived.Sort.MapsRangeIn
import Derived.Sort.KeysCollected
import Derived.WalkKit
import Derived.OwnWalkIn
import Derived.TacticsInMore
import Derived.RegionIn
import Derived.LoopNIn
import Derived.LoopIn
import Derived.Shelf.Abstract
import Derived.Shelf.RegionOpen
import Derived.Maps.AppendAt
import Derived.Test.YtgnoaeldmpbjmaaGreatDoorTb
set_option linter.unusedVariables false
namespace Go.Proofs.YtgnoaeldmpbjmaaGreatDoor
open Go.RowKit Go.Maps Go.Sort Go.Shelf
attribute [local go_sem] Oper.semAt_some

/-- How an entry's value reads. -/
def enR : Value → Option (DataW Value × List MemPlace)
  | .agg ⟨[.string a, .string r, .string b]⟩ => some (.held (.agg #[.string a, .string r, .string b]), [])
  | _ => none
theorem enR_inv {v : Value} {y : DataW Value × List MemPlace} (h : enR v = some y) : ∃ x : En, v = .agg x.cells ∧ y = (.held (.agg x.cells), []) := by
  unfold enR at h
  split at h
  · cases h
    exact ⟨⟨_, _, _⟩, rfl, rfl⟩
  · cases h
theorem enR_mk (x : En) : enR (.agg x.cells) = some (.held (.agg x.cells), []) := rfl
def En.key (x : En) : List UInt8 := x.a.data.toList
/-- Pairs of keys and entries, as the map has them. -/
def EnAt (D0 : DataW Value) (p : List UInt8 × En) : Prop := ∀ zd, D0.atKey (.string p.1) zd = .held (.agg p.2.cells)
def EnAll (D0 : DataW Value) (ps : List (List UInt8 × En)) : Prop := (ps.map (·.1)).Perm (strKeys D0) ∧ (∀ x, x ∈ ps.map (·.1) ↔ has D0 (.string x) = true) ∧ ∀ p ∈ ps, EnAt D0 p

theorem lawS : Keyed Tryz.prog 9 := string_keyed Tryz.underlying9
set_option maxRecDepth 100000 in
set_option maxHeartbeats 1000000 in
theorem values1_in (F : Fence) (n : Nat) (hF : F.fn 72) (hro : F.round = none) (hn : 1 ≤ n) (l Bm b nn : Nat) (D0 : DataW Value) (J Jx : List En → World → Prop)
    (hY : ∀ pre x W, J pre W → pre.length < Maps.size D0 → YieldAt F (n - 1) Tryz.prog l #[.agg x.cells] W fun e W' =>
      (e = .returned (.bool true) ∧ J (pre ++ [x]) W' ∧ KeepsWalks W W') ∨ (e = .returned (.bool false) ∧ Jx (pre ++ [x]) W'))
    (W : World) (hJ : AbidesFrom W.heap.size J) (hm : W.cell? ⟨Bm, 0, none⟩ = some (.map (some b))) (hown : W.ownsMap Tryz.prog 9 enR b nn D0) (h0 : J [] W) :
    CallsIn F n Tryz.prog 72 #[.func (.yield l) #[] #[], .pointer (some ⟨Bm, 0, none⟩)] W fun e W' => (∃ v, e = .returned v) ∧
      ((∃ xs, (∃ ps, EnAll D0 ps ∧ xs = ps.map (·.2)) ∧ J xs W') ∨ (∃ pre, True ∧ Jx pre W')) := by
  refine callsIn_of_wp Tryz.func72 rfl hF ?_ hro
  simp only [Tryz.ntmps72, List.size_toArray, List.length_cons, List.length_nil, Nat.reduceAdd, Nat.reduceSub, Array.replicate_succ, Array.replicate_zero, List.push_toArray, List.append_toArray, List.nil_append, List.cons_append]
  gi_wp2_with (first
    | (gi_at_range; refine wpListIn_range_own _ rfl _ 78 rfl 9 49 lawS Tryz.underlying78 _ b nn _ rfl hown ?_; intro w0 hrg0 hg0 hs0)
    | gi_in)
  go_frame
  gi_loopw [4] (fun _ wr => ∃ (left : Lit → Bool) (cnt : Nat) (ps : List (List UInt8 × En)), wr.ranges Tryz.prog 9 enR b W.heap.size nn D0 left cnt ∧ ps.length + cnt ≤ Maps.size D0 ∧ Collected D0 left (ps.map (·.1)) ∧ (∀ p ∈ ps, EnAt D0 p) ∧ J (ps.map (·.2)) wr)
    (fun _ wr => wr.rangeLeft b W.heap.size)
  case atStart =>
    exact ⟨_, _, [], hrg0, by simp, Collected.start D0, by simp, hJ [] W w0 none h0 hg0 (fun r e => by cases e)⟩
  case round =>
    obtain ⟨left, cnt, ps, hrg, hcs, hC, hV, hJs⟩ := hrel
    gi_wp2_with (first
      | (gi_at_next; refine wpListIn_next_ranges _ rfl _ rfl 9 lawS enR encStr (fun x : En => Value.agg x.cells) (fun key kl hk => by obtain ⟨x, hx, _⟩ := Maps.keyOf_str Tryz.underlying9 hk; exact ⟨x, hx⟩) (fun v y hv => by obtain ⟨c, rfl, _⟩ := enR_inv hv; exact ⟨c, rfl⟩) b W.heap.size nn _ _ _ rfl hrg ?_ ?_)
      | gi_in)
    · intro hc0 hl0
      gi_wp2
      go_end0
      exact ⟨⟨_, rfl⟩, .inl ⟨_, ⟨ps, ⟨hC.perm hown lawS Tryz.underlying9 hl0, fun x => by rw [hC.2 x, hl0]; simp, hV⟩, rfl⟩, hJs⟩⟩
    · intro x c kl yd yp w2 cnt2 hkey hlk hv hat hrg2 hlt hg2 hs2 hen
      obtain ⟨x', ex, rfl, _⟩ := Maps.keyOf_str Tryz.underlying9 hkey
      obtain rfl : x = x' := encStr_inj ex
      obtain ⟨c', ec, ez⟩ := enR_inv hv
      have hcc : c = c' := by
        obtain ⟨a1, a2, a3⟩ := c
        obtain ⟨b1, b2, b3⟩ := c'
        simp at ec
        obtain ⟨rfl, rfl, rfl⟩ := ec
        rfl
      subst hcc
      obtain rfl : yd = .held (.agg c.cells) := (Prod.mk.inj ez).1
      have hJ2 : J (ps.map (·.2)) (w2.alloc (.cells c.cells 49)) := hJ _ w2 _ none (hJ _ wr w2 (some W.heap.size) hJs hg2 (fun r e => by cases e; exact ⟨Nat.le_refl _, hrg.iter_walk⟩)) (World.grownBy_alloc _ _ _) (fun r e => by cases e)
      obtain ⟨fn, tmps, assign, body, hy, hR⟩ := hY (ps.map (·.2)) c (w2.alloc (.cells c.cells 49)) hJ2 (by simp; omega)
      dsimp only [En.cells] at hy hR
      clear hs2
      gi_wp2
      refine hR.mono ?_
      have hC2 : Collected D0 (fun z => left z && !z.sameKey (.string x)) ((ps ++ [(x, c)]).map (·.1)) := by simpa using hC.step hlk hat
      have hV2 : ∀ p ∈ ps ++ [(x, c)], EnAt D0 p := fun p hp => (List.mem_append.1 hp).elim (hV p) (fun e => by simp at e; subst e; exact hat)
      have hrg2' := hrg2.alloc (.cells #[.string c.a, .string c.r, .string c.b] 49)
      clear hy hR hen hrg2
      rintro e W3 (⟨rfl, hJ3, hk3⟩ | ⟨rfl, hJx3⟩)
      · have hrg3 := hrg2'.of_walks hk3
        gi_wp2
        go_roundw
        case rel => exact ⟨_, cnt2, ps ++ [(x, c)], hrg3, by simp; omega, hC2, hV2, by simpa using hJ3⟩
        case measure => rw [hrg3.left_eq, hrg.left_eq]; exact hlt
      · gi_wp2
        refine bodyPost_ret (results_none rfl _ _ _) rfl ?_
        exact ⟨⟨_, rfl⟩, .inr ⟨_, trivial, hJx3⟩⟩

set_option maxHeartbeats 1000000 in
theorem values_in (F : Fence) (n : Nat) (hf : F.fn 45) (hro : F.round = none) (mb : Option Nat) (w : World) :
    CallsIn F n Tryz.prog 45 #[.map mb] w fun e w' => e = .returned (.func (.func 72) #[] #[.pointer (some ⟨w.heap.size, 0, none⟩)]) ∧ w' = w.alloc (.cells #[.map mb] 78) := by
  refine callsIn_of_wp Tryz.func45 rfl hf ?_ hro
  simp only [Tryz.ntmps45, List.size_toArray, List.length_cons, List.length_nil, Nat.reduceAdd, Nat.reduceSub, Array.replicate_succ, Array.replicate_zero, List.push_toArray, List.append_toArray, List.nil_append, List.cons_append]
  gi_wp2
  go_ret
  exact ⟨rfl, rfl⟩
theorem values_stops (F : Fence) (n : Nat) (hF : F.fn 72) (hro : F.round = none) (hn : 1 ≤ n) (Bm b nn : Nat) (D0 : DataW Value) (w : World) (hBm : Bm < w.heap.size)
    (hm : w.cell? ⟨Bm, 0, none⟩ = some (.map (some b))) (hown : w.ownsMap Tryz.prog 9 enR b nn D0) :
    SeqStops F n Tryz.prog 72 #[.pointer (some ⟨Bm, 0, none⟩)] (fun x : En => Value.agg x.cells) (fun xs => ∃ ps, EnAll D0 ps ∧ xs = ps.map (·.2)) (fun _ => True) (Maps.size D0) w := fun l J Jx W hW hJ _ hY h0 => by
  have hown' : W.ownsMap Tryz.prog 9 enR b nn D0 := by
    have hbl := hown.lt
    obtain ⟨es, clock, hb, Ft, hs, hD⟩ := hown
    exact ⟨es, clock, (hW.block b hbl).trans hb, Ft, hs, hD⟩
  exact values1_in F n hF hro hn l Bm b nn D0 J Jx hY W hJ ((hW.cell (p := ⟨Bm, 0, none⟩) hBm).trans hm) hown' h0

theorem infoEn : (Tryz.prog.info? 49).map (fun i => (i.zero, i.size, i.bytes)) = some (some (.agg enZ.cells), 3, 48) := by kernel_rfl
abbrev ecells (l : List En) : List (List Value) := l.map fun x => x.cells.toList
theorem ecells_snoc (l : List En) (x : En) : (ecells (l ++ [x])).flatten = (ecells l).flatten ++ [.string x.a, .string x.r, .string x.b] := by simp [ecells]
theorem cells_new (w : World) (cs : Array Value) (t : TypeId) : ∀ j u, cs.toList[j]? = some u → (w.alloc (.cells cs t)).cell? ((⟨w.heap.size, 0, none⟩ : Addr).add j) = some u := by
  intro j u hj
  exact World.news_of_block (B := w.heap.size) (cs := cs) (t := t) (fr := (0, 0)) (heap_new w _) j u hj
theorem slot_own (B : Nat) (cs : Array Value) (t : TypeId) (W : World) (Y : World) (row : Option Nat) (h : W.heap[B]? = some (.cells cs t (0, 0))) (hg : W.grownBy Y row) (hr : ∀ r, row = some r → ∃ o : Obj, W.heap[r]? = some o ∧ o.isCells = false) : Y.heap[B]? = some (.cells cs t (0, 0)) := by
  refine (hg.block B (blk_lt h) (fun e => ?_)).trans h
  obtain ⟨o, ho, hc⟩ := hr B e.symm
  rw [h] at ho
  cases ho
  cases hc
set_option maxRecDepth 100000 in
set_option maxHeartbeats 2000000 in
/-- All of the map's entries, appended to nothing. -/
theorem appendSeq_in (F : Fence) (n : Nat) (h1 : F.fn 89) (hF : F.fn 72) (hro : F.round = none) (hn : 3 ≤ n) (Bm b nn : Nat) (D0 : DataW Value) (w : World) (hBm : Bm < w.heap.size)
    (hm : w.cell? ⟨Bm, 0, none⟩ = some (.map (some b))) (hown : w.ownsMap Tryz.prog 9 enR b nn D0) (hN : Maps.size D0 ≤ 1000000) :
    CallsIn F n Tryz.prog 89 #[.slice none 0 0, .func (.func 72) #[] #[.pointer (some ⟨Bm, 0, none⟩)]] w fun e W' =>
      ∃ v xs ps, e = .returned v ∧ EnAll D0 ps ∧ xs = ps.map (·.2) ∧ W'.ownsRow w.heap.size 49 3 v xs.length (ecells xs).flatten ∧ Below w.heap.size w W' := by
  have hn1 : 1 ≤ n := by omega
  obtain ⟨i0, hi, hz0, hz1, hz2⟩ := info_parts infoEn
  refine callsIn_of_wp_marks Tryz.func89 rfl h1 ?_ hro
  simp only [Tryz.ntmps89, List.size_toArray, List.length_cons, List.length_nil, Nat.reduceAdd, Nat.reduceSub, Array.replicate_succ, Array.replicate_zero, List.push_toArray, List.append_toArray, List.nil_append, List.cons_append]
  gi_wp2
  have bO := Boxed.new w 60 (.slice none 0 0)
  have hB0 : Below w.heap.size w (w.alloc (.cells #[.slice none 0 0] 60)) := (Below.refl _ w).alloc (Nat.le_refl _) _
  have hown0 : (w.alloc (.cells #[.slice none 0 0] 60)).ownsMap Tryz.prog 9 enR b nn D0 := hown.alloc _
  have hm0 : (w.alloc (.cells #[.slice none 0 0] 60)).cell? ⟨Bm, 0, none⟩ = some (.map (some b)) := (hB0.cell (p := ⟨Bm, 0, none⟩) hBm).trans hm
  refine wpIn_rangeFunc_ownH hro hn1 (gf := 72) (lb := #[.pointer (some ⟨Bm, 0, none⟩)]) rfl hF (enters_of Tryz.func72 (by kernel_rfl) rfl)
    (values_stops F (n - 1) hF hro (by omega) Bm b nn D0 _ (by simp; omega) hm0 hown0) walksK_t walksK_b (Below.refl _ _) (fun _ => rfl)
    (fun pre W => (∃ v, Boxed W w.heap.size 60 v ∧ W.ownsRow w.heap.size 49 3 v pre.length (ecells pre).flatten ∧ True) ∧ Below w.heap.size w W)
    (fun _ _ _ => False)
    (OwnFrom.and (Own.from (holdsRow_own w.heap.size w.heap.size 60 49 3 (fun pre : List En => pre.length) (fun pre => (ecells pre).flatten) (fun _ _ => True)) _) (ownFrom_below (Nat.le_refl _) (by simp)))
    (fun _ _ _ _ _ hs _ _ => hs)
    ⟨⟨_, bO, World.ownsRow_nil _ _ _ _, trivial⟩, hB0⟩
    (fun x a' W => ∃ Bx, w.heap.size < Bx ∧ W.heap[Bx]? = some (.cells x.cells 49 (0, 0)) ∧ a' = { tmps := #[.slice none 0 0, .func (.func 72) #[] #[.pointer (some ⟨Bm, 0, none⟩)], .pointer (some ⟨w.heap.size, 0, none⟩), undef, .slice none 0 0, .pointer (some ⟨Bx, 0, none⟩), .func (.func 72) #[] #[.pointer (some ⟨Bm, 0, none⟩)], .agg x.cells, undef, undef, undef, undef, undef], defers := [] })
    (fun x a' _ X Y row hs hg hr => by obtain ⟨Bx, h1, h2, h3⟩ := hs; exact ⟨Bx, h1, slot_own Bx _ _ X Y row h2 hg (fun r e => (hr r e).2), h3⟩)
    ?assign ?body ?done ?stop
  case assign =>
    rintro l pre x W K ⟨⟨v, hv, hrow, _⟩, hB⟩ hK
    gi_wp2
    exact hK _ _ ((KeepsOthers.alloc _ _).from _) (KeepsOthers.alloc _ _).walks ⟨⟨v, hv.alloc _, hrow.alloc _, trivial⟩, hB.alloc hB.size _⟩ ⟨W.heap.size, hv.lt, heap_new _ _, rfl⟩
  case body =>
    rintro l pre x a' W hl ⟨r, hr⟩ ⟨⟨v, hv, hrow, _⟩, hB⟩ ⟨Bx, hBx, bX, rfl⟩ hlt
    have hc := hv.cell
    have x0 := cell_at (j := 0) bX rfl
    have x1 := cell_at (j := 1) bX rfl
    have x2 := cell_at (j := 2) bX rfl
    gi_wp2_with (gi_at_builtin; refine wpListIn_append_own _ rfl _ _ 60 rfl w.heap.size 49 i0 (.agg enZ.cells) 3 48 Tryz.underlying60 hi hz0 hz1 hz2 rfl (by decide) _ _ _ rfl (hrow.alloc _) ⟨W.heap.size, 0, none⟩ 1 1 [.string x.a, .string x.r, .string x.b] rfl rfl (cells_new _ #[.string x.a, .string x.r, .string x.b] _) (by simp [Value.oneCell']) (by unfold maxLen; omega) (by omega) (by have := hB.size; simp; omega) ?_; intro v' w1 hown' hgrow _; obtain ⟨g', cap', rfl⟩ := ownsRow_succ hown'; obtain ⟨hv1, hv2, hr2, hk2, hb2⟩ := hv.appended (by decide) hrow hB.size (Nat.le_refl _) hown' hgrow; have hc1 := hv1.cell; have hf1 := hv1.frozen)
    exact ⟨hk2.from _, hk2.walks, ⟨_, hv2, by rw [ecells_snoc]; simpa using hr2, trivial⟩, hB.trans hb2⟩
  case done =>
    rintro D ys W hD ⟨ps, hps, rfl⟩ ⟨⟨v, hv, hrow, _⟩, hB⟩ hK
    have hc := hv.cell
    gi_wp2
    refine ⟨by simp, .inl ⟨_, _, rfl, run_takeDeferred hK, ?_⟩⟩
    exact ⟨_, results_tmp rfl _ _ _, v, _, ps, rfl, hps, rfl, ownsRow_putObj hrow _ hK rfl, hB.trans (belowK_b (w := w) (Nat.le_refl _) W D _ _ (by simp at hD; omega) hK rfl rfl)⟩
  case stop =>
    rintro D c pre W _ _ h _
    exact h.elim
end Go.Proofs.YtgnoaeldmpbjmaaGreatDoor
