/- Rows of ten cells that are one's own: an element, one that is set; a load and a store as steps. -/
import Derived.Test.YtmhhoaaoofopfaaLp
set_option linter.unusedVariables false
namespace Go.Proofs.Ytmhhoaaoofopfaa
open Go.RowKit

section
variable {P : Program}
theorem step_load_at {ops : Array Oper} {o : Oper} {a : Act} {w : World} {K : Act → World → Prop} {Q : Exit → Act → World → Prop} {E : Prop} (hgd : o.guard = none) (ty : TypeId) (x : Operand) (ho : o.op = .load ty x)
    (p : Addr) (hx : a.eval x = .pointer (some p)) (cs : Array Value) (d : TypeDesc) (hc : Holds w p cs)
    (hu : P.underlying ty = some d) (hd : d.isRow = true) (hi : (P.info? ty).map (·.size) = some cs.size)
    (h : K (a.put o.dst (.agg cs)) w) : if Region.wanted o (yielded ops a.tmps) = true then Oper.wp P o a w K Q else E := by
  have hw : Region.wanted o (yielded ops a.tmps) = true := by simp [Region.wanted, hgd]
  rw [if_pos hw]
  exact wp_load_at ty x ho p hx cs d hc hu hd hi h
theorem step_store_mid {ops : Array Oper} {o : Oper} {a : Act} {w : World} {K : Act → World → Prop} {Q : Exit → Act → World → Prop} {E : Prop} (hgd : o.guard = none) (ty : TypeId) (x y : Operand) (ho : o.op = .store ty x y)
    (b off : Nat) (cells : Array Value) (hx : a.eval x = .pointer (some ⟨b, off, none⟩)) (hy : a.eval y = .agg cells)
    (ht : w.there b off cells.size) (hi : (P.info? ty).map (·.size) = some cells.size) (h1 : cells.all (·.oneCell') = true)
    (h : K (a.put o.dst undef) (w.setCells b off cells.toList)) : if Region.wanted o (yielded ops a.tmps) = true then Oper.wp P o a w K Q else E := by
  have hw : Region.wanted o (yielded ops a.tmps) = true := by simp [Region.wanted, hgd]
  rw [if_pos hw]
  exact wp_store_mid ty x y ho b off cells hx hy ht hi h1 h
end
theorem own_holdsE {w : World} {base E g cap n : Nat} {l : List Sm} (h : w.ownsRow base E 10 (.slice (some ⟨g, 0, none⟩) n cap) n (smc l).flatten) {k : Nat} {y : Sm} (hy : l[k]? = some y) (hk : k < n) : Holds w ⟨g, k * 10, none⟩ y.cells := by
  intro j v hj
  have hj10 : j < 10 := (Array.getElem?_eq_some_iff.1 hj).1
  have e : (⟨g, k * 10, none⟩ : Addr).add j = ⟨g, k * 10 + j, none⟩ := by unfold Addr.add; split <;> simp_all
  rw [e, World.ownsRow.cellAt h (k * 10 + j) (by omega), smc_at hy hj10]
  exact hj
theorem own_there {w : World} {base E g cap n : Nat} {xs : List Value} (h : w.ownsRow base E 10 (.slice (some ⟨g, 0, none⟩) n cap) n xs) {k : Nat} (hk : k < n) : w.there g (k * 10) 10 := fun j hj => by
  refine ⟨?_, World.ownsRow.frozenAt h _⟩
  rw [World.ownsRow.cellAt h (k * 10 + j) (by omega), List.getElem?_eq_getElem (by rw [h.1]; omega)]
  rfl
/-- One element is set. -/
theorem own_set {w : World} {base E g cap : Nat} {l : List Sm} (h : w.ownsRow base E 10 (.slice (some ⟨g, 0, none⟩) l.length cap) l.length (smc l).flatten) {k : Nat} (hk : k < l.length) (y : Sm) :
    (w.setCells g (k * 10) y.cells.toList).ownsRow base E 10 (.slice (some ⟨g, 0, none⟩) (l.set k y).length cap) (l.set k y).length (smc (l.set k y)).flatten := by
  have hlen : (l.set k y).length = l.length := List.length_set
  rw [hlen]
  rcases h.2 with ⟨h', _⟩ | ⟨g', cap', cur, h', hb, hg, hnc, hcm, hcs, htake⟩
  · simp at h'
  · simp only [Value.slice.injEq, Option.some.injEq, Addr.mk.injEq, and_true, true_and] at h'
    obtain ⟨rfl, rfl⟩ := h'
    have hyl : y.cells.toList.length = 10 := rfl
    obtain ⟨c1, g1, z1, o1, i1⟩ := setCells_get g y.cells.toList (k * 10) w cur E (0, 0) hg (by rw [hyl]; omega)
    refine ⟨by rw [smc_flat, hlen], .inr ⟨g, cap, c1, rfl, hb, g1, hnc, hcm, by omega, ?_⟩⟩
    apply List.ext_getElem?
    intro j
    by_cases hj : j < l.length * 10
    · rw [List.getElem?_take, if_pos hj, Array.getElem?_toList]
      have hq : j / 10 < l.length := by omega
      have hjd : j / 10 * 10 + j % 10 = j := by omega
      by_cases hkj : j / 10 = k
      · have e1 : (l.set k y)[j / 10]? = some y := by rw [hkj, List.getElem?_set_self hk]
        have e2 := smc_at e1 (d := j % 10) (by omega)
        rw [hjd] at e2
        rw [e2]
        have e3 := i1 (j % 10) (by rw [hyl]; omega)
        rw [← hkj, hjd, Array.getElem?_toList] at e3
        exact e3
      · obtain ⟨x, hx⟩ : ∃ x, l[j / 10]? = some x := ⟨_, List.getElem?_eq_getElem hq⟩
        have e1 : (l.set k y)[j / 10]? = some x := by rw [List.getElem?_set_ne (Ne.symm hkj)]; exact hx
        have e2 := smc_at e1 (d := j % 10) (by omega)
        have e4 := smc_at hx (d := j % 10) (by omega)
        rw [hjd] at e2 e4
        rw [e2, ← e4, o1 j (by rw [hyl]; omega), ← htake, List.getElem?_take, if_pos hj, Array.getElem?_toList]
    · rw [List.getElem?_eq_none (by rw [List.length_take]; omega), List.getElem?_eq_none (by rw [smc_flat, hlen]; omega)]
theorem swap_perm {l : List Sm} {a b : Nat} {x y : Sm} (hx : l[a]? = some x) (hy : l[b]? = some y) : ((l.set a y).set b x).Perm l := by
  obtain ⟨ha, rfl⟩ := List.getElem?_eq_some_iff.1 hx
  obtain ⟨hb, rfl⟩ := List.getElem?_eq_some_iff.1 hy
  exact List.set_set_perm ha hb
/-- Summaries that came in. -/
def InS (w : World) (a : Option Addr) (l : List Sm) : Prop :=
  l.length ≤ 9223372036854775807 ∧ (0 < l.length → ∃ x : Addr, a = some x ∧ x.block < w.heap.size ∧ ∀ (i : Nat) (y : Sm), l[i]? = some y → Holds w (x.add (i * 10)) y.cells)
theorem InS.below {B : Nat} {w w' : World} {a : Option Addr} {l : List Sm} (h : InS w a l) (hb : Below B w w') (hB : B = w.heap.size) : InS w' a l := by
  subst hB
  obtain ⟨h1, h2⟩ := h
  refine ⟨h1, fun hl => ?_⟩
  obtain ⟨x, ha, hx, hc⟩ := h2 hl
  exact ⟨x, ha, Nat.lt_of_lt_of_le hx hb.size, fun i y hy => (hc i y hy).below hb (by rw [block_add]; exact hx)⟩
/-- Small numbers that came in. -/
def InT (w : World) (a : Option Addr) (l : List Nat) : Prop :=
  l.length ≤ 9223372036854775807 ∧ (0 < l.length → ∃ x : Addr, a = some x ∧ x.block < w.heap.size ∧ ∀ (i : Nat) (k : Nat), l[i]? = some k → k < 256 ∧ w.cell? (x.add i) = some (.int .u8 k))
theorem InT.below {B : Nat} {w w' : World} {a : Option Addr} {l : List Nat} (h : InT w a l) (hb : Below B w w') (hB : B = w.heap.size) : InT w' a l := by
  subst hB
  obtain ⟨h1, h2⟩ := h
  refine ⟨h1, fun hl => ?_⟩
  obtain ⟨x, ha, hx, hc⟩ := h2 hl
  exact ⟨x, ha, Nat.lt_of_lt_of_le hx hb.size, fun i k hk => ⟨(hc i k hk).1, (hb.cell (p := x.add i) (by rw [block_add]; exact hx)).trans (hc i k hk).2⟩⟩
end Go.Proofs.Ytmhhoaaoofopfaa
