/- What came in, opened: a list of the document's names. -/
import Derived.Test.YtiehdfokcnphdaaGreatDoorPx
import Derived.OpenShut
import Derived.Lib.SmallJoins
namespace Go.Proofs.YtiehdfokcnphdaaGreatDoor
open Go.RowKit Go.ChangeShapes Go.WideShapes

theorem cellsN : Tryz.prog.cellsOf 55 = 2 := by kernel_rfl
theorem cellsS : Tryz.prog.cellsOf 9 = 1 := by kernel_rfl
theorem cellsI : Tryz.prog.cellsOf 3 = 1 := by kernel_rfl
theorem list2 (l : List Value) (h : l.length = 2) : ∃ a b, l = [a, b] := by
  match l, h with
  | [a, b], _ => exact ⟨a, b, rfl⟩
theorem collect {Q : Nat → Nm → Prop} : ∀ len : Nat, (∀ i, i < len → ∃ y : Nm, Q i y) → ∃ l : List Nm, l.length = len ∧ ∀ (i : Nat) (y : Nm), l[i]? = some y → Q i y
  | 0, _ => ⟨[], rfl, by simp⟩
  | len + 1, h => by
    obtain ⟨l, hl, hall⟩ := collect len (fun i hi => h i (by omega))
    obtain ⟨y, hy⟩ := h len (by omega)
    refine ⟨l ++ [y], by simp [hl], fun i z hz => ?_⟩
    by_cases hi : i < l.length
    · rw [List.getElem?_append_left hi] at hz
      exact hall i z hz
    · rw [List.getElem?_append_right (by omega)] at hz
      have hil : i = len := by
        have := (List.getElem?_eq_some_iff.1 hz).1
        simp at this; omega
      subst hil
      simp [hl] at hz
      subst hz
      exact hy
theorem open_names {H : Type} {enc : TypeId × Value → H} {W : World} {held : Bool} {fuel : Nat} {cs : List Value} {x : DataW H × List MemPlace} (h : DataW.trod enc Tryz.prog W 0 (fun _ => true) held fuel 23 cs = some x) :
    ∃ (a : Option Addr) (len cap : Nat) (l : List Nm), cs = [.slice a len cap] ∧ InN W a len l := by
  rcases DataW.trod_slice Tryz.underlying23 h with ⟨hcs, _⟩ | ⟨a, len, cap, elems, rest, n, _, hcs, _, _, hlc, hcm, hel, hget, _, _⟩
  · exact ⟨none, 0, 0, [], hcs, rfl, by simp, fun h => absurd h (by simp)⟩
  · have hone : ∀ i, i < len → ∃ y : Nm, W.cell? (a.add (i * 2)) = some (.string y.name) ∧ W.cell? ⟨(a.add (i * 2)).block, (a.add (i * 2)).off + 1, none⟩ = some (.int .i64 y.level) := by
      intro i hi
      have h1 := hget i hi
      rw [cellsN, List.getElem?_eq_getElem (by omega)] at h1
      obtain ⟨c, hc, htr⟩ := Option.bind_eq_some_iff.1 h1
      obtain ⟨_, hcl, hcc⟩ := World.cells?_some hc
      obtain ⟨y0, y1, m, _, _, h0, h1'⟩ := trod_struct2 Tryz.underlying55 htr
      obtain ⟨v0, v1, rfl⟩ := list2 c hcl
      have h0 : DataW.trod enc Tryz.prog W 0 (fun _ => true) held m 9 [v0] = some y0 := by simpa [cellsS] using h0
      have h1 : DataW.trod enc Tryz.prog W 0 (fun _ => true) held m 3 [v1] = some y1 := by simpa [cellsI] using h1'
      obtain ⟨s, e0, _⟩ := DataW.trod_string Tryz.underlying9 h0
      obtain ⟨k, e1, _⟩ := DataW.trod_int Tryz.underlying3 h1
      simp at e0 e1
      refine ⟨⟨s, k⟩, ?_, ?_⟩
      · have := hcc 0 (by omega)
        have e : (a.add (i * 2)).add 0 = a.add (i * 2) := by
          rw [Addr.add]; simp
        rw [e] at this
        simpa [e0] using this
      · have := hcc 1 (by omega)
        have e : (a.add (i * 2)).add 1 = ⟨(a.add (i * 2)).block, (a.add (i * 2)).off + 1, none⟩ := by
          rw [Addr.add]; simp
        rw [e] at this
        simpa [e1] using this
    obtain ⟨l, hl, hall⟩ := collect len hone
    refine ⟨some a, len, cap, l, hcs, hl.symm, by unfold maxLen at hcm; omega, fun hpos => ⟨a, rfl, ?_, hall⟩⟩
    have := (hall 0 (l[0]'hpos) (List.getElem?_eq_getElem hpos)).1
    have hb := World.block_lt_of_cell? W _ this
    rw [block_add] at hb
    exact hb
end Go.Proofs.YtiehdfokcnphdaaGreatDoor
