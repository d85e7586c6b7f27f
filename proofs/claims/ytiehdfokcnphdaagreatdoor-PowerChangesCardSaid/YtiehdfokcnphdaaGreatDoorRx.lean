/- What came in, opened: the document's levels. -/
import Derived.Test.YtiehdfokcnphdaaGreatDoorRw
import Derived.Test.YtiehdfokcnphdaaGreatDoorPy
namespace Go.Proofs.YtiehdfokcnphdaaGreatDoor
open Go.RowKit Go.ChangeShapes Go.WideShapes

theorem cellsL : Tryz.prog.cellsOf 25 = 9 := by kernel_rfl
theorem cells7 : Tryz.prog.cellsOf 22 = 7 := by kernel_rfl
theorem cellsNs : Tryz.prog.cellsOf 23 = 1 := by kernel_rfl
theorem list9 (l : List Value) (h : l.length = 9) : ∃ a b c d e f g i j, l = [a, b, c, d, e, f, g, i, j] := by
  match l, h with
  | [a, b, c, d, e, f, g, i, j], _ => exact ⟨a, b, c, d, e, f, g, i, j, rfl⟩
set_option maxRecDepth 100000 in
theorem open_levels {H : Type} {enc : TypeId × Value → H} {W : World} {r : Reach} {b : Nat} {held : Bool} {v : Value} {d : DataW H} {p : List MemPlace} (hv : Value.okWide Tryz.prog W r b 25 v) (h : DataW.Trod enc Tryz.prog W 0 (fun _ => true) held 25 v d p) :
    ∃ (x : L9) (el ul : List Nm), v = .agg x.cells ∧ InN W x.ev.a x.ev.n el ∧ InN W x.us.a x.us.n ul := by
  obtain ⟨cs, rfl, hsz⟩ := okWide_struct Tryz.underlying25 hv
  rw [cellsL] at hsz
  obtain ⟨l⟩ := cs
  obtain ⟨c0, c1, c2, c3, c4, c5, c6, c7, c8, rfl⟩ := list9 l hsz
  obtain ⟨fuel, hf⟩ := h
  obtain ⟨xs, n, _, _, _, hxl, hget⟩ := DataW.trod_struct Tryz.underlying25 hf
  have hxl3 : xs.length = 3 := hxl
  have g0 : DataW.trod enc Tryz.prog W 0 (fun _ => true) held n 22 (([c0, c1, c2, c3, c4, c5, c6, c7, c8].drop 0).take (Tryz.prog.cellsOf 22)) = xs[0]? := hget 0 _ rfl
  have g1 : DataW.trod enc Tryz.prog W 0 (fun _ => true) held n 23 (([c0, c1, c2, c3, c4, c5, c6, c7, c8].drop 7).take (Tryz.prog.cellsOf 23)) = xs[1]? := hget 1 _ rfl
  have g2 : DataW.trod enc Tryz.prog W 0 (fun _ => true) held n 23 (([c0, c1, c2, c3, c4, c5, c6, c7, c8].drop 8).take (Tryz.prog.cellsOf 23)) = xs[2]? := hget 2 _ rfl
  rw [cells7, List.getElem?_eq_getElem (by omega)] at g0
  rw [cellsNs, List.getElem?_eq_getElem (by omega)] at g1 g2
  have g1' : DataW.trod enc Tryz.prog W 0 (fun _ => true) held n 23 [c7] = some xs[1] := g1
  have g2' : DataW.trod enc Tryz.prog W 0 (fun _ => true) held n 23 [c8] = some xs[2] := g2
  have g0' : DataW.trod enc Tryz.prog W 0 (fun _ => true) held n 22 [c0, c1, c2, c3, c4, c5, c6] = some xs[0] := g0
  obtain ⟨ea, en, ec, el, he, hel⟩ := open_names g1'
  obtain ⟨ua, un, uc, ul, hu, hul⟩ := open_names g2'
  obtain ⟨ys, m, _, _, _, hyl, hya⟩ := DataW.trod_array Tryz.underlying22 g0'
  have hint : ∀ i (hi : i < 7), ∀ c, (([c0, c1, c2, c3, c4, c5, c6].drop (i * 1)).take 1) = [c] → ∃ z : Int, c = .int .i64 z := by
    intro i hi c hc
    have := hya i hi
    rw [cellsI, hc, List.getElem?_eq_getElem (by omega)] at this
    obtain ⟨z, e, _⟩ := DataW.trod_int Tryz.underlying3 this
    simp at e
    exact ⟨z, e⟩
  obtain ⟨z0, rfl⟩ := hint 0 (by omega) c0 rfl
  obtain ⟨z1, rfl⟩ := hint 1 (by omega) c1 rfl
  obtain ⟨z2, rfl⟩ := hint 2 (by omega) c2 rfl
  obtain ⟨z3, rfl⟩ := hint 3 (by omega) c3 rfl
  obtain ⟨z4, rfl⟩ := hint 4 (by omega) c4 rfl
  obtain ⟨z5, rfl⟩ := hint 5 (by omega) c5 rfl
  obtain ⟨z6, rfl⟩ := hint 6 (by omega) c6 rfl
  simp at he hu
  subst he hu
  exact ⟨⟨z0, z1, z2, z3, z4, z5, z6, ⟨ea, en, ec⟩, ⟨ua, un, uc⟩⟩, el, ul, rfl, hel, hul⟩
end Go.Proofs.YtiehdfokcnphdaaGreatDoor
