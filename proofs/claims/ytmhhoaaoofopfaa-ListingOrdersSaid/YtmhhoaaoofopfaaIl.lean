/- What came in, opened: a list of summaries, a list of small numbers. -/
import Derived.Test.YtmhhoaaoofopfaaOs
import Derived.OpenShut
import Derived.Lib.SmallJoins
set_option linter.unusedVariables false
namespace Go.Proofs.Ytmhhoaaoofopfaa
open Go.RowKit Go.ChangeShapes Go.WideShapes

theorem cellsSm : Try.prog.cellsOf 32 = 10 := by kernel_rfl
theorem cellsS : Try.prog.cellsOf 9 = 1 := by kernel_rfl
theorem cellsI : Try.prog.cellsOf 3 = 1 := by kernel_rfl
theorem cellsB : Try.prog.cellsOf 4 = 1 := by kernel_rfl
theorem cellsU : Try.prog.cellsOf 5 = 1 := by kernel_rfl
theorem list10 (l : List Value) (h : l.length = 10) : ∃ a b c d e f g i j k, l = [a, b, c, d, e, f, g, i, j, k] := by
  match l, h with
  | [a, b, c, d, e, f, g, i, j, k], _ => exact ⟨a, b, c, d, e, f, g, i, j, k, rfl⟩
theorem collectX {T : Type} {Q : Nat → T → Prop} : ∀ len : Nat, (∀ i, i < len → ∃ y : T, Q i y) → ∃ l : List T, l.length = len ∧ ∀ (i : Nat) (y : T), l[i]? = some y → Q i y
  | 0, _ => ⟨[], rfl, by simp⟩
  | len + 1, h => by
    obtain ⟨l, hl, hall⟩ := collectX len (fun i hi => h i (by omega))
    obtain ⟨y, hy⟩ := h len (by omega)
    refine ⟨l ++ [y], by simp [hl], fun i z hz => ?_⟩
    by_cases hi : i < l.length
    · rw [List.getElem?_append_left hi] at hz
      exact hall i z hz
    · rw [List.getElem?_append_right (by omega)] at hz
      have hil : i = len := by
        have := (List.getElem?_eq_some_iff.1 hz).1
        simp at this; omega
      subst hil
      simp [hl] at hz
      subst hz
      exact hy
set_option maxRecDepth 100000 in
theorem open_sums {H : Type} {enc : TypeId × Value → H} {W : World} {held : Bool} {fuel : Nat} {cs : List Value} {x : DataW H × List MemPlace} (h : DataW.trod enc Try.prog W 0 (fun _ => true) held fuel 22 cs = some x) :
    ∃ (a : Option Addr) (cap : Nat) (l : List Sm), cs = [.slice a l.length cap] ∧ InS W a l := by
  rcases DataW.trod_slice Try.underlying22 h with ⟨hcs, _⟩ | ⟨a, len, cap, elems, rest, n, _, hcs, _, _, hlc, hcm, hel, hget, _, _⟩
  · exact ⟨none, 0, [], hcs, by simp, fun h => absurd h (by simp)⟩
  · have hone : ∀ i, i < len → ∃ y : Sm, Holds W (a.add (i * 10)) y.cells := by
      intro i hi
      have h1 := hget i hi
      rw [cellsSm, List.getElem?_eq_getElem (by omega)] at h1
      obtain ⟨c, hc, htr⟩ := Option.bind_eq_some_iff.1 h1
      obtain ⟨_, hcl, hcc⟩ := World.cells?_some hc
      obtain ⟨c0, c1, c2, c3, c4, c5, c6, c7, c8, c9, rfl⟩ := list10 c hcl
      obtain ⟨xs, m, _, _, _, hxl, hg⟩ := DataW.trod_struct Try.underlying32 htr
      have hxl10 : xs.length = 10 := hxl
      have gs : ∀ (j : Nat) (hj : j < 7) (v : Value), ([c0, c1, c2, c3, c4, c5, c6, c7, c8, c9].drop j).take 1 = [v] → DataW.trod enc Try.prog W 0 (fun _ => true) held m 9 ([c0, c1, c2, c3, c4, c5, c6, c7, c8, c9].drop j |>.take (Try.prog.cellsOf 9)) = xs[j]? → ∃ s : ByteArray, v = .string s := by
        intro j hj v hv hd
        rw [cellsS, hv, List.getElem?_eq_getElem (by omega)] at hd
        obtain ⟨s, e, _⟩ := DataW.trod_string Try.underlying9 hd
        simp at e
        exact ⟨s, e⟩
      obtain ⟨s0, rfl⟩ := gs 0 (by omega) c0 rfl (hg 0 _ rfl)
      obtain ⟨s1, rfl⟩ := gs 1 (by omega) c1 rfl (hg 1 _ rfl)
      obtain ⟨s2, rfl⟩ := gs 2 (by omega) c2 rfl (hg 2 _ rfl)
      obtain ⟨s3, rfl⟩ := gs 3 (by omega) c3 rfl (hg 3 _ rfl)
      obtain ⟨s4, rfl⟩ := gs 4 (by omega) c4 rfl (hg 4 _ rfl)
      obtain ⟨s5, rfl⟩ := gs 5 (by omega) c5 rfl (hg 5 _ rfl)
      obtain ⟨s6, rfl⟩ := gs 6 (by omega) c6 rfl (hg 6 _ rfl)
      have g7 : DataW.trod enc Try.prog W 0 (fun _ => true) held m 3 (([.string s0, .string s1, .string s2, .string s3, .string s4, .string s5, .string s6, c7, c8, c9].drop 7).take (Try.prog.cellsOf 3)) = xs[7]? := hg 7 _ rfl
      have g8 : DataW.trod enc Try.prog W 0 (fun _ => true) held m 4 (([.string s0, .string s1, .string s2, .string s3, .string s4, .string s5, .string s6, c7, c8, c9].drop 8).take (Try.prog.cellsOf 4)) = xs[8]? := hg 8 _ rfl
      have g9 : DataW.trod enc Try.prog W 0 (fun _ => true) held m 4 (([.string s0, .string s1, .string s2, .string s3, .string s4, .string s5, .string s6, c7, c8, c9].drop 9).take (Try.prog.cellsOf 4)) = xs[9]? := hg 9 _ rfl
      rw [cellsI, List.getElem?_eq_getElem (by omega)] at g7
      rw [cellsB, List.getElem?_eq_getElem (by omega)] at g8 g9
      obtain ⟨z7, e7, _⟩ := DataW.trod_int Try.underlying3 g7
      obtain ⟨b8, e8, _⟩ := DataW.trod_bool Try.underlying4 g8
      obtain ⟨b9, e9, _⟩ := DataW.trod_bool Try.underlying4 g9
      simp at e7 e8 e9
      subst e7 e8 e9
      refine ⟨⟨s0, s1, s2, s3, s4, s5, s6, z7, b8, b9⟩, fun j v hj => ?_⟩
      have hj10 : j < 10 := (Array.getElem?_eq_some_iff.1 hj).1
      have h2 := hcc j hj10
      rw [h2]
      simpa using hj
    obtain ⟨l, hl, hall⟩ := collectX len hone
    subst hl
    refine ⟨some a, cap, l, hcs, by unfold maxLen at hcm; omega, fun hpos => ⟨a, rfl, ?_, hall⟩⟩
    have := hall 0 (l[0]'hpos) (List.getElem?_eq_getElem hpos) 0 _ rfl
    have hb := World.block_lt_of_cell? W _ this
    rw [block_add, block_add] at hb
    exact hb
set_option maxRecDepth 100000 in
theorem open_turn {H : Type} {enc : TypeId × Value → H} {W : World} {held : Bool} {fuel : Nat} {cs : List Value} {x : DataW H × List MemPlace} (h : DataW.trod enc Try.prog W 0 (fun _ => true) held fuel 23 cs = some x) :
    ∃ (a : Option Addr) (cap : Nat) (l : List Nat), cs = [.slice a l.length cap] ∧ InT W a l := by
  rcases DataW.trod_slice Try.underlying23 h with ⟨hcs, _⟩ | ⟨a, len, cap, elems, rest, n, _, hcs, _, _, hlc, hcm, hel, hget, _, _⟩
  · exact ⟨none, 0, [], hcs, by simp, fun h => absurd h (by simp)⟩
  · have hone : ∀ i, i < len → ∃ k : Nat, k < 256 ∧ W.cell? (a.add i) = some (.int .u8 k) := by
      intro i hi
      have h1 := hget i hi
      rw [cellsU, List.getElem?_eq_getElem (by omega), Nat.mul_one] at h1
      obtain ⟨c, hc, htr⟩ := Option.bind_eq_some_iff.1 h1
      obtain ⟨_, hcl, hcc⟩ := World.cells?_some hc
      obtain ⟨z, rfl, _, hwf⟩ := DataW.trod_int Try.underlying5 htr
      have hz : 0 ≤ z ∧ z ≤ 255 := by
        unfold Lit.wf at hwf
        rw [Bool.and_eq_true] at hwf
        exact ⟨of_decide_eq_true hwf.1, of_decide_eq_true hwf.2⟩
      obtain ⟨k, rfl⟩ := Int.eq_ofNat_of_zero_le hz.1
      refine ⟨k, by omega, ?_⟩
      have h2 := hcc 0 (by simp)
      have e : (a.add i).add 0 = a.add i := by
        rw [Addr.add]; simp
      rw [e] at h2
      simpa using h2
    obtain ⟨l, hl, hall⟩ := collectX len hone
    subst hl
    refine ⟨some a, cap, l, hcs, by unfold maxLen at hcm; omega, fun hpos => ⟨a, rfl, ?_, hall⟩⟩
    have := (hall 0 (l[0]'hpos) (List.getElem?_eq_getElem hpos)).2
    have hb := World.block_lt_of_cell? W _ this
    rw [block_add] at hb
    exact hb
end Go.Proofs.Ytmhhoaaoofopfaa
